import Derived.Test.YtpnjgjddabeapaaGreatDoorMp2
namespace Go.Proofs.YtpnjgjddabeapaaGreatDoor
set_option linter.all false
set_option maxHeartbeats 400000000
open List Or Go.Proofs.Tryz
section
variable{m:List (Dg×Value)}{base:Nat}{v:Value}{w:World}
open Go.Proofs Go.Shelf Go.Sort
theorem jM{k:Dg}{z:Dg}{u:Value}(h:aC (ca m k v) z=some u):(z=k/\u=v)\/(z≠k/\aC m z=some u):=by
 rw[bK] at h
 by_cases e:k=z
 ·rw[if_pos e] at h
  cases h
  exact Or.inl ⟨e.symm,rfl⟩
 ·rw[if_neg e] at h
  exact Or.inr ⟨fun a=>e a.symm,h⟩
theorem pC:∀{m:List (Dg×Value)} {k:Dg} {v:Value},aC m k=some v->(k,v)∈m
 |[],_,_,h=>by cases h
 |(a,b)::m,k,v,h=>by
  unfold aC at h
  by_cases e:a=k
  ·rw[if_pos e] at h
   cases h
   subst e
   exact mem_cons_self
  ·rw[if_neg e] at h
   exact mem_cons_of_mem _ (pC h)
theorem Kr.add{o:World}{i:Nat}{K:Nat->Dg}{f n:Value}(h:Kr w base m (cN K i))(C:aC m (K i)=some f\/(aC m (K i)=none/\f= .slice none 0 0))(y:Kp (aR f) w o)(z:o.ownsRow base 3 1 n (cN K i (K i)++[i]).length (bX nI (cN K i (K i)++[i])))
  (B:∀g,n.ownBlock=some g->f.ownBlock=some g\/g=w.heap.size):Kr o base (ca m (K i) n) (cN K (i+1)):=by
 have A:∀k v,aC m k=some v->∀b,v.ownBlock=some b->b<w.heap.size:=fun k v a=>cK (h.rows k v a)
 have p:∀k v,k≠K i->aC m k=some v->∀b,v.ownBlock=some b->b∉aR f:=fun k v c a b d r=>by
  rcases C with x|⟨_,rfl⟩
  ·exact h.sep k (K i) v f a x c b d (aL r)
  ·cases aL r
 refine⟨fun k v a=>?_,fun k s v u a l c b d=>?_⟩
 ·rcases jM a with⟨rfl,rfl⟩|⟨c,a⟩
  ·rw[uQ,if_pos rfl]
   exact z
  ·rw[uQ,if_neg (fun e=>c e.symm)]
   exact cr (h.rows k v a) y (p k v c a)
 ·have t:∀k u,k≠K i->aC m k=some u->∀b,n.ownBlock=some b->u.ownBlock≠some b:=fun k u c l b d j=>by
   rcases B b d with q|q
   ·exact p k u c l b j (gQ q)
   ·have:=A k u l b j
    omega
  rcases jM a with⟨e1,e2⟩|⟨h1,hv2⟩
  ·rcases jM l with⟨e3,e4⟩|⟨h2,hu2⟩
   ·exact absurd (e1.trans e3.symm) c
   ·rw[e2] at d
    exact t s u h2 hu2 b d
  ·rcases jM l with⟨e3,e4⟩|⟨h2,hu2⟩
   ·intro j
    rw[e4] at j
    exact t k v h1 hv2 b j d
   ·exact h.sep k s v u hv2 hu2 c b d
attribute [local irreducible] CG NG SG aP aM Row aG aF aQ aJ bu
theorem BM{p:Nat}{room:Int}{ms:List Em}(D:Pl w base p v room ms)(a:Nb ms)(hl:ms.length<=100000):
  Calls prog 179 #[.pointer (some ⟨p,0,none⟩)] w (fun e f=>∃c m C,e= .returned (.map (some c))/\Kp [] w f/\aF f c (dv (n:=8)) (fun v:Value=>v) m/\Kr f w.heap.size m C/\(∀k,(C k).Perm (cN (pK ms) ms.length k))/\(∀k v,aC m k=some v->(C k).Pairwise (fun x ap=>pN ms x<=pN ms ap))/\(∀j,j<ms.length->∃v,aC m (pK ms j)=some v)/\(∀k v,aC m k=some v->cN (pK ms) ms.length k≠[])):=by
 refine bC func179 rfl ntmps179 rfl ?_
 have a7:=D.blk.lt
 have aJ:∀b,v.ownBlock=some b->b<w.heap.size:=cK D.own
 repeat apply ar
 refine SG.box rfl rfl rfl (ag rfl) (fun d w1 R br H=>?_)
 have H:aG w1 d (.cells #[.pointer (some ⟨p,0,none⟩)] 124):=H
 have bB:=H.lt
 repeat (first|apply ar|refine wt ?_)
 refine SG.makeMap (dv (n:=8)) (fun v:Value=>v) rfl rfl (fun c o L bu hM=>?_)
 have k2:=R.trans L
 have bE:=hM.lt
 have ak:=D.az k2
 obtain⟨ad,ae,rfl,hc,hS⟩:=ak.sl
 obtain⟨-,q1⟩:=ak.rows
 have r1:Row o d 0 [.pointer (some ⟨p,0,none⟩)]:=(Row.all (l:=[.pointer (some ⟨p,0,none⟩)]) H rfl).az L
 repeat (first|apply ar|(apply au;rfl;(first|apply aB|apply aE|apply aZ|apply aU|apply bR|apply dg)<;>first|rfl|assumption|exact wn))
 clear q1 r1
 have s1:=R.size
 have s2:=L.size
 refine CG.loop (X:=Nat×List (Dg×Value)) (fun x=>[(1,.pointer (some ⟨d,0,none⟩)),(3,.map (some c)),(12,.slice ad ms.length ae),(13,.int .i64 (ms.length:Int)),(14,.int .i64 (x.1:Int))])
  (fun x f=>x.1<=ms.length/\Kp [c] o f/\aF f c (dv (n:=8)) (fun v:Value=>v) x.2/\Kr f o.heap.size x.2 (cN (pK ms) x.1)/\(∀j,j<x.1->∃v,aC x.2 (pK ms j)=some v)/\(∀k v,aC x.2 k=some v->cN (pK ms) x.1 k≠[])) (fun x=>ms.length-x.1) (0,[]) ⟨Nat.zero_le _,Kp.refl _ _,hM,⟨fun _ _ h=>(by cases h),fun _ _ _ _ h=>(by cases h)⟩,fun j h=>absurd h (Nat.not_lt_zero j),fun _ _ h=>(by cases h)⟩ (aS.of rfl) ?_
 rintro⟨i,m⟩ w3 ⟨hi,M,J,hR,Q,Y⟩
 simp only at hi J hR Q Y
 refine CG.to [(1,.pointer (some ⟨d,0,none⟩)),(3,.map (some c)),(12,.slice ad ms.length ae),(13,.int .i64 (ms.length:Int)),(14,.int .i64 (i:Int))] (aS.of rfl) ?_
 have s3:=M.size
 have aM:∀b,b<w.heap.size->b∉[c]:=fun b h=>bQ (by omega)
 have hO:dD base o [c]:=hM.BB (by have:=D.mu;have:=R.size;omega)
 have aY:Pl w3 base p (.slice ad ms.length ae) room ms:=ak.kp M (aM p a7) (fun b a=>aM b (aJ b a)) hO
 have k3:Kp [] w w3:=k2.aj M (aW (by omega))
 have r1:Row w3 d 0 [.pointer (some ⟨p,0,none⟩)]:=((Row.all (l:=[.pointer (some ⟨p,0,none⟩)]) H rfl).az L).kp M (bQ (by omega))
 by_cases al:i<ms.length
 ·have g1:(i:Int)<(ms.length:Int):=by omega
  obtain⟨a',c',e',-,a4⟩:=aY.sl
  cases e'
  obtain⟨bo,o1,rfl,bd⟩:=a4.at al
  repeat (first|apply ar|refine ul ?_)
  refine bO rfl ?_
  repeat (first|apply ar|(apply au;rfl;(first|apply aB|apply bf|apply fa)<;>first|rfl|exact zc|assumption|exact wn|apply aT))
  refine SG.alloc rfl rfl rfl (fun b5 w4 E bs I=>?_)
  repeat refine wt ?_
  refine SG.aN (l:=ec ms[i]) rfl rfl (ag rfl) (ag rfl) I (aT _) rfl (lN _) (fun w5 N I=>?_)
  have I:aG w5 b5 (.cells (ec ms[i]).toArray 216):=I
  have ab:Kp [] w3 w5:=E.aj N (aW (by omega))
  have aV:=J.az ab
  have K:=hR.az ab
  clear bd
  obtain⟨-,u0,-⟩:=eO (Row.all I rfl)
  rw[<-DF al] at u0
  repeat (first|apply ar|(apply au;rfl;(first|apply aB|apply bf|apply aU)<;>first|rfl|assumption|exact wn|apply ai))
  refine SG.buildSlice rfl rfl rfl rfl (RH (i:Int)) (fun b6 G y bt av=>?_)
  have ah:=aV.az y
  have t:=K.az y
  have aK:=ab.trans y
  have bD:=av.lt
  have a5:Sl nI 1 G (some ⟨b6,0,none⟩) [i]:=Sl.iL (pre:=[]) (post:=[]) j0 (l:=[i]) (T:=3) av
  obtain⟨F,bh,aI⟩:∃F,(aC m (pK ms i)).elim (Value.slice none 0 0) (fun v:Value=>v)=F/\(aC m (pK ms i)=some F\/(aC m (pK ms i)=none/\F= .slice none 0 0)):=by
   cases h:aC m (pK ms i) with
   |none=>exact⟨_,rfl,Or.inr ⟨rfl,rfl⟩⟩
   |some bm=>exact⟨_,rfl,Or.inl rfl⟩
  refine SG.mapEntry (enc:=dv (n:=8)) (V:=fun v:Value=>v) (kx:=pK ms i) (z:= .slice none 0 0) rfl rfl rfl (ag rfl) (ag rfl) ah gJ.key rfl (fun st o' w7 r aw a8 hE=>?_)
  rw[bh]
  have s7:=r.size
  have bH:=aK.size
  have a1:Kr w7 o.heap.size m (cN (pK ms) i):=t.kp r (fun b a=>by
   rw[mem_singleton] at a
   subst a
   exact Or.inl ah.DN)
  have A:G.ownsRow o.heap.size 3 1 F (cN (pK ms) i (pK ms i)).length (bX nI (cN (pK ms) i (pK ms i))):=by
   rcases aI with h|⟨h,rfl⟩
   ·exact t.rows _ _ h
   ·have:cN (pK ms) i (pK ms i)=[]:=by
     apply eq_nil_iff_forall_not_mem.2
     intro j u
     obtain⟨h1,h2⟩:=jw.1 u
     obtain⟨bm,hu⟩:=Q j h1
     rw[h2,h] at hu
     cases hu
    rw[this]
    exact dY
  have am:c∉aR F:=ah.yL A
  have Z:=cr A r (fun b a s=>by
   rw[mem_singleton] at s
   subst s
   exact am (gQ a))
  have bG:=ab.size
  have bw:=EU (pK ms) i (pK ms i)
  repeat (apply au;rfl;apply dd<;>rfl)
  refine SG.jN (enc:=nI) (xs:=cN (pK ms) i (pK ms i)) (ys:=[i]) (base:=o.heap.size) rfl rfl rfl (ag rfl) (ag rfl) rfl rfl rfl rfl j0 DR Z (a5.kp r (fun b bF e=>by cases e;exact bQ (by omega))) (by simp only[maxLen,length_cons,length_nil];omega) (by simp only[length_cons,length_nil];show(_+_)*8<=_;omega) (by omega) (fun v' w8 S a9 bi=>?_)
  have a2:=a1.add aI S a9 bi
  repeat (apply au;rfl;apply dd<;>rfl)
  refine SG.entryStore (enc:=dv (n:=8)) (V:=fun v:Value=>v) (kx:=pK ms i) (vy:=v') rfl rfl (ag rfl) (ag rfl) (ag rfl) hE (aw.kp S am) (fun w9 aA aX=>?_)
  have aP:=aw.kp S am
  have a3:Kr w9 o.heap.size (ca m (pK ms i) v') (cN (pK ms) (i+1)):=a2.kp aA (fun b a=>by
   rw[mem_singleton] at a
   subst a
   obtain⟨es,cl,rfl⟩:=a8
   exact Or.inl (aG.DN aP))
  have bj:Kp [c] o w9:=(((M.trans aK.any).trans r).aj S (fun aq hz=>by
   exact Or.inr (cj Z aq (aL hz)))).trans aA
  repeat (first|apply ar|refine wz ?_)
  refine NG.round (i+1,ca m (pK ms i) v') (aS.of rfl) ⟨by simp only;omega,bj,aX,a3,fun j u=>?_,fun k v g=>?_⟩ (by simp only;omega)
  ·simp only at u
   rw[bK]
   by_cases e:pK ms i=pK ms j
   ·exact⟨v',by rw[if_pos e]⟩
   ·rw[if_neg e]
    exact Q j (by
     have:j≠i:=fun h=>e (by rw[h])
     omega)
  ·rw[uQ]
   rcases jM g with⟨e1,e2⟩|⟨e1,h2⟩
   ·rw[if_pos e1.symm]
    simp
   ·rw[if_neg (fun e=>e1 e.symm)]
    exact Y k v h2
 ·have g1:¬(i:Int)<(ms.length:Int):=by omega
  have a6:i=ms.length:=by omega
  subst a6
  have bq:=J
  repeat (first|apply ar|refine un ?_)
  refine bA rfl ?_
  repeat (first|apply ar|refine qa0 ?_)
  refine SG.range rfl rfl rfl (ag rfl) J (fun ac w4 E bx hI=>?_)
  have k4:=k3.trans E
  have s4:=E.size
  have bp:(Kp [] w w4):=k4
  repeat apply ar
  refine CG.loop (X:=(Dg->List Nat)×List (Dg×Value)×Option (Dg×Value)) (fun x=>[(1,.pointer (some ⟨d,0,none⟩)),(3,.map (some c)),(31,.pointer (some ⟨ac,0,none⟩))])
   (fun x f=>Kp [] w f/\ac<f.heap.size/\aQ f ac c (dv (n:=8)) (fun v:Value=>v) m x.2.1 x.2.2/\Kr f o.heap.size m x.1/\(∀k,(x.1 k).Perm (cN (pK ms) ms.length k))/\(∀k v,aC m k=some v->(k,v)∉x.2.1->(x.1 k).Pairwise (fun x ap=>pN ms x<=pN ms ap))/\Row f d 0 [.pointer (some ⟨p,0,none⟩)]/\(∀q∈x.2.1,q∈m))
   (fun x=>x.2.1.length) (cN (pK ms) ms.length,m,none) ⟨k4,hI.Ju,hI,hR.az E,fun k=>Perm.refl _,fun k v g W=>absurd (pC g) W,r1.az E,fun _ h=>h⟩ (aS.of rfl) ?_
  rintro⟨C,left,bn⟩ w5 ⟨N,bz,O,K,B,an,bc,ao⟩
  simp only at O K B an ao
  refine CG.to [(1,.pointer (some ⟨d,0,none⟩)),(3,.map (some c)),(31,.pointer (some ⟨ac,0,none⟩))] (aS.of rfl) ?_
  repeat apply ar
  refine SG.next rfl rfl rfl (ag rfl) O (fun h0=>?_) (fun bl q bk G U y af=>?_)
  ·subst h0
   repeat (first|apply ar|(apply au;rfl;apply dd<;>rfl))
   refine bA rfl ?_
   repeat (first|apply ar|refine ww ?_)
   refine aO (Or.inl rfl) results179 (aD.tmp rfl) ?_
   exact⟨c,m,C,rfl,N,O.map,K.mono (by omega),B,fun k v g=>an k v g not_mem_nil,Q,Y⟩
  ·repeat (first|apply ar|(apply au;rfl;apply dd<;>rfl))
   refine bO rfl ?_
   have bb:q∈m:=ao q (by rw[U];simp)
   have aa:aC m q.1=some q.2:=fx J.nodup bb
   have s5:=N.size
   have k6:Kp [] w G:=N.aj y (aW (by omega))
   have t:Kr G o.heap.size m C:=K.kp y (fun b a=>by
    rw[mem_singleton] at a
    subst a
    exact Or.inl (aQ.DN O))
   have a0:=D.az k6
   have A:=t.rows _ _ aa
   have aH:Row G d 0 [.pointer (some ⟨p,0,none⟩)]:=bc.kp y (bQ (by omega))
   have ay:=cj A
   have P:∀b,b<o.heap.size->b∉aR q.2:=fun b al s=>by
    have:=ay b (aL s)
    omega
   have bv:(C q.1).length<=100000:=by
    rw[(B q.1).length_eq]
    have:=EU (pK ms) ms.length q.1
    omega
   repeat (first|apply ar|(apply au;rfl;(first|apply aB|apply aE|apply dd|apply Lz)<;>first|rfl|assumption|exact wn))
   refine SG.val rfl rfl rfl rfl (Hz (vs:=[.pointer (some ⟨d,0,none⟩)]) rfl) ?_
   refine SG.call rfl rfl rfl (vs:=[q.2,lf 196 [.pointer (some ⟨d,0,none⟩)]]) (bg.of rfl) ((yu a0 aH a A (fun j u=>(jw.1 ((B q.1).mem_iff.1 u)).1) (by
    have:=Y q.1 q.2 aa
    obtain⟨j,u⟩:=exists_mem_of_ne_nil _ this
    have:=(jw.1 u).1
    omega) (by omega) (by have:=D.mu;have:=L.size;have:=R.size;omega) (P d (by omega)) (P p (by omega)) (fun b a=>P b (by have:=aJ b a;omega))).mono (fun e w7 hh=>?_))
   obtain⟨he,r,l',ba,be,Z⟩:=hh
   refine⟨_,he,?_⟩
   repeat apply ar
   have ax:=af.kp r (aQ.yL af A) (aF.yL af.map A)
   refine NG.round (fun k=>if k=q.1 then l' else C k,bl++bk,some q) (aS.of rfl) ⟨k6.aj r (fun aq hz=>Or.inr (by have:=ay aq (aL hz);omega)),ax.Ju,ax,⟨fun k v g=>?_,t.sep⟩,fun k=>?_,fun k v g W=>?_,aH.kp r (P d (by omega)),fun x hx=>?_⟩ ?_
   ·simp only
    by_cases e:k=q.1
    ·subst e
     rw[aa] at g
     cases g
     rw[if_pos rfl]
     exact Z
    ·rw[if_neg e]
     exact cr (t.rows k v g) r (fun b a s=>t.sep k q.1 v q.2 g aa e b a (aL s))
   ·simp only
    by_cases e:k=q.1
    ·subst e
     rw[if_pos rfl]
     exact ba.trans (B _)
    ·rw[if_neg e]
     exact B k
   ·simp only at W⊢
    by_cases e:k=q.1
    ·rw[if_pos e]
     exact be
    ·rw[if_neg e]
     refine an k v g (fun s=>W ?_)
     rw[U] at s
     rcases mem_append.1 s with h|h
     ·exact mem_append.2 (Or.inl h)
     ·rcases mem_cons.1 h with h|h
      ·exact absurd (congrArg Prod.fst h) e
      ·exact mem_append.2 (Or.inr h)
   ·refine ao x ?_
    rw[U]
    rcases mem_append.1 hx with h|h
    ·exact mem_append.2 (Or.inl h)
    ·exact mem_append.2 (Or.inr (mem_cons_of_mem _ h))
   ·simp only
    rw[U]
    simp only[length_append,length_cons]
    omega
end
section
variable{z:Int}{Ls:List (List Nat)}{R out t t2:List Nat}{a b k n x:Nat}
section
variable {κ:Type} {K:Nat->κ} {N F:Nat->Int}
structure FF(K:Nat->κ)(N F:Nat->Int)(n:Nat)(Ls:List (List Nat))(R out:List Nat):Prop where
 asc:R.Pairwise (·<·)
 lt:∀j∈R,j<n
 len:R.length+out.length=n
 ord:∀r,Ord K N F R r->Ord K N F (range n) (out++r)
 srt:∀l∈Ls,l.Pairwise (fun x y=>N x<N y/\K x=K y)
 sep:∀(i j:Nat) (l l':List Nat),Ls[i]?=some l->Ls[j]?=some l'->i≠j->∀x∈l,∀y∈l',K x≠K y
 mem:∀j,j∈R↔∃l∈Ls,j∈l
def eR(F:Nat->Int)(a x:Nat):Prop:=F x<F a\/(F a=F x/\a<x)
inductive ub (F:Nat->Int) (Ls:List (List Nat)) (k:Nat):Int->Prop
 |no:(∀(i:Nat) (l:List Nat),i<k->Ls[i]?=some l->l=[])->ub F Ls k (-1)
 |att (b a:Nat) (t:List Nat):b<k->Ls[b]?=some (a::t)->(∀(i x:Nat) (t':List Nat),i<k->Ls[i]?=some (x::t')->x=a\/eR F a x)->ub F Ls k (b:Int)
theorem eR.trans{y:Nat}(h:eR F a x)(b:eR F x y):eR F a y:=by
 unfold eR at*
 omega
theorem eR.tot(h:¬eR F a x):x=a\/eR F x a:=by
 unfold eR at*
 omega
theorem ub.init(a:List (List Nat)):ub F a 0 (-1):= .no (fun i l h=>absurd h (Nat.not_lt_zero i))
theorem ub.skip(h:ub F Ls k z)(d:Ls[k]?=some []):ub F Ls (k+1) z:=by
 cases h with
 |no h=>exact .no (fun i l j c=>by
   by_cases e:i=k
   ·subst e;rw[d] at c;cases c;rfl
   ·exact h i l (by omega) c)
 |att b a t n f g=>exact .att b a t (by omega) f (fun i x m j c=>by
   by_cases e:i=k
   ·subst e;rw[d] at c;cases c
   ·exact g i x m (by omega) c)
theorem ub.first(h:ub F Ls k (-1))(d:Ls[k]?=some (x::t)):ub F Ls (k+1) (k:Int):=by
 generalize m:(-1:Int)=z at h
 cases h with
 |no h=>exact .att k x t (by omega) d (fun i y n l c=>by
   by_cases e:i=k
   ·subst e;rw[d] at c;cases c;exact Or.inl rfl
   ·have:=h i _ (by omega) c
    cases this)
 |att b a t f g j=>omega
theorem ub.xq(h:ub F Ls k (b:Int))(g:Ls[b]?=some (a::t2))(l:Ls[k]?=some (x::t))(m:¬eR F x a):ub F Ls (k+1) (b:Int):=by
 generalize r:(b:Int)=z at h
 cases h with
 |no h=>omega
 |att d o s p f j=>
  have:d=b:=by omega
  subst this
  rw[g] at f
  cases f
  refine .att d a t2 (by omega) g (fun i y n q c=>?_)
  by_cases e:i=k
  ·subst e
   rw[l] at c
   cases c
   rcases eR.tot m with h|h
   ·exact Or.inl h.symm
   ·exact Or.inr h
  ·exact j i y n (by omega) c
theorem ub.turn(h:ub F Ls k (b:Int))(m:Ls[b]?=some (a::t2))(f:Ls[k]?=some (x::t))(g:eR F x a):ub F Ls (k+1) (k:Int):=by
 generalize r:(b:Int)=z at h
 cases h with
 |no h=>omega
 |att j o s p d l=>
  have:j=b:=by omega
  subst this
  rw[m] at d
  cases d
  refine .att k x t (by omega) f (fun i y n q c=>?_)
  by_cases e:i=k
  ·subst e
   rw[f] at c
   cases c
   exact Or.inl rfl
  ·rcases l i y n (by omega) c with h|h
   ·rw[h];exact Or.inr g
   ·exact Or.inr (g.trans h)
theorem ub.get(h:ub F Ls Ls.length z)(m:∃l∈Ls,l≠[]):∃(b a:Nat) (t:List Nat),z=(b:Int)/\Ls[b]?=some (a::t)/\∀l∈Ls,∀x f,l=x::f->x=a\/eR F a x:=by
 cases h with
 |no h=>
  obtain⟨l,d,k⟩:=m
  obtain⟨i,c,rfl⟩:=getElem_of_mem d
  exact absurd (h i _ c (getElem?_eq_getElem c)) k
 |att b a t n g j=>
  refine⟨b,a,t,rfl,g,fun l d x f e=>?_⟩
  subst e
  obtain⟨i,c,e⟩:=getElem_of_mem d
  exact j i x f c (by rw[getElem?_eq_getElem c,e])
theorem Hb{X Y:List Nat}(h:(X++a::Y).Pairwise (·<·)):(X++Y).Pairwise (·<·)/\(∀x∈X,x<a)/\(∀y∈Y,a<y):=by
 rw[pairwise_append,pairwise_cons] at h
 obtain⟨d,⟨e,f⟩,c⟩:=h
 exact⟨pairwise_append.2 ⟨d,f,fun x b y g=>c x b y (mem_cons_of_mem _ g)⟩,fun x b=>c x b a mem_cons_self,e⟩
theorem FF.step(h:FF K N F n Ls R out)(p:Ls[b]?=some (a::t))(H:∀l∈Ls,∀x k,l=x::k->x=a\/eR F a x):
  ∃E,FF K N F n (Ls.set b t) E (out++[a])/\E.length+1=R.length:=by
 have z:b<Ls.length:=(List.getElem?_eq_some_iff.1 p).1
 have A:a::t∈Ls:=mem_of_getElem? p
 have P:a∈R:=(h.mem a).2 ⟨_,A,mem_cons_self⟩
 obtain⟨X,Y,rfl⟩:=append_of_mem P
 obtain⟨M,G,O⟩:=Hb h.asc
 have D:=pairwise_cons.1 (h.srt _ A)
 have J:∀j,j∈X++Y↔(j∈X++a::Y/\j≠a):=fun j=>by
  rw[mem_append,mem_append,mem_cons]
  constructor
  ·rintro(f|f)
   ·exact⟨Or.inl f,by have:=G j f;omega⟩
   ·exact⟨Or.inr (Or.inr f),by have:=O j f;omega⟩
  ·rintro⟨f|f|f,U⟩
   ·exact Or.inl f
   ·exact absurd f U
   ·exact Or.inr f
 have I:∀e∈X++a::Y,zR K N (X++a::Y) e->∃l∈Ls,∃k,l=e::k:=fun e q s=>by
  obtain⟨l,d,u⟩:=(h.mem e).1 q
  cases l with
  |nil=>cases u
  |cons x k=>
   rcases mem_cons.1 u with rfl|u
   ·exact⟨_,d,k,rfl⟩
   ·have Z:=(pairwise_cons.1 (h.srt _ d)).1 e u
    have r:x∈X++a::Y:=(h.mem x).2 ⟨_,d,mem_cons_self⟩
    have:=s x r Z.2
    omega
 have Q:sw K N F X a Y:=by
  refine⟨fun o V S=>?_,fun e q s=>?_,fun e q s=>?_⟩
  ·obtain⟨l,d,v⟩:=(h.mem o).1 V
   obtain⟨i,c⟩:=getElem?_of_mem d
   by_cases e:i=b
   ·subst e
    rw[p] at c
    cases c
    rcases mem_cons.1 v with rfl|v
    ·exact Int.le_refl _
    ·have:=(D.1 o v).1
     omega
   ·exact absurd S (h.sep i b l (a::t) c p e o v a mem_cons_self)
  ·obtain⟨l,d,k,m⟩:=I e q s
   rcases H l d e k m with rfl|B
   ·exact Int.le_refl _
   ·unfold eR at B
    omega
  ·have T:e∈X++a::Y:=mem_append.2 (Or.inl q)
   obtain⟨l,d,k,m⟩:=I e T s
   have:=G e q
   rcases H l d e k m with rfl|B
   ·omega
   ·unfold eR at B
    omega
 refine⟨X++Y,⟨M,fun j f=>h.lt j ((J j).1 f).1,?_,fun aa W=>?_,fun l d=>?_,fun i j l l' c f C x r y hy=>?_,fun j=>?_⟩,?_⟩
 ·have:=h.len
  simp only[length_append,length_cons,length_nil] at this⊢
  omega
 ·have:=h.ord _ (Ord.step X a Y aa Q W)
  rw[append_assoc]
  exact this
 ·rcases mem_or_eq_of_mem_set d with d|rfl
  ·exact h.srt l d
  ·exact D.2
 ·have L:∀(i:Nat) (l:List Nat) (x:Nat),(Ls.set b t)[i]?=some l->x∈l->∃w,Ls[i]?=some w/\x∈w:=fun i l x c r=>by
   rw[getElem?_set] at c
   by_cases e:b=i
   ·subst e
    rw[if_pos rfl,if_pos z] at c
    cases c
    exact⟨_,p,mem_cons_of_mem _ r⟩
   ·rw[if_neg e] at c
    exact⟨l,c,r⟩
  obtain⟨w,q1,q2⟩:=L i l x c r
  obtain⟨l3,q3,q4⟩:=L j l' y f hy
  exact h.sep i j w l3 q1 q3 C x q2 y q4
 ·rw[J,h.mem]
  constructor
  ·rintro⟨⟨l,d,g⟩,C⟩
   obtain⟨i,c⟩:=getElem?_of_mem d
   by_cases e:i=b
   ·subst e
    rw[p] at c
    cases c
    rcases mem_cons.1 g with rfl|g
    ·exact absurd rfl C
    ·exact⟨t,mem_of_getElem? (i:=i) (by rw[getElem?_set,if_pos rfl,if_pos z]),g⟩
   ·exact⟨l,mem_of_getElem? (i:=i) (by rw[getElem?_set,if_neg (fun h=>e h.symm)];exact c),g⟩
  ·rintro⟨l,d,g⟩
   obtain⟨i,c⟩:=getElem?_of_mem d
   rw[getElem?_set] at c
   by_cases e:b=i
   ·subst e
    rw[if_pos rfl,if_pos z] at c
    cases c
    refine⟨⟨_,A,mem_cons_of_mem _ g⟩,fun m=>?_⟩
    subst m
    have:=(D.1 j g).1
    omega
   ·rw[if_neg e] at c
    refine⟨⟨l,mem_of_getElem? c,g⟩,fun m=>?_⟩
    subst m
    exact h.sep b i (j::t) l p c e j mem_cons_self j g rfl
 ·simp only[length_append,length_cons]
  omega
theorem FF.full(h:FF K N F n Ls R out)(a:out.length<n):∃l∈Ls,l≠[]:=by
 have:=h.len
 cases R with
 |nil=>simp at this;omega
 |cons x R=>
  obtain⟨l,a,b⟩:=(h.mem x).1 mem_cons_self
  exact⟨l,a,fun e=>by rw[e] at b;cases b⟩
theorem FF.last(h:FF K N F n Ls R out)(b:¬out.length<n):Ord K N F (range n) out:=by
 have:=h.len
 have a:R=[]:=eq_nil_of_length_eq_zero (by omega)
 subst a
 have:=h.ord [] .nil
 simpa using this
end
end
section
variable{base cap g k n:Nat}{T:TypeId}{inf:TypeInfo}
section
variable {α:Type} {enc:α->List Value} {sz:Nat}
theorem yI{P:Program}{w:World}[f:dJ P T inf]{l:List α}(a:∀x,(enc x).length=inf.size)(p:∀x,bI (enc x)=true)(o:w.ownsRow base T inf.size (.slice (some ⟨g,0,none⟩) n cap) n (bX enc l))(d:l.length=n)(m:k<l.length)(x:α){e:Value}(b:e.cells.toList=enc x):
  ∃h,(Instr.storeAt T (.pointer (some ⟨g,0+k*inf.size,none⟩)) e).run P w= .ok () h/\h.ownsRow base T inf.size (.slice (some ⟨g,0,none⟩) n cap) n (bX enc (l.set k x))/\Kp [g] w h:=by
 rcases o with⟨h1,⟨h2,_⟩|⟨g',cap',cur,h2,hb,hg,hc1,hc2,hc3,hc4⟩⟩
 ·cases h2
 ·cases h2
  have c:aG w g (.cells cur T):=hg
  have s:k*inf.size+inf.size<=n*inf.size:=by
   have:(k+1)*inf.size<=n*inf.size:=Nat.mul_le_mul_right _ (by omega)
   rwa [Nat.add_mul,Nat.one_mul] at this
  have r:n*inf.size<=cap*inf.size:=Nat.mul_le_mul_right _ hc1
  have i:=fO (P:=P) (T:=T) (off:=0+k*inf.size) (v:=e) c (by rw[b];exact a x) (by rw[b,a x];omega) (by rw[b];exact p x)
  rw[b] at i
  refine⟨_,i,⟨by rw[cD a,length_set,d],Or.inr ⟨g,cap,_,rfl,hb,c.set _,hc1,hc2,?_,?_⟩⟩,Kp.set w c rfl rfl⟩
  ·have:=jS (cs:=cur.toList) (off:=0+k*inf.size) (l:=enc x) (by rw[a x];simp;omega)
   rw[size_toArray,this]
   simpa using hc3
  ·have q:cur.toList=[]++(bX enc l++cur.toList.drop (n*inf.size)):=by
    rw[nil_append]
    conv=>lhs;rw[<-take_append_drop (n*inf.size) cur.toList]
    rw[hc4]
   have j:=AF a l k m x [] (cur.toList.drop (n*inf.size))
   rw[<-q,length_nil,nil_append] at j
   rw[toList_toArray,j]
   refine(take_append_of_le_length ?_).trans (take_of_length_le ?_)
   ·rw[cD a,length_set,d];exact Nat.le_refl _
   ·rw[cD a,length_set,d];exact Nat.le_refl _
end
section
variable {P:Program} {α:Type} {enc:α->List Value} {m:Nat} {Q:Exit->Act->World->Prop} {ops rest:List Oper} {L:Env} {w:World} {ty:TypeId} {pos:String} {af:Array Edge} {q:Option (Nat×Bool)}
theorem SG.H5[f:dJ P T inf]{l:List α}{a x:Operand}{y:α}{o:Nat}(p:∀x,(enc x).length=inf.size)(z:∀x,bI (enc x)=true)(A:want ops L ⟨none,.store T a x,ty,pos,af,q⟩=some true)(r:(known L a&&known L x)=true)
  (i:bH L a= .pointer (some ⟨g,o,none⟩)) (v:o=0+k*inf.size) {vy:Value} (B:bH L x=vy) (j:vy.cells.toList=enc y) (u:w.ownsRow base T inf.size (.slice (some ⟨g,0,none⟩) n cap) n (bX enc l)) (t:l.length=n) (s:k<l.length)
  (h:∀b,Kp [g] w b->b.ownsRow base T inf.size (.slice (some ⟨g,0,none⟩) n cap) n (bX enc (l.set k y))->SG P m ops Q rest L b):SG P m ops Q (⟨none,.store T a x,ty,pos,af,q⟩::rest) L w:=by
 subst v
 refine SG.op rfl rfl A (by simpa[Op.operands] using r) ?_
 obtain⟨b,c,d,e⟩:=yI (P:=P) p z u t s y j
 unfold bD
 have:(execOp (bH L) ⟨none,.store T a x,ty,pos,af,q⟩).run P w= .ok .skip b:=by
  simp only[execOp,B,i,Sem.run_bind,c,Result.andThen,Sem.run_pure]
 rw[this]
 exact h b e d
end
end
section
variable{room:Int}{ms:List Em}{n:Nat}{K:Nat->Dg}{N:Nat->Int}
open Go.Proofs Go.Shelf Go.Sort
structure Hw where
 a:Option Addr
 c:Nat
 l:List Nat
def BR(h:Hw):Value:= .slice h.a h.l.length h.c
def HJ(h:Hw):List Value:=[BR h]
theorem ox(h:Hw):(HJ h).length=1:=rfl
theorem Ay(h:Hw):bI (HJ h)=true:=rfl
theorem VN(a:Option Addr)(n c:Nat)(w:World):(Instr.buildSlice 279 1 #[(0,.slice a n c)]).run prog w= .ok (.slice (some ⟨w.heap.size,0,none⟩) 1 1) {w with heap:=w.heap.push (.cells #[.slice a n c] 245)}:=by kernel_rfl
noncomputable def cG(ms:List Em):List Nat:=Bw (pK ms) (pN ms) (pF ms) (range ms.length)
theorem IL(f:df room (ms.map Em.en)){i j:Nat}(a:i<ms.length)(b:j<ms.length)(g:i≠j)(c:pK ms i=pK ms j):pN ms i≠pN ms j:=by
 have d:∀{i j:Nat} (a:i<ms.length) (b:j<ms.length),i<j->pK ms i=pK ms j->pN ms i≠pN ms j:=fun{i j} a b k c=>by
  have h:=pairwise_iff_getElem.1 f.dst i j (by simpa using a) (by simpa using b) k
  rw[DF a,DF b] at c
  rw[wk a,wk b]
  intro l
  refine h ⟨?_,?_⟩
  ·simp only[getElem_map]
   exact c
  ·simp only[getElem_map]
   exact l
 rcases Nat.lt_or_gt_of_ne g with h|h
 ·exact d a b h c
 ·exact fun e=>d b a h c.symm e.symm
theorem A5{k:Dg}(e:∀i j,i<n->j<n->i≠j->K i=K j->N i≠N j){l:List Nat}(a:l.Perm (cN K n k))(g:l.Pairwise (fun x y=>N x<=N y)):l.Pairwise (fun x y=>N x<N y/\K x=K y):=by
 have f:l.Nodup:=a.nodup_iff.2 (ET K n k)
 refine(Pairwise.and g f).imp_of_mem (fun{x y} m o h=>?_)
 have c:=jw.1 (a.mem_iff.1 m)
 have d:=jw.1 (a.mem_iff.1 o)
 have b:K x=K y:=c.2.trans d.2.symm
 have:=e x y c.1 d.1 h.2 b
 have:=h.1
 exact⟨by omega,b⟩
theorem Db{F:Nat->Int}{m:List (Dg×Value)}{C:Dg->List Nat}{d:List (Dg×Hw)}(G:∀f a,f<n->a<n->f≠a->K f=K a->N f≠N a)(w:(m.map (·.1)).Nodup)
  (o:∀k,(C k).Perm (cN K n k)) (L:∀k v,aC m k=some v->(C k).Pairwise (fun x y=>N x<=N y)) (E:∀a,a<n->∃v,aC m (K a)=some v) (s:(d.map (fun y=>(y.1,BR y.2))).Perm m) (p:∀y∈d,y.2.l=C y.1):
  FF K N F n (d.map (fun y=>y.2.l)) (range n) []:=by
 have I:(d.map (fun y=>y.1)).Nodup:=by
  have g:((d.map (fun y=>(y.1,BR y.2))).map (·.1)).Perm (m.map (·.1)):=s.map _
  rw[map_map] at g
  exact g.nodup_iff.2 w
 have H:∀y∈d,aC m y.1=some (BR y.2):=fun y b=>by
  have:(y.1,BR y.2)∈m:=s.mem_iff.1 (mem_map.2 ⟨y,b,rfl⟩)
  exact fx w this
 refine⟨pairwise_lt_range,fun a c=>mem_range.1 c,by simp,fun r h=>h,fun A q=>?_,fun f a A X u c J x z y b=>?_,fun a=>?_⟩
 ·obtain⟨y,b,rfl⟩:=mem_map.1 q
  rw[p y b]
  exact A5 G (o y.1) (L y.1 _ (H y b))
 ·rw[getElem?_map] at u c
  obtain⟨V,g,rfl⟩:=Option.map_eq_some_iff.1 u
  obtain⟨W,t,rfl⟩:=Option.map_eq_some_iff.1 c
  have T:=mem_of_getElem? g
  have U:=mem_of_getElem? t
  rw[p V T] at z
  rw[p W U] at b
  have P:=(jw.1 ((o _).mem_iff.1 z)).2
  have Q:=(jw.1 ((o _).mem_iff.1 b)).2
  rw[P,Q]
  intro e
  obtain⟨R,B⟩:=List.getElem?_eq_some_iff.1 g
  obtain⟨S,D⟩:=List.getElem?_eq_some_iff.1 t
  have:=(getElem_inj (xs:=d.map (fun y=>y.1)) (i:=f) (j:=a) (h₀:=by simpa using R) (h₁:=by simpa using S) I).1 (by simp only[getElem_map,B,D];exact e)
  exact J this
 ·rw[mem_range]
  constructor
  ·intro c
   obtain⟨v,M⟩:=E a c
   have O:=s.mem_iff.2 (pC M)
   obtain⟨y,b,e⟩:=mem_map.1 O
   refine⟨y.2.l,mem_map.2 ⟨y,b,rfl⟩,?_⟩
   rw[p y b]
   have:y.1=K a:=congrArg Prod.fst e
   rw[this]
   exact(o _).mem_iff.2 (jw.2 ⟨c,rfl⟩)
  ·rintro⟨A,q,c⟩
   obtain⟨y,b,rfl⟩:=mem_map.1 q
   rw[p y b] at c
   exact(jw.1 ((o _).mem_iff.1 c)).1
attribute [local irreducible] CG NG SG aP aM Row aG aF aQ aJ bu
theorem zN{w:World}{base p:Nat}{v:Value}(k:Pl w base p v room ms){x y:Nat}(o:x<ms.length)(q:y<ms.length):
  ∃r:Bool,(r=true↔eR (pF ms) x y)/\dq prog 180 #[.pointer (some ⟨p,0,none⟩),.int .i64 (x:Int),.int .i64 (y:Int)] w (.bool r):=by
 refine⟨(decide (pF ms y<pF ms x))||((decide (pF ms x=pF ms y))&&decide (x<y)),by unfold eR;simp,?_⟩
 refine dG func180 rfl ntmps180 rfl ?_
 obtain⟨a,c,rfl,C,l⟩:=k.sl
 obtain⟨-,u⟩:=k.rows
 obtain⟨g,s,rfl,m⟩:=l.at o
 have n:Row w g (s+y*22) (ec ms[y]):=l.row (getElem?_eq_getElem q)
 obtain⟨-,-,-,z,-⟩:=eO m
 obtain⟨-,-,-,A,-⟩:=eO n
 rw[DG o,DG q]
 repeat (first|apply ar|refine wt ?_)
 refine CG.tail mixed 19 [0,1,2,3,4,5,6,7,8,9,10,11,12,13,14,15,16,17,18] (by kernel_rfl) ?_
 repeat (apply bW;rfl;rfl;(first|apply aB|apply aE|apply aZ|apply aU|apply bR|apply fa)<;>first|rfl|exact zc|assumption|exact wn)
 refine aM.tl (fun D f _ _=>?_)
 clear z A u m n
 generalize ms[x].x.t.fee=b
 generalize ms[y].x.t.fee=d
 by_cases h:d<b
 ·have e:((decide (d<b))||((decide (b=d))&&decide (x<y)))=true:=by simp[h]
  rw[e]
  repeat (first|apply ar|(apply au;rfl;(first|apply aB|apply aE|apply cI|apply ij)<;>first|rfl|exact qf)|refine SG.skip rfl rfl ?_)
  refine aO (Or.inl rfl) results180 (aD.tmp rfl) ?_
  exact⟨rfl,f⟩
 ·by_cases j:b=d
  ·by_cases B:(x:Int)<(y:Int)
   ·have i:x<y:=by omega
    have e:((decide (d<b))||((decide (b=d))&&decide (x<y)))=true:=by simp[j,i]
    rw[e]
    repeat (first|apply ar|(apply au;rfl;(first|apply aB|apply aE|apply cI|apply cg|apply fE|apply ij)<;>first|rfl|exact qf|exact qr))
    refine aO (Or.inl rfl) results180 (aD.tmp rfl) ?_
    exact⟨rfl,f⟩
   ·have i:¬x<y:=by omega
    have e:((decide (d<b))||((decide (b=d))&&decide (x<y)))=false:=by simp only[decide_eq_false h,decide_eq_false i,Bool.and_false,Bool.or_false]
    rw[e]
    repeat (first|apply ar|(apply au;rfl;(first|apply aB|apply aE|apply cI|apply cg|apply fE|apply ij)<;>first|rfl|exact qf|exact qr))
    refine aO (Or.inl rfl) results180 (aD.tmp rfl) ?_
    exact⟨rfl,f⟩
  ·have e:((decide (d<b))||((decide (b=d))&&decide (x<y)))=false:=by simp only[decide_eq_false h,decide_eq_false j,Bool.false_and,Bool.or_false]
   rw[e]
   repeat (first|apply ar|(apply au;rfl;(first|apply aB|apply aE|apply cI|apply fE|apply ij)<;>first|rfl|exact qr)|refine SG.skip rfl rfl ?_)
   refine aO (Or.inl rfl) results180 (aD.tmp rfl) ?_
   exact⟨rfl,f⟩
end
section
variable{w:World}
open Go.Proofs Go.Shelf Go.Sort
theorem tv{f:Type}:∀{l u:List f},l.Nodup->(∀x∈l,x∈u)->l.length<=u.length
 |[],u,_,_=>Nat.zero_le _
 |x::l,u,e,c=>by
  obtain⟨X,Y,rfl⟩:=append_of_mem (c x mem_cons_self)
  have b:=nodup_cons.1 e
  have:=tv (l:=l) (u:=X++Y) b.2 (fun z d=>by
   have a:=c z (mem_cons_of_mem _ d)
   rw[mem_append,mem_cons] at a
   rw[mem_append]
   rcases a with h|rfl|h
   ·exact Or.inl h
   ·exact absurd d b.1
   ·exact Or.inr h)
  simp only[length_append,length_cons] at this⊢
  omega
theorem E2{b:Nat}{o:Obj}(h:w.heap[b]?=some o):aG w b o:=h
attribute [local irreducible] CG NG SG aP aM Row aG aF aQ aJ bu
theorem rj{base p:Nat}{v:Value}{room:Int}{ms:List Em}(hP:Pl w base p v room ms)(hI:df room (ms.map Em.en))(hr:room<=1024):
  kr prog 3 nI 1 159 #[.pointer (some ⟨p,0,none⟩)] w (cG ms):=by
 refine bC func159 rfl ntmps159 rfl ?_
 have b1:ms.length<=1024:=by have:=hI.len;rw[length_map] at this;omega
 have hb:=hI.nb
 repeat (first|apply ar|refine ww ?_)
 refine SG.call rfl rfl rfl (vs:=[.pointer (some ⟨p,0,none⟩)]) (bg.of rfl) ((BM hP hb (by omega)).mono (fun e z O=>?_))
 obtain⟨bm,m,C,he,aP,hM,hR,hC,bf,a8,bB⟩:=O
 refine⟨_,he,?_⟩
 clear he
 refine SG.range rfl rfl rfl (ag rfl) hM (fun aH w2 bb b3 a7=>?_)
 have s1:=aP.size
 repeat apply ar
 refine CG.loop (X:=Value×List (Dg×Hw)×List (Dg×Value)×Option (Dg×Value)) (fun x=>[(0,.pointer (some ⟨p,0,none⟩)),(3,x.1),(12,.pointer (some ⟨aH,0,none⟩))])
  (fun x I=>Kp [] z I/\aH<I.heap.size/\aQ I aH bm (dv (n:=8)) (fun v:Value=>v) m x.2.2.1 x.2.2.2/\(x.2.1.map (fun d=>(d.1,BR d.2))++x.2.2.1).Perm m/\(∀d∈x.2.1,d.2.l=C d.1/\Sl nI 1 z d.2.a d.2.l/\d.2.l.length<=d.2.c)/\I.ownsRow z.heap.size 245 1 x.1 (x.2.1.map (·.2)).length (bX HJ (x.2.1.map (·.2))))
  (fun x=>x.2.2.1.length) (.slice none 0 0,[],m,none) ⟨bb,a7.Ju,a7,by simp,fun d o=>(by cases o),dY⟩ (aS.of rfl) ?_
 rintro⟨hv,dn,left,a3⟩ w3 ⟨K,bJ,aq,Z,ai,G⟩
 simp only at aq Z ai G
 refine CG.to [(0,.pointer (some ⟨p,0,none⟩)),(3,hv),(12,.pointer (some ⟨aH,0,none⟩))] (aS.of rfl) ?_
 have s3:=K.size
 have bz:m.length<=1024:=by
  have h1:(m.map (·.1)).Nodup:=hM.nodup
  have h2:∀f∈m.map (·.1),f∈(range ms.length).map (pK ms):=fun f hk=>by
   obtain⟨q,hq,rfl⟩:=mem_map.1 hk
   have:=bB q.1 q.2 (fx h1 hq)
   obtain⟨aa,hj⟩:=exists_mem_of_ne_nil _ this
   have:=jw.1 hj
   exact mem_map.2 ⟨aa,mem_range.2 this.1,this.2⟩
  have h3:=tv h1 h2
  simp only[length_map,length_range] at h3
  omega
 have al:=Z.length_eq
 rw[length_append,length_map] at al
 repeat apply ar
 refine SG.next rfl rfl rfl (ag rfl) aq (fun h0=>?_) (fun bj q bi w4 aw B bl=>?_)
 rotate_left
 ·have bG:q∈m:=Z.mem_iff.1 (by rw[aw];simp)
  have bF:aC m q.1=some q.2:=fx hM.nodup bG
  obtain⟨R,S,e',bt,bo⟩:=Sl.own j0 (hR.rows _ _ bF) rfl
  have k4:Kp [] z w4:=K.aj B (aW (by have:=bb.size;omega))
  have ad:=cr G B (fun b hb E=>by
   rw[mem_singleton] at E
   subst E
   exact aQ.yL aq G (gQ hb))
  have s4:=B.size
  rw[aw] at al
  simp only[length_append,length_cons] at al
  repeat (first|apply ar|(apply au;rfl;apply dd<;>rfl))
  refine bO rfl ?_
  repeat (first|apply ar|(apply au;rfl;(first|apply aB|apply aE|apply dd|apply Lz)<;>first|rfl|assumption|exact wn))
  rw[e']
  refine SG.buildSlice rfl rfl rfl rfl (VN R (C q.1).length S) (fun b6 w5 r br aI=>?_)
  have aN:Sl HJ 1 w5 (some ⟨b6,0,none⟩) [(⟨R,S,C q.1⟩:Hw)]:=Sl.iL (pre:=[]) (post:=[]) ox (l:=[(⟨R,S,C q.1⟩:Hw)]) (T:=245) aI
  have ae:=aV ad r
  skip
  refine SG.jN (enc:=HJ) (xs:=dn.map (·.2)) (ys:=[(⟨R,S,C q.1⟩:Hw)]) (base:=z.heap.size) rfl rfl rfl (ag rfl) (ag rfl) rfl rfl rfl rfl ox Ay ae aN (by simp only[maxLen,length_cons,length_nil,length_map];omega) (by simp only[length_cons,length_nil,length_map];show(_+_)*24<=_;omega) (by have:=r.size;omega) (fun v' w6 Y ax bL=>?_)
  have aJ:=bl.az r
  have a6:=aJ.kp Y (aQ.yL aJ ae) (aF.yL aJ.map ae)
  repeat (first|apply ar|refine wt ?_)
  refine NG.round (v',dn++[(q.1,⟨R,S,C q.1⟩)],bj++bi,some q) (aS.of rfl) ⟨(k4.trans r).aj Y (ff ae (Nat.le_refl _)),a6.Ju,a6,?_,fun d o=>?_,?_⟩ ?_
  ·simp only[map_append,map_cons,map_nil]
   have e2:(q.1,BR ⟨R,S,C q.1⟩)=q:=by
    have:BR ⟨R,S,C q.1⟩=q.2:=e'.symm
    rw[this]
   rw[e2,append_assoc]
   refine Perm.trans ?_ Z
   rw[aw]
   refine Perm.append_left _ ?_
   exact(perm_middle (l₁:=bj) (l₂:=bi) (a:=q)).symm
  ·simp only at o
   rcases mem_append.1 o with o|o
   ·exact ai d o
   ·rw[mem_singleton] at o
    subst o
    exact⟨rfl,bo,bt⟩
  ·simp only[map_append,map_cons,map_nil]
   exact ax
  ·simp only
   rw[aw]
   simp only[length_append,length_cons]
   omega
 subst h0
 rw[append_nil] at Z
 repeat (first|apply ar|(apply au;rfl;apply dd<;>rfl))
 refine bA rfl ?_
 have u:=Db (F:=pF ms) (fun b4 aa hi hj bw hk=>IL hI hi hj bw hk) hM.nodup hC bf a8 Z (fun d o=>(ai d o).1)
 obtain⟨H0,af⟩:∃H0,H0=dn.map (·.2):=⟨_,rfl⟩
 rw[<-af] at G
 have u:FF (pK ms) (pN ms) (pF ms) ms.length (H0.map (·.l)) (range ms.length) []:=by
  rw[af,map_map]
  exact u
 have N:∀h∈H0,Sl nI 1 z h.a h.l/\h.l.length<=h.c:=fun h E=>by
  rw[af] at E
  obtain⟨d,o,rfl⟩:=mem_map.1 E
  exact(ai d o).2
 have a4:H0.length<=1024:=by
  rw[af,length_map]
  simp only[length_nil] at al
  omega
 clear aq hR hC bf a8 ai Z hM al bz af bJ
 have k3:Kp [] w w3:=aP.trans K
 repeat (first|apply ar|refine wt ?_)
 refine CG.loop (X:=(Value×List Hw)×(Value×List Nat)×List Nat) (fun x=>[(0,.pointer (some ⟨p,0,none⟩)),(3,x.1.1),(6,x.2.1.1)])
  (fun x I=>Kp [] z I/\FF (pK ms) (pN ms) (pF ms) ms.length (x.1.2.map (·.l)) x.2.2 x.2.1.2/\I.ownsRow z.heap.size 245 1 x.1.1 x.1.2.length (bX HJ x.1.2)/\I.ownsRow z.heap.size 3 1 x.2.1.1 x.2.1.2.length (bX nI x.2.1.2)/\(∀h∈x.1.2,Sl nI 1 z h.a h.l/\h.l.length<=h.c)/\x.1.2.length<=1024)
  (fun x=>x.2.2.length) ((hv,H0),(.slice none 0 0,[]),range ms.length) ⟨K,u,G,dY,N,a4⟩ (aS.of rfl) ?_
 clear u N a4 G k3 K s3
 rintro⟨⟨hv,H⟩,⟨ov,L⟩,bS⟩ w3 ⟨K,u,G,ay,N,a5⟩
 simp only at u G ay N a5
 refine CG.to [(0,.pointer (some ⟨p,0,none⟩)),(3,hv),(6,ov)] (aS.of rfl) ?_
 have k3:Kp [] w w3:=aP.trans K
 have s3:=K.size
 have aK:=hP.az k3
 obtain⟨ap,bT,rfl,hc,hS⟩:=aK.sl
 obtain⟨-,q1⟩:=aK.rows
 obtain⟨ao,co,rfl,b0,bV⟩:=Sl.own j0 ay rfl
 by_cases bd:L.length<ms.length
 rotate_left
 ·have g1:¬(L.length:Int)<(ms.length:Int):=by omega
  have bE:=(u.last bd).eq
  repeat (first|apply ar|(apply au;rfl;(first|apply aB|apply aZ|apply aU|apply bR|apply cg|apply dg)<;>first|rfl|assumption|exact qr|exact wn))
  refine bA rfl ?_
  repeat (first|apply ar|refine ww ?_)
  refine aO (Or.inl rfl) results159 (aD.tmp rfl) ?_
  refine⟨_,rfl,?_,k3⟩
  unfold cG
  rw[bE]
  exact c9 ay s1
 have g1:(L.length:Int)<(ms.length:Int):=by omega
 have a9:=u.full bd
 have bk:0<H.length:=by
  obtain⟨b5,hl,_⟩:=a9
  obtain⟨h,O,_⟩:=mem_map.1 hl
  exact length_pos_of_mem O
 obtain⟨M,ac,rfl,bY⟩:=l7 G bk
 repeat (first|apply ar|(apply au;rfl;(first|apply aB|apply aZ|apply aU|apply bR|apply cg|apply dg)<;>first|rfl|assumption|exact qf|exact wn))
 refine bO rfl ?_
 repeat (first|apply ar|refine qb1 ?_)
 clear q1
 refine CG.loop (X:=Nat×Int) (fun x=>[(0,.pointer (some ⟨p,0,none⟩)),(3,.slice (some ⟨M,0,none⟩) H.length ac),(6,.slice ao L.length co),(7,.int .i64 x.2),(29,.slice (some ⟨M,0,none⟩) H.length ac),(30,.int .i64 (H.length:Int)),(31,.int .i64 (x.1:Int))])
  (fun x I=>x.1<=H.length/\Kp [] w3 I/\ub (pF ms) (H.map (·.l)) x.1 x.2) (fun x=>H.length-x.1) (0,-1) ⟨Nat.zero_le _,Kp.refl _ _,ub.init _⟩ (aS.of rfl) ?_
 rintro⟨f,an⟩ w4 ⟨hk,B,W⟩
 simp only at hk W
 refine CG.to [(0,.pointer (some ⟨p,0,none⟩)),(3,.slice (some ⟨M,0,none⟩) H.length ac),(6,.slice ao L.length co),(7,.int .i64 an),(29,.slice (some ⟨M,0,none⟩) H.length ac),(30,.int .i64 (H.length:Int)),(31,.int .i64 (f:Int))] (aS.of rfl) ?_
 have am:=K.trans B
 have ad:=aV G B
 have bn:=aK.az B
 have a2:∀aa (hj:aa<H.length),Row w4 M (0+aa*1) [BR H[aa]]:=fun aa hj=>uv ox ad rfl hj
 by_cases aT:f<H.length
 ·have g2:(f:Int)<(H.length:Int):=by omega
  have a1:=a2 f aT
  have V:(H.map (·.l))[f]?=some H[f].l:=by rw[getElem?_map,getElem?_eq_getElem aT];rfl
  obtain⟨ah,bZ⟩:=N _ (getElem_mem aT)
  have ah:=ah.az am
  unfold BR at a1
  rcases hHk:H[f] with⟨ak,ck,lk⟩
  rw[hHk] at a1 V ah
  simp only at a1 V ah
  repeat (first|apply ar|refine ul ?_)
  refine bO rfl ?_
  repeat (first|apply ar|(apply au;rfl;(first|apply aB|apply aE|apply aZ|apply fa)<;>first|rfl|exact zc|assumption|exact wn))
  cases lk with
  |nil=>
   have g3:¬(0:Int)<(([]:List Nat).length:Int):=by simp
   refine CG.tail mixed 17 [0,1,2,3,4,5,6,7,8,9,10,11,12,13,14,15,16] (by kernel_rfl) ?_
   repeat (first|(apply bW;rfl;rfl;(first|apply aB|apply dg|apply ij)<;>first|rfl|exact qr)|refine aM.skip rfl rfl ?_)
   refine aM.tl (fun w5 r _ _=>?_)
   repeat (first|apply ar|(apply au;rfl;apply cI<;>rfl)|refine SG.skip rfl rfl ?_)
   refine bA rfl ?_
   repeat (first|apply ar|refine wz ?_)
   refine NG.round (f+1,an) (aS.of rfl) ⟨by simp only;omega,B.trans r,W.skip V⟩ (by simp only;omega)
  |cons x tk=>
   have g3:(0:Int)<((x::tk).length:Int):=by simp only[length_cons];omega
   obtain⟨gk,ok,rfl,bH⟩:=ah.at (i:=0) (by simp)
   simp only[getElem_cons_zero] at bH
   have bN:x<ms.length:=u.lt x ((u.mem x).2 ⟨_,mem_of_getElem? V,mem_cons_self⟩)
   have bu:an= -1\/∃(b ap:Nat) (t:List Nat),an=(b:Int)/\(H.map (·.l))[b]?=some (ap::t):=by
    cases W with
    |no h=>exact Or.inl rfl
    |att b ap t h1 h2 h3=>exact Or.inr ⟨b,ap,t,rfl,h2⟩
   rcases bu with rfl|⟨b,s,t,rfl,A⟩
   ·have g4:(-1:Int)<0:=by omega
    refine CG.tail mixed 17 [0,1,2,3,4,5,6,7,8,9,10,11,12,13,14,15,16] (by kernel_rfl) ?_
    repeat (first|(apply bW;rfl;rfl;(first|apply aB|apply cg|apply dg|apply ij)<;>first|rfl|exact qf)|refine aM.skip rfl rfl ?_)
    refine aM.tl (fun w5 r _ _=>?_)
    repeat (first|apply ar|(apply au;rfl;apply cI<;>rfl)|refine SG.skip rfl rfl ?_)
    refine bO rfl ?_
    repeat (first|apply ar|refine us ?_)
    refine NG.round (f+1,(f:Int)) (aS.of rfl) ⟨by simp only;omega,B.trans r,W.first V⟩ (by simp only;omega)
   ·have J:b<H.length:=by
     have:=(List.getElem?_eq_some_iff.1 A).1
     simpa using this
    have g4:¬(b:Int)<0:=by omega
    have g5:(b:Int)<(H.length:Int):=by omega
    have P:=a2 b J
    obtain⟨D,-⟩:=N _ (getElem_mem J)
    have D:=D.az am
    have U:H[b].l=s::t:=by
     rw[getElem?_map,getElem?_eq_getElem J] at A
     simpa using A
    unfold BR at P
    rcases hHb:H[b] with⟨ab,cb,lb⟩
    rw[hHb] at P U D
    simp only at P U D
    subst U
    obtain⟨gb,ob,rfl,aA⟩:=D.at (i:=0) (by simp)
    simp only[getElem_cons_zero] at aA
    have bq:s<ms.length:=u.lt s ((u.mem s).2 ⟨_,mem_of_getElem? A,mem_cons_self⟩)
    have g6:(0:Int)<((s::t).length:Int):=by simp only[length_cons];omega
    refine CG.tail mixed 17 [0,1,2,3,4,5,6,7,8,9,10,11,12,13,14,15,16] (by kernel_rfl) ?_
    repeat (apply bW;rfl;rfl;(first|apply aB|apply aZ|apply Du|apply fa|apply cg|apply dg|apply ij)<;>first|rfl|exact zc|assumption|exact qf|exact qr|exact wn)
    refine aM.tl (fun w5 r _ _=>?_)
    obtain⟨rr,be,bI⟩:=zN (bn.az r) bN bq
    skip
    refine SG.ret rfl rfl rfl (vs:=[.pointer (some ⟨p,0,none⟩),.int .i64 (x:Int),.int .i64 (s:Int)]) (bg.of rfl) bI (fun w6 Y=>?_)
    have bh:=(B.trans r).trans Y
    cases rr with
    |true=>
     repeat (first|apply ar|(apply au;rfl;apply cI<;>rfl))
     refine bO rfl ?_
     repeat (first|apply ar|refine us ?_)
     refine NG.round (f+1,(f:Int)) (aS.of rfl) ⟨by simp only;omega,bh,W.turn A V (be.1 rfl)⟩ (by simp only;omega)
    |false=>
     repeat (first|apply ar|(apply au;rfl;apply cI<;>rfl))
     refine bA rfl ?_
     repeat (first|apply ar|refine wz ?_)
     refine NG.round (f+1,(b:Int)) (aS.of rfl) ⟨by simp only;omega,bh,W.xq A V (fun h=>by have:=be.2 h;cases this)⟩ (by simp only;omega)
 ·have bx:f=(H.map (·.l)).length:=by rw[length_map];omega
  have g2:¬(f:Int)<(H.length:Int):=by omega
  have ba:=W
  rw[bx] at ba
  obtain⟨b,s,t,rfl,A,bs⟩:=ba.get a9
  have J:b<H.length:=by
   have:=(List.getElem?_eq_some_iff.1 A).1
   simpa using this
  obtain⟨R',bK,bU⟩:=u.step A bs
  have g5:(b:Int)<(H.length:Int):=by omega
  have P:=a2 b J
  obtain⟨D,av⟩:=N _ (getElem_mem J)
  have U:H[b].l=s::t:=by
   rw[getElem?_map,getElem?_eq_getElem J] at A
   simpa using A
  unfold BR at P
  rcases hHb:H[b] with⟨ab,cb,lb⟩
  rw[hHb] at P U D av
  simp only at P U D av
  subst U
  have bp:=D.az am
  obtain⟨gb,ob,rfl,aA⟩:=bp.at (i:=0) (by simp)
  simp only[getElem_cons_zero] at aA
  have g6:(0:Int)<((s::t).length:Int):=by simp only[length_cons];omega
  have b2:L.length<=1024:=by have:=u.len;omega
  have aY:=aV ay B
  repeat (first|apply ar|refine un ?_)
  refine bA rfl ?_
  repeat (first|apply ar|(apply au;rfl;(first|apply aB|apply aZ|apply Du|apply fa)<;>first|rfl|exact zc|assumption|exact wn))
  refine SG.buildSlice rfl rfl rfl rfl (RH (s:Int)) (fun b6 w5 r br aI=>?_)
  have aN:Sl nI 1 w5 (some ⟨b6,0,none⟩) [s]:=Sl.iL (pre:=[]) (post:=[]) j0 (l:=[s]) (T:=3) aI
  clear P aA
  skip
  refine SG.jN (enc:=nI) (xs:=L) (ys:=[s]) (base:=z.heap.size) rfl rfl rfl (ag rfl) (ag rfl) rfl rfl rfl rfl j0 DR (aV aY r) aN (by simp only[maxLen,length_cons,length_nil];omega) (by simp only[length_cons,length_nil];show(_+_)*8<=_;omega) (by have:=(am.trans r).size;omega) (fun v' w6 Y ax bL=>?_)
  have bv:∀g,(Value.slice (some ⟨M,0,none⟩) H.length ac).ownBlock=some g->g∉aR (.slice ao L.length co):=fun g hg E=>by
   obtain⟨cs,Q,hT,hB⟩:∃cs Q,Q=245/\aG w4 g (.cells cs Q):=by
    rcases ad.2 with⟨e,_⟩|⟨g',cap,a3,e,_,hg',_⟩
    ·cases e
    ·cases e
     cases hg
     exact⟨_,_,rfl,E2 hg'⟩
   subst hT
   exact cF aY (by decide) hB g (aL E) mem_cons_self
  have ae:=aV ad r
  have aX:=cr ae Y bv
  have bQ:Kp [] z w6:=(am.trans r).aj Y (ff aY (Nat.le_refl _))
  have a0:Row w6 M (0+b*1) (HJ H[b]):=uv ox aX rfl J
  rw[hHb] at a0
  unfold HJ BR at a0
  simp only at a0
  repeat (first|apply ar|(apply au;rfl;(first|apply aB|apply aE|apply aZ|apply fa)<;>first|rfl|exact zc|assumption|exact wn))
  refine SG.val rfl rfl rfl rfl (Ki (j:=1) rfl rfl rfl (Ar.mk (by simp only[length_cons];omega))) ?_
  repeat (apply au;rfl;apply fa<;>first|rfl|exact zc)
  obtain⟨d,o⟩:∃d:Hw,d=⟨some ⟨gb,if cb=1 then ob else ob+1*1,none⟩,cb-1,t⟩:=⟨_,rfl⟩
  refine SG.H5 (k:=b) (y:=d) (vy:= .slice (some ⟨gb,if cb=1 then ob else ob+1*1,none⟩) t.length (cb-1)) ox Ay rfl rfl (ag rfl) rfl (ag rfl) (by rw[o];rfl) aX rfl J (fun w7 bc bD=>?_)
  repeat apply ar
  refine NG.round ((.slice (some ⟨M,0,none⟩) H.length ac,H.set b d),(v',L++[s]),R') (aS.of rfl) ⟨bQ.aj bc (fun an hz=>?_),?_,?_,?_,fun h O=>?_,?_⟩ (by simp only;omega)
  ·rw[mem_singleton] at hz
   subst hz
   exact Or.inr (cj ad _ rfl)
  ·simp only
   rw[map_set,o]
   exact bK
  ·simp only
   rw[length_set]
   exact bD
  ·simp only
   refine cr ax bc (fun g hg E=>?_)
   rw[mem_singleton] at E
   subst E
   obtain⟨cs,Q,hT,hB⟩:∃cs Q,Q=245/\aG w6 g (.cells cs Q):=by
    rcases aX.2 with⟨e,_⟩|⟨g',cap,a3,e,_,hg',_⟩
    ·cases e
    ·cases e
     exact⟨_,_,rfl,E2 hg'⟩
   subst hT
   exact cF ax (by decide) hB g hg mem_cons_self
  ·simp only at O
   rcases mem_or_eq_of_mem_set O with O|rfl
   ·exact N h O
   ·rw[o]
    refine⟨AG D av,?_⟩
    simp only[length_cons] at av⊢
    omega
  ·simp only[length_set]
   exact a5
end
section
variable{d:Dg}{n z:Int}{ms:List Em}{j:Nat}
def Vh:En:=⟨⟨zd,0,0,0,[],[]⟩,0⟩
def sG(l:List En)(j:Nat):En:=(l[j]?).getD Vh
theorem pr{l:List En}(h:j<l.length):sG l j=l[j]:=by unfold sG;rw[getElem?_eq_getElem h];rfl
noncomputable def fU(l:List En):List En:=Bw En.key En.non En.fee l
theorem Bo(l:List En):(range l.length).map (sG l)=l:=by
 apply ext_getElem?
 intro i
 rw[getElem?_map]
 by_cases h:i<l.length
 ·rw[getElem?_eq_getElem (by simpa using h),getElem_range,getElem?_eq_getElem h,Option.map_some,pr h]
 ·rw[getElem?_eq_none (by simpa using h),getElem?_eq_none (by omega)]
  rfl
theorem Ij(ms:List Em):pK ms=fun j=>En.key (sG (ms.map Em.en) j):=by
 funext j
 unfold pK sG
 rw[getElem?_map]
 cases ms[j]?<;>rfl
theorem Ii(ms:List Em):pN ms=fun j=>En.non (sG (ms.map Em.en) j):=by
 funext j
 unfold pN sG
 rw[getElem?_map]
 cases ms[j]?<;>rfl
theorem Ik(ms:List Em):pF ms=fun j=>En.fee (sG (ms.map Em.en) j):=by
 funext j
 unfold pF sG
 rw[getElem?_map]
 cases ms[j]?<;>rfl
theorem wq(ms:List Em):(cG ms).map (sG (ms.map Em.en))=fU (ms.map Em.en):=by
 have h:Ord (pK ms) (pN ms) (pF ms) (range ms.length) (cG ms):=o5 _
 rw[Ij,Ii,Ik] at h
 have a:=Ord.map (key:=En.key) (non:=En.non) (fee:=En.fee) (sG (ms.map Em.en)) h
 have e:(range ms.length).map (sG (ms.map Em.en))=ms.map Em.en:=by
  have:=Bo (ms.map Em.en)
  rwa [length_map] at this
 rw[e] at a
 exact a.eq.symm
theorem o4(ms:List Em):(cG ms).Perm (range ms.length):=o6 _
theorem od(h:j∈cG ms):j<ms.length:=mem_range.1 ((o4 ms).mem_iff.1 h)
theorem pQ(ms:List Em):(cG ms).length=ms.length:=by rw[(o4 ms).length_eq,length_range]
theorem Bx(l:List En):(fU l).Perm l:=o6 l
theorem gZ(l:List En):(fU l).length=l.length:=wu l
def fP(g:List Nat->Nat->Bool):List Nat->List Nat->List Nat
 |_,[]=>[]
 |pre,j::r=>if g pre j then j::fP g (pre++[j]) r else fP g (pre++[j]) r
theorem nY(g:List Nat->Nat->Bool):∀(pre a b:List Nat),fP g pre (a++b)=fP g pre a++fP g (pre++a) b
 |pre,[],b=>by simp[fP]
 |pre,j::a,b=>by
  simp only[cons_append,fP]
  rw[nY g (pre++[j]) a b]
  have e:pre++[j]++a=pre++j::a:=by simp
  rw[e]
  split<;>simp
theorem Bq(g:List Nat->Nat->Bool)(pre:List Nat)(j:Nat):fP g pre [j]=if g pre j then[j] else[]:=by
 simp only[fP]
theorem nX(q:Nat->Bool):∀(pre l:List Nat),fP (fun _ j=>q j) pre l=l.filter q
 |pre,[]=>rfl
 |pre,j::l=>by
  simp only[fP]
  rw[nX q]
  by_cases h:q j=true
  ·rw[if_pos h,filter_cons_of_pos h]
  ·rw[if_neg h,filter_cons_of_neg h]
theorem vY(g:List Nat->Nat->Bool):∀(pre l:List Nat),(fP g pre l).length<=l.length
 |pre,[]=>Nat.le_refl _
 |pre,j::l=>by
  have:=vY g (pre++[j]) l
  simp only[fP]
  split<;>simp only[length_cons]<;>omega
theorem rv(q:En->Bool):((cG ms).filter (fun j=>q (sG (ms.map Em.en) j))).map (sG (ms.map Em.en))=(fU (ms.map Em.en)).filter q:=by
 rw[<-wq,filter_map]
 rfl
section
variable {κ:Type} [DecidableEq κ]
def kt(m:List (κ×Int))(L:List (κ×Int)):Prop:=∀k z,(∃n,aC m k=some n/\z<=n)↔∃p∈L,p.1=k/\z<=p.2
def oO(m:List (κ×Int))(L:List (κ×Int)):Prop:=∀k z,(∃n,aC m k=some n/\n<=z)↔∃p∈L,p.1=k/\p.2<=z
theorem kt.nil:kt ([]:List (κ×Int)) []:=fun k z=>by
 constructor
 ·rintro⟨n,h,_⟩;cases h
 ·rintro⟨p,h,_⟩;cases h
theorem oO.nil:oO ([]:List (κ×Int)) []:=fun k z=>by
 constructor
 ·rintro⟨n,h,_⟩;cases h
 ·rintro⟨p,h,_⟩;cases h
theorem kt.xq{m L:List (κ×Int)}{k:κ}(h:kt m L)(e:aC m k=some n)(g:¬n<z):kt m (L++[(k,z)]):=fun f d=>by
 rw[h f d]
 constructor
 ·rintro⟨p,a,b⟩;exact⟨p,mem_append_left _ a,b⟩
 ·rintro⟨p,a,b,c⟩
  rcases mem_append.1 a with a|a
  ·exact⟨p,a,b,c⟩
  ·rw[mem_singleton] at a
   subst a
   simp only at b c
   subst b
   exact(h k d).1 ⟨n,e,by omega⟩
theorem kt.put{m L:List (κ×Int)}{k:κ}(h:kt m L)(i:∀n,aC m k=some n->n<z):kt (ca m k z) (L++[(k,z)]):=fun d f=>by
 rw[bK]
 by_cases e:k=d
 ·subst e
  rw[if_pos rfl]
  constructor
  ·rintro⟨n,a,b⟩
   cases a
   exact⟨(k,z),by simp,rfl,b⟩
  ·rintro⟨p,a,b,c⟩
   rcases mem_append.1 a with a|a
   ·obtain⟨n,g,j⟩:=(h k f).2 ⟨p,a,b,c⟩
    have:=i n g
    exact⟨z,rfl,by omega⟩
   ·rw[mem_singleton] at a
    subst a
    exact⟨z,rfl,c⟩
 ·rw[if_neg e,h d f]
  constructor
  ·rintro⟨p,a,b⟩;exact⟨p,mem_append_left _ a,b⟩
  ·rintro⟨p,a,b,c⟩
   rcases mem_append.1 a with a|a
   ·exact⟨p,a,b,c⟩
   ·rw[mem_singleton] at a
    subst a
    exact absurd b e
theorem oO.xq{m L:List (κ×Int)}{k:κ}(h:oO m L)(e:aC m k=some n)(g:¬z<n):oO m (L++[(k,z)]):=fun f d=>by
 rw[h f d]
 constructor
 ·rintro⟨p,a,b⟩;exact⟨p,mem_append_left _ a,b⟩
 ·rintro⟨p,a,b,c⟩
  rcases mem_append.1 a with a|a
  ·exact⟨p,a,b,c⟩
  ·rw[mem_singleton] at a
   subst a
   simp only at b c
   subst b
   exact(h k d).1 ⟨n,e,by omega⟩
theorem oO.put{m L:List (κ×Int)}{k:κ}(h:oO m L)(i:∀n,aC m k=some n->z<n):oO (ca m k z) (L++[(k,z)]):=fun d f=>by
 rw[bK]
 by_cases e:k=d
 ·subst e
  rw[if_pos rfl]
  constructor
  ·rintro⟨n,a,b⟩
   cases a
   exact⟨(k,z),by simp,rfl,b⟩
  ·rintro⟨p,a,b,c⟩
   rcases mem_append.1 a with a|a
   ·obtain⟨n,g,j⟩:=(h k f).2 ⟨p,a,b,c⟩
    have:=i n g
    exact⟨z,rfl,by omega⟩
   ·rw[mem_singleton] at a
    subst a
    exact⟨z,rfl,c⟩
 ·rw[if_neg e,h d f]
  constructor
  ·rintro⟨p,a,b⟩;exact⟨p,mem_append_left _ a,b⟩
  ·rintro⟨p,a,b,c⟩
   rcases mem_append.1 a with a|a
   ·exact⟨p,a,b,c⟩
   ·rw[mem_singleton] at a
    subst a
    exact absurd b e
end
def IH(d:Dg)(e:En):Bool:=decide (aJ e.t=d)
noncomputable def kF(l:List En)(d:Dg):Option En:=(fU l).find? (IH d)
def uz(ms:List Em)(d:Dg)(j:Nat):Bool:=IH d (sG (ms.map Em.en) j)
noncomputable def fB(ms:List Em)(d:Dg):Int:=((cG ms).find? (uz ms d)).elim (-1) (fun j=>(j:Int))
theorem uy(h:j<ms.length):uz ms d j=decide (aJ ms[j].x.t=d):=by
 unfold uz IH
 rw[pr (by simpa using h),getElem_map]
 rfl
theorem yT(h:∀j (a:j<ms.length),aJ ms[j].x.t≠d):fB ms d= -1:=by
 unfold fB
 have:(cG ms).find? (uz ms d)=none:=find?_eq_none.2 (fun j a=>by
  have b:=od a
  rw[uy b]
  simpa using h j b)
 rw[this]
 rfl
theorem BF{i:Nat}(c:i<ms.length)(h:aJ ms[i].x.t=d)(e:∀j (a:j<ms.length),aJ ms[j].x.t=d->j=i):fB ms d=(i:Int):=by
 unfold fB
 cases hf:(cG ms).find? (uz ms d) with
 |none=>
  have:=find?_eq_none.1 hf i ((o4 ms).mem_iff.2 (mem_range.2 c))
  rw[uy c] at this
  simp[h] at this
 |some j=>
  have a:=od (mem_of_find?_eq_some hf)
  have b:=find?_some hf
  rw[uy a] at b
  have:=e j a (of_decide_eq_true b)
  subst this
  rfl
theorem BE{pre post:List Nat}(h:cG ms=pre++j::post)(a:∀i∈pre,uz ms d i=false)(b:uz ms d j=true):fB ms d=(j:Int):=by
 unfold fB
 have:(cG ms).find? (uz ms d)=some j:=by
  rw[h,find?_append]
  have:pre.find? (uz ms d)=none:=find?_eq_none.2 (fun i c=>by rw[a i c];decide)
  rw[this]
  simp[find?_cons,b]
 rw[this]
 rfl
theorem DQ(a:∀i∈cG ms,uz ms d i=false):fB ms d= -1:=by
 unfold fB
 have:(cG ms).find? (uz ms d)=none:=find?_eq_none.2 (fun i b=>by rw[a i b];decide)
 rw[this]
 rfl
theorem zk:kF (ms.map Em.en) d=((cG ms).find? (uz ms d)).map (sG (ms.map Em.en)):=by
 unfold kF
 rw[<-wq,find?_map]
 rfl
theorem wV(ms:List Em)(d:Dg):(fB ms d= -1/\kF (ms.map Em.en) d=none)\/∃(j:Nat) (h:j<ms.length),fB ms d=(j:Int)/\kF (ms.map Em.en) d=some ms[j].en:=by
 rw[zk]
 unfold fB
 cases hf:(cG ms).find? (uz ms d) with
 |none=>exact Or.inl ⟨rfl,rfl⟩
 |some j=>
  have a:=od (mem_of_find?_eq_some hf)
  refine Or.inr ⟨j,a,rfl,?_⟩
  rw[Option.map_some,pr (by simpa using a),getElem_map]
end
section
variable{d:Dg}{room:Int}{ms:List Em}{base p:Nat}{v:Value}{w:World}
open Go.Proofs
def Av(d:Dg)(e:Em):Bool:=decide (aJ e.x.t=d)
theorem IF{j:Nat}(h:j<ms.length):uz ms d j=Av d ms[j]:=uy h
noncomputable def Te(l:List En)(d:Dg):List En:=match kF l d with
 |some e=>l.eraseIdx (iQ l e.key e.non)
 |none=>l
attribute [local irreducible] CG NG SG aP aM Row aG aF aQ aJ bu
theorem rE{a:Nat}(e:Em)(h:Row w a 0 (dc d)):dq prog 160 #[ev e,.pointer (some ⟨a,0,none⟩)] w (.bool (Av d e)):=by
 refine fC (args:=[ev e,.pointer (some ⟨a,0,none⟩)]) func160 rfl ntmps160 rfl ?_
 repeat apply ar
 refine SG.box rfl rfl rfl (ag rfl) (fun i j f k c=>?_)
 have c:aG j i (.cells (ec e).toArray 216):=c
 obtain⟨-,-,-,-,q,-⟩:=eO (Row.all c rfl)
 simp only[Nat.zero_add] at q
 have h:=h.az f
 by_cases g:aJ e.x.t=d
 case neg=>
  have b:Av d e=false:=decide_eq_false g
  rw[b]
  repeat (first|apply ar|(apply au;rfl;(first|apply aE|apply bf|apply aU|apply vT)<;>first|rfl|assumption|exact qr|exact wn|apply ai))
  refine aO (Or.inl rfl) results160 (aD.tmp rfl) ?_
  exact⟨rfl,f⟩
 have b:Av d e=true:=decide_eq_true g
 rw[b]
 repeat (first|apply ar|(apply au;rfl;(first|apply aE|apply bf|apply aU|apply vT)<;>first|rfl|assumption|exact qf|exact wn|apply ai))
 refine aO (Or.inl rfl) results160 (aD.tmp rfl) ?_
 exact⟨rfl,f⟩
theorem yS(x:Pl w base p v room ms)(M:df room (ms.map Em.en))(hr:room<=1024)(d:Dg):dq prog 126 #[.pointer (some ⟨p,0,none⟩),dv d] w (.int .i64 (fB ms d)):=by
 refine bN func126 rfl ntmps126 rfl ?_
 have am:ms.length<=1024:=by have:=M.len;rw[length_map] at this;omega
 repeat apply ar
 refine SG.box rfl rfl rfl (ag rfl) (fun b w1 Q al u=>?_)
 have u:aG w1 b (.cells (dc d).toArray 47):=u
 have J:Row w1 b 0 (dc d):=Row.all u rfl
 have N:=x.az Q
 obtain⟨ab,q,rfl,hc,E⟩:=N.sl
 obtain⟨-,I⟩:=N.rows
 clear u
 repeat (first|apply ar|refine wt ?_)
 refine SG.val rfl rfl rfl rfl (Hz (vs:=[.pointer (some ⟨b,0,none⟩)]) rfl) ?_
 repeat (first|apply ar|refine qb6 ?_)
 refine SG.ret rfl rfl rfl (vs:=[.slice ab ms.length q,lf 160 [.pointer (some ⟨b,0,none⟩)]]) (bg.of rfl) (mg (f:=160) (Fn:=by infer_instance) (caps:=[.pointer (some ⟨b,0,none⟩)]) (p:=Av d) (c:=q) E (by omega) (fun o ho aa y=>rE o (J.az y))) (fun w2 s=>?_)
 have k2:=Q.trans s
 by_cases l:ms.findIdx (Av d)<ms.length
 rotate_left
 ·rw[qz l]
  have g1:(-1:Int)<0:=by decide
  have g:fB ms d= -1:=yT (fun j a r=>l (findIdx_lt_length_of_exists ⟨ms[j],getElem_mem a,decide_eq_true r⟩))
  rw[g]
  repeat (first|apply ar|(apply au;rfl;(first|apply aB|apply aE|apply cI|apply cg)<;>first|rfl|exact qf)|refine SG.skip rfl rfl ?_)
  refine bO rfl ?_
  repeat (first|apply ar|refine ww ?_)
  refine aO (Or.inl rfl) results126 (aD.tmp rfl) ?_
  exact⟨rfl,k2⟩
 rw[qA l]
 have P:Av d ms[ms.findIdx (Av d)]=true:=findIdx_getElem (w:=l)
 have Z:∀j (a:j<ms.length),j<ms.findIdx (Av d)->Av d ms[j]=false:=fun j a h=>by
  have:=not_of_lt_findIdx h
  simpa using this
 generalize ms.findIdx (Av d)=i at l P Z
 have g1:¬(i:Int)<0:=by omega
 have e1:(i:Int)+1=((i+1:Nat):Int):=by omega
 obtain⟨D,t,rfl,aj⟩:=E.at l
 have I:=I.az s
 have ad:=E.az s
 have hD:Sl ec 22 w2 (some ⟨D,if q=i+1 then t else t+(i+1)*22,none⟩) (ms.drop (i+1)):=z8 ad hc
 have ah:(ms.drop (i+1)).length=ms.length-(i+1):=length_drop
 repeat (first|apply ar|(apply au;rfl;(first|apply aB|apply aE|apply aZ|apply aU|apply bR|apply cg|apply dp)<;>first|rfl|exact zc|assumption|exact qr|exact wn))
 rw[e1]
 repeat (apply au;rfl;(first|apply aB|apply Ki)<;>first|rfl|exact zc)
 rw[<-ah]
 refine SG.ret rfl rfl rfl (vs:=[.slice (some ⟨D,if q=i+1 then t else t+(i+1)*22,none⟩) (ms.drop (i+1)).length (q-(i+1)),lf 160 [.pointer (some ⟨b,0,none⟩)]]) (bg.of rfl) (zv (f:=160) (Fn:=by infer_instance) (caps:=[.pointer (some ⟨b,0,none⟩)]) (p:=Av d) (c:=q-(i+1)) hD (by omega) (fun o ho aa y=>rE o ((J.az s).az y))) (fun w3 R=>?_)
 have H:=k2.trans R
 cases hany:(ms.drop (i+1)).any (Av d) with
 |false=>
  have g:fB ms d=(i:Int):=BF l (of_decide_eq_true P) (fun j a r=>by
   have h1:¬j<i:=fun h=>by
    have:=Z j a h
    rw[show Av d ms[j]=true from decide_eq_true r] at this
    cases this
   have h2:¬i<j:=fun h=>by
    have h3:=any_eq_false.1 hany ms[j] (mem_drop_iff_getElem.2 ⟨j-(i+1),by omega,by congr 1;omega⟩)
    exact h3 (decide_eq_true r)
   omega)
  rw[g]
  repeat (first|apply ar|(apply au;rfl;(first|apply cI|apply ig)<;>rfl))
  refine bO rfl ?_
  repeat (first|apply ar|refine ww ?_)
  refine aO (Or.inl rfl) results126 (aD.tmp rfl) ?_
  exact⟨rfl,H⟩
 |true=>
  clear I aj
  repeat (first|apply ar|(apply au;rfl;(first|apply cI|apply ig)<;>rfl))
  refine bA rfl ?_
  repeat (first|apply ar|refine qa0 ?_)
  refine SG.call rfl rfl rfl (vs:=[.pointer (some ⟨p,0,none⟩)]) (bg.of rfl) ((rj (x.az H) M hr).mono (fun e w4 r=>?_))
  obtain⟨vo,O,ai,S⟩:=r
  refine⟨_,O,?_⟩
  clear O
  have k4:=H.trans S
  obtain⟨K,L,rfl,-,af⟩:=Sl.own j0 ai rfl
  have an:=pQ ms
  repeat (first|apply ar|(apply au;rfl;(first|apply aB|apply dg)<;>rfl))
  refine CG.loop (X:=Nat) (fun i=>[(0,.pointer (some ⟨p,0,none⟩)),(5,lf 160 [.pointer (some ⟨b,0,none⟩)]),(32,.slice K (cG ms).length L),(33,.int .i64 ((cG ms).length:Int)),(34,.int .i64 (i:Int))])
   (fun i w'=>i<=(cG ms).length/\Kp [] w4 w'/\∀j (a:j<(cG ms).length),j<i->uz ms d (cG ms)[j]=false) (fun i=>(cG ms).length-i) 0 ⟨Nat.zero_le _,Kp.refl _ _,fun j _ h=>absurd h (Nat.not_lt_zero j)⟩ (aS.of rfl) ?_
  rintro k w5 ⟨y,z,g⟩
  refine CG.to [(0,.pointer (some ⟨p,0,none⟩)),(5,lf 160 [.pointer (some ⟨b,0,none⟩)]),(32,.slice K (cG ms).length L),(33,.int .i64 ((cG ms).length:Int)),(34,.int .i64 (k:Int))] (aS.of rfl) ?_
  have C:=k4.trans z
  by_cases A:k<(cG ms).length
  rotate_left
  ·have g2:¬(k:Int)<((cG ms).length:Int):=by omega
   have B:fB ms d= -1:=DQ (fun j a=>by
    obtain⟨n,G,rfl⟩:=getElem_of_mem a
    exact g n G (by omega))
   rw[B]
   repeat (first|apply ar|refine un ?_)
   refine bA rfl ?_
   repeat (first|apply ar|refine wt ?_)
   refine aO (Or.inl rfl) results126 (aD.tmp rfl) ?_
   exact⟨rfl,C⟩
  have g2:(k:Int)<((cG ms).length:Int):=by omega
  obtain⟨bo,oo,rfl,ak⟩:=(af.az z).at A
  have F:(cG ms)[k]<ms.length:=od (getElem_mem A)
  have U:=IF (d:=d) F
  have Y:cG ms=(cG ms).take k++(cG ms)[k]::(cG ms).drop (k+1):=by
   rw[<-drop_eq_getElem_cons A,take_append_drop]
  have W:=g
  have B:uz ms d (cG ms)[k]=true->fB ms d=((cG ms)[k]:Int):=fun h=>BE Y (fun i hi=>by
   obtain⟨n,G,rfl⟩:=getElem_of_mem hi
   rw[getElem_take]
   rw[length_take] at G
   exact W n (by omega) (by omega)) h
  have V:uz ms d (cG ms)[k]=false->∀j (a:j<(cG ms).length),j<k+1->uz ms d (cG ms)[j]=false:=fun h j a A=>by
   by_cases e:j=k
   ·subst e;exact h
   ·exact g j a (by omega)
  clear Y W g
  generalize (cG ms)[k]=m at ak F U B V
  have g3:(m:Int)<(ms.length:Int):=by omega
  have g4:(0:Int)<=(m:Int):=by omega
  have ac:=(x.az C).sl
  obtain⟨a5,c5,e5,-,ae⟩:=ac
  cases e5
  obtain⟨-,q5⟩:=(x.az C).rows
  have ao:Row w5 D (t+m*22) (ec ms[m]):=ae.row (getElem?_eq_getElem F)
  repeat (first|apply ar|refine ul ?_)
  refine bO rfl ?_
  repeat (first|apply ar|(apply au;rfl;(first|apply aB|apply aE|apply aZ|apply bf|apply aU|apply bR|apply fa)<;>first|rfl|exact zc|assumption|exact wn|apply aT))
  refine SG.nV (Fn:=by infer_instance) (f:=160) (vs:=[ev ms[m]]) (caps:=[.pointer (some ⟨b,0,none⟩)]) rfl rfl rfl (ag rfl) (bg.of rfl) (rE ms[m] ((((J.az s).az R).az S).az z)) (fun w6 T=>?_)
  rw[<-U]
  cases hb:uz ms d m with
  |true=>
   rw[B hb]
   repeat apply ar
   refine bO rfl ?_
   repeat (first|apply ar|refine ww ?_)
   refine aO (Or.inl rfl) results126 (aD.tmp rfl) ?_
   exact⟨rfl,C.trans T⟩
  |false=>
   repeat apply ar
   refine bA rfl ?_
   repeat (first|apply ar|refine wz ?_)
   refine NG.round (k+1) (aS.of rfl) ⟨by omega,z.trans T,V hb⟩ (by omega)
theorem qR(g:Pl w base p v room ms)(m:df room (ms.map Em.en))(q:room<=1024)(d:Dg):dq prog 82 #[.pointer (some ⟨p,0,none⟩),dv d] w (.tuple #[.int .i64 ((kF (ms.map Em.en) d).elim 0 (·.since)),.bool (kF (ms.map Em.en) d).isSome]):=by
 refine bN func82 rfl ntmps82 rfl ?_
 repeat apply ar
 refine SG.box rfl rfl rfl (ag rfl) (fun f k i u b=>?_)
 have b:aG k f (.cells (dc d).toArray 47):=b
 have B:Row k f 0 (dc d):=Row.all b rfl
 clear b
 repeat (first|apply ar|refine qa1 ?_)
 refine bA rfl ?_
 repeat (first|apply ar|refine qa5 ?_)
 refine SG.ret rfl rfl rfl (vs:=[.pointer (some ⟨p,0,none⟩),dv d]) (bg.of rfl) (yS (g.az i) m q d) (fun C o=>?_)
 have e:=i.trans o
 rcases wV ms d with⟨h1,h2⟩|⟨j,hj,h1,h2⟩
 ·rw[h1,h2]
  have l:(-1:Int)<0:=by decide
  repeat (first|apply ar|(apply au;rfl;(first|apply aB|apply aE|apply cg)<;>first|rfl|exact qf))
  refine bO rfl ?_
  repeat (first|apply ar|refine wt ?_)
  refine dT (Or.inl rfl) results82 (aD.tmp rfl) (aD.tmp rfl) ?_
  exact⟨rfl,e⟩
 ·rw[h1,h2]
  have l:¬(j:Int)<0:=by omega
  have t:(j:Int)<(ms.length:Int):=by omega
  have h:=g.az e
  obtain⟨a,c,rfl,x,n⟩:=h.sl
  obtain⟨-,z⟩:=h.rows
  obtain⟨s,y,rfl,r⟩:=n.at hj
  obtain⟨-,-,-,-,-,A⟩:=eO r
  repeat (first|apply ar|refine qb9 ?_)
  refine bA rfl ?_
  repeat (first|apply ar|(apply au;rfl;(first|apply aB|apply aE|apply aZ|apply aU|apply bR|apply fa)<;>first|rfl|exact zc|assumption|exact wn))
  refine dT (Or.inl rfl) results82 (aD.tmp rfl) (aD.tmp rfl) ?_
  exact⟨rfl,e⟩
end
section
variable{f:FuncId}{room:Int}{ms:List Em}{S:List Nat}{xs:List Tm}{caps:List Value}{base p:Nat}{v:Value}{w w':World}
open Go.Proofs
structure kq(w:World)(base:Nat)(v:Value)(xs:List Tm):Prop where
 own:w.ownsRow base 52 13 v xs.length (bX bV xs)
 ins:∀x∈xs,x.In 0 w
theorem kq.nil:kq w base (.slice none 0 0) []:=⟨dY,fun x h=>(by cases h)⟩
theorem kq.kp(h:kq w base v xs)(a:Kp S w w')(d:∀b,v.ownBlock=some b->b∉S)(c:dD 0 w S):kq w' base v xs:=
 ⟨cr h.own a d,fun x e=>(h.ins x e).iD a c⟩
theorem kq.az(h:kq w base v xs)(a:Kp [] w w'):kq w' base v xs:=h.kp a (fun _ _=>not_mem_nil) dD.nil
theorem kq.sl(h:kq w base v xs):∃a c,v= .slice a xs.length c/\xs.length<=c/\Sl bV 13 w a xs:=Sl.own ay h.own rfl
theorem Gj{e n j sz k:Nat}{T T':TypeId}{d:Value}{xs l:List Value}(h:w.ownsRow base T sz v n xs)(i:w.ownsRow e T' k d j l)(f:T≠T'):∀b,v.ownBlock=some b->b∉aR d:=fun b c a=>by
 have a:=aL a
 rcases h.2 with⟨rfl,_⟩|⟨g,cap,cur,rfl,_,hg,_⟩
 ·cases c
 ·cases c
  rcases i.2 with⟨rfl,_⟩|⟨g',cap',cur',rfl,_,hg',_⟩
  ·cases a
  ·cases a
   rw[hg] at hg'
   cases hg'
   exact f rfl
theorem KW(w:World)(a0 a b c d e g h:UInt8)(n f k:Int)(o p:Option Addr)(l m i j:Nat):
  (Instr.buildSlice 41 1 #[(0,.agg #[bv a0,bv a,bv b,bv c,bv d,bv e,bv g,bv h,.int .i64 n,.int .i64 f,.int .i64 k,.slice o l i,.slice p m j])]).run prog w= .ok (.slice (some ⟨w.heap.size,0,none⟩) 1 1) {w with heap:=w.heap.push (.cells #[bv a0,bv a,bv b,bv c,bv d,bv e,bv g,bv h,.int .i64 n,.int .i64 f,.int .i64 k,.slice o l i,.slice p m j] 52)}:=by kernel_rfl
theorem zF(x:Tm)(w:World):(Instr.buildSlice 41 1 #[(0,eG x)]).run prog w= .ok (.slice (some ⟨w.heap.size,0,none⟩) 1 1) {w with heap:=w.heap.push (.cells (bV x).toArray 52)}:=by
 obtain⟨⟨⟨l,h⟩,n,f,k,b,g⟩,a,d,c,e⟩:=x
 match l,h with
 |[i,j,m,o,p,q,r,s],_=>exact KW w i j m o p q r s n f k a c b.length g.length d e
attribute [local irreducible] CG NG SG aP aM Row aG aF aQ aJ bu
theorem tj(hP:Pl w base p v room ms)(hI:df room (ms.map Em.en))(hr:room<=1024)[Fn:bU prog f]{g:List Nat->Nat->Bool}(J:List Nat->World->Prop)
  (ap:J [] w) (Q:∀a W W' T,(∀b∈T,w.heap.size<=b)->Kp T W W'->J a W->J a W') (ac:∀W,Kp S w W->Pl W base p v room ms) (ae:∀b∈S,b<w.heap.size) (aA:∀a W,J a W->dD 0 W S)
  (aC:∀a j (hj:j<ms.length) W,cG ms=a++j::(cG ms).drop (a.length+1)->Kp S w W->J a W->Calls prog f (ev ms[j]::caps).toArray W (fun e h=>e= .returned (.bool (g a j))/\Kp S W h/\J (a++[j]) h)):
  Calls prog 124 #[.pointer (some ⟨p,0,none⟩),lf f caps] w (fun e h=>∃K n,e= .returned K/\Kp S w h/\kq h w.heap.size K n/\n.map (·.t)=(fP g [] (cG ms)).map (fun j=>(sG (ms.map Em.en) j).t)/\J (cG ms) h):=by
 refine bN func124 rfl ntmps124 rfl ?_
 have a0:ms.length<=1024:=by have:=hI.len;rw[length_map] at this;omega
 repeat (first|apply ar|refine ww ?_)
 refine SG.call rfl rfl rfl (vs:=[.pointer (some ⟨p,0,none⟩)]) (bg.of rfl) ((rj hP hI hr).mono (fun e w1 z=>?_))
 obtain⟨vo,l,ak,U⟩:=z
 refine⟨_,l,?_⟩
 clear l
 have a1:=pQ ms
 obtain⟨N,O,rfl,aY,-⟩:=Sl.own j0 ak rfl
 have aq:=Q [] w w1 [] (fun b d=>by cases d) U ap
 have s1:=U.size
 repeat (first|apply ar|(apply au;rfl;(first|apply aB|apply dg)<;>rfl))
 refine CG.loop (X:=Nat×(Value×List Tm)) (fun c=>[(0,.pointer (some ⟨p,0,none⟩)),(1,lf f caps),(5,c.2.1),(9,.slice N (cG ms).length O),(10,.int .i64 ((cG ms).length:Int)),(11,.int .i64 (c.1:Int))])
  (fun c h=>c.1<=(cG ms).length/\Kp S w h/\J ((cG ms).take c.1) h/\kq h w.heap.size c.2.1 c.2.2/\c.2.2.map (·.t)=(fP g [] ((cG ms).take c.1)).map (fun j=>(sG (ms.map Em.en) j).t)/\h.ownsRow w.heap.size 3 1 (.slice N (cG ms).length O) (cG ms).length (bX nI (cG ms)))
  (fun c=>(cG ms).length-c.1) (0,(.slice none 0 0,[])) ⟨Nat.zero_le _,U.any,aq,kq.nil,rfl,ak⟩ (aS.of rfl) ?_
 rintro⟨k,L,n⟩ w2 ⟨hk,A,q,E,o,H⟩
 simp only at hk q E o
 refine CG.to [(0,.pointer (some ⟨p,0,none⟩)),(1,lf f caps),(5,L),(9,.slice N (cG ms).length O),(10,.int .i64 ((cG ms).length:Int)),(11,.int .i64 (k:Int))] (aS.of rfl) ?_
 have s2:=A.size
 by_cases G:k<(cG ms).length
 rotate_left
 ·have g2:¬(k:Int)<((cG ms).length:Int):=by omega
  rw[take_of_length_le (by omega)] at q o
  repeat (first|apply ar|refine un ?_)
  refine bA rfl ?_
  repeat (first|apply ar|refine ww ?_)
  refine aO (Or.inl rfl) results124 (aD.tmp rfl) ?_
  exact⟨_,n,rfl,A,E,o,q⟩
 have g2:(k:Int)<((cG ms).length:Int):=by omega
 obtain⟨bo,aW,eo,-⟩:=l7 H (by omega)
 cases eo
 have aN:=uv j0 H rfl G
 have r:(cG ms)[k]<ms.length:=od (getElem_mem G)
 have I:(cG ms).take (k+1)=(cG ms).take k++[(cG ms)[k]]:=take_succ_eq_append_getElem G
 have Y:cG ms=(cG ms).take k++(cG ms)[k]::(cG ms).drop (((cG ms).take k).length+1):=by
  rw[length_take,Nat.min_eq_left (by omega),<-drop_eq_getElem_cons G,take_append_drop]
 have m:fP g [] ((cG ms).take (k+1))=fP g [] ((cG ms).take k)++if g ((cG ms).take k) (cG ms)[k] then[(cG ms)[k]] else[]:=by
  rw[I,nY,Bq]
  rfl
 have aK:=vY g [] ((cG ms).take k)
 rw[length_take,Nat.min_eq_left (by omega)] at aK
 have a5:n.length<=1024:=by
  have:=congrArg length o
  simp only[length_map] at this
  omega
 generalize a2:(cG ms).take k=a at q o m I Y
 generalize (cG ms)[k]=i at aN r m I Y
 have g3:(i:Int)<(ms.length:Int):=by omega
 have g4:(0:Int)<=(i:Int):=by omega
 have ab:=ac w2 A
 obtain⟨aP,aQ,rfl,hc,ad⟩:=ab.sl
 obtain⟨-,q2⟩:=ab.rows
 obtain⟨b1,o1,rfl,aM⟩:=ad.at r
 have aF:(sG (ms.map Em.en) i).t=ms[i].x.t:=by rw[pr (by simpa using r),getElem_map];rfl
 repeat (first|apply ar|refine ul ?_)
 refine bO rfl ?_
 repeat (first|apply ar|(apply au;rfl;(first|apply aB|apply aE|apply aZ|apply bf|apply aU|apply bR|apply fa)<;>first|rfl|exact zc|assumption|exact wn|apply aT))
 refine SG.HP (Fn:=Fn) (f:=f) (vs:=[ev ms[i]]) (caps:=caps) rfl rfl rfl (ag rfl) (bg.of rfl) ((aC a i r w2 Y A q).mono (fun e M z=>?_))
 obtain⟨l,F,P⟩:=z
 refine⟨_,l,?_⟩
 clear l q2 aM ad
 rw[<-I] at P
 have Z:=A.trans F
 have af:=E.kp F (fun b d V=>by have:=cj E.own b d;have:=ae b V;omega) (aA _ _ q)
 have al:=cr H F (fun b d V=>by have:=cj H b d;have:=ae b V;omega)
 have s3:=F.size
 cases hg:g a i with
 |false=>
  rw[hg] at m
  simp only[Bool.false_eq_true,if_false,append_nil] at m
  repeat apply ar
  refine bA rfl ?_
  repeat (first|apply ar|refine wz ?_)
  refine NG.round (k+1,(L,n)) (aS.of rfl) ⟨by simp only;omega,Z,P,af,by simp only;rw[m];exact o,al⟩ (by simp only;omega)
 |true=>
  rw[hg] at m
  simp only[if_true] at m
  have R:=ac M Z
  obtain⟨a3,c3,e3,-,aw⟩:=R.sl
  cases e3
  obtain⟨-,q3⟩:=R.rows
  have an:Row M b1 (o1+i*22) (ec ms[i]):=aw.row (getElem?_eq_getElem r)
  obtain⟨rx,-⟩:=eO an
  repeat apply ar
  refine bO rfl ?_
  repeat (first|apply ar|(apply au;rfl;(first|apply aB|apply aZ|apply bf|apply aU|apply bR|apply fa)<;>first|rfl|exact zc|assumption|exact wn|apply ay))
  refine SG.call rfl rfl rfl (vs:=[eG ms[i].x]) (bg.of rfl) ((jg (R.ins _ (getElem_mem r))).mono (fun e w4 z=>?_))
  obtain⟨y,hy,l,aG,aI,-,-⟩:=z
  refine⟨_,l,?_⟩
  clear l q3 an rx
  refine SG.buildSlice rfl rfl rfl rfl (zF y) (fun b6 D ah aX ao=>?_)
  have ax:Sl bV 13 D (some ⟨b6,0,none⟩) [y]:=gy ay ao
  have C:Kp [] M D:=aI.trans ah
  have u:=af.az C
  have am:=aV al C
  have aH:=aG.az ah
  have s5:=C.size
  skip
  refine SG.jN (enc:=bV) (xs:=n) (ys:=[y]) (base:=w.heap.size) rfl rfl rfl (ag rfl) (ag rfl) rfl rfl rfl rfl ay bY u.own ax (by simp only[maxLen,length_cons,length_nil];omega) (by simp only[length_cons,length_nil];show(_+_)*80<=_;omega) (by omega) (fun K w6 B aJ a4=>?_)
  have aa:dD 0 D (aR L):=dD.own u.own (Nat.zero_le _) (by decide)
  have ai:∀b∈aR L,w.heap.size<=b:=fun b d=>cj u.own b (aL d)
  have av:=Q _ D w6 _ ai B (Q _ M D [] (fun b d=>by cases d) C P)
  repeat (first|apply ar|refine us ?_)
  refine NG.round (k+1,(K,n++[y])) (aS.of rfl) ⟨by simp only;omega,(Z.trans C.any).aj B (fun b d=>Or.inr (ai b d)),av,⟨aJ,fun c s=>?_⟩,?_,cr am B (Gj am u.own (by decide))⟩ (by simp only;omega)
  ·rcases mem_append.1 s with s|s
   ·exact(u.ins c s).iD B aa
   ·rw[mem_singleton] at s
    subst s
    exact aH.iD B aa
  ·simp only
   rw[m,map_append,map_append,o,map_cons,map_cons,hy,aF]
   rfl
theorem qX(o:Pl w base p v room ms)(u:df room (ms.map Em.en))(C:room<=1024)[Fn:bU prog f](q:En->Bool)
  (z:∀(e:Em) W T,(∀b∈T,w.heap.size<=b)->Kp T w W->dq prog f (ev e::caps).toArray W (.bool (q e.en))):
  Calls prog 124 #[.pointer (some ⟨p,0,none⟩),lf f caps] w (fun e l=>∃k m,e= .returned k/\Kp [] w l/\kq l w.heap.size k m/\m.map (·.t)=((fU (ms.map Em.en)).filter q).map (·.t)):=by
 refine(tj (g:=fun _ j=>q (sG (ms.map Em.en) j)) (S:=[]) (Fn:=Fn) o u C (fun _ W=>∃T,(∀b∈T,w.heap.size<=b)/\Kp T w W) ⟨[],fun b a=>(by cases a),Kp.refl _ _⟩ (fun E W F T x c ⟨s,d,i⟩=>⟨s++T,fun b a=>(by rcases mem_append.1 a with h|h;exact d b h;exact x b h),(i.mono (fun b a=>mem_append_left _ a)).trans (c.mono (fun b a=>mem_append_right _ a))⟩) (fun W c=>o.az c) (fun b a=>by cases a) (fun _ _ _=>dD.nil) (fun E j B W _ c ⟨T,d,i⟩=>(z ms[j] W T d i).mono (fun e l ⟨n,r⟩=>⟨?_,r,T,d,i.trans r.any⟩))).mono (fun e l A=>?_)
 ·obtain⟨k,m,n,c,y,D,-⟩:=A
  refine⟨k,m,n,c,y,?_⟩
  rw[D,nX (fun j=>q (sG (ms.map Em.en) j)),<-rv,map_map]
  rfl
 ·rw[n,pr (by simpa using B),getElem_map]
theorem Cf(e:Em):dq prog 129 #[ev e] w (.bool true):=by
 refine fC (args:=[ev e]) func129 rfl ntmps129 rfl ?_
 repeat apply ar
 refine SG.box rfl rfl rfl (ag rfl) (fun b f a d c=>?_)
 repeat (first|apply ar|refine wt ?_)
 refine aO (Or.inl rfl) results129 (aD.tmp rfl) ?_
 exact⟨rfl,a⟩
theorem xS(f:Pl w base p v room ms)(d:df room (ms.map Em.en))(k:room<=1024):
  Calls prog 85 #[.pointer (some ⟨p,0,none⟩)] w (fun e c=>∃a b,e= .returned a/\Kp [] w c/\kq c w.heap.size a b/\b.map (·.t)=(fU (ms.map Em.en)).map (·.t)):=by
 refine bC func85 rfl ntmps85 rfl ?_
 repeat (first|apply ar|refine qa1 ?_)
 refine bA rfl ?_
 repeat (first|apply ar|refine qa0 ?_)
 refine SG.call rfl rfl rfl (vs:=[.pointer (some ⟨p,0,none⟩),lf 129 []]) (bg.of rfl) ((qX (Fn:=by infer_instance) f d k (fun _=>true) (fun e W T _ _=>Cf e)).mono (fun e m i=>?_))
 obtain⟨a,b,h,j,g,l⟩:=i
 refine⟨_,h,?_⟩
 repeat (first|apply ar|refine wt ?_)
 refine aO (Or.inl rfl) results85 (aD.tmp rfl) ?_
 refine⟨a,b,rfl,j,g,?_⟩
 rw[l,filter_eq_self.2 (fun _ _=>rfl)]
end
section
variable{a:Int}{base bb pm:Nat}{x:Operand}{T T':TypeId}{v:Value}{w:World}
instance:zQ prog 242 JV:=⟨C7⟩
instance:zQ prog 341 GP:=⟨ED⟩
def sF(a b:Int):Int:=IntKind.wrap .i64 ((BitVec.ofInt 64 a|||BitVec.ofInt 64 b).toNat:Int)
section
variable {P:Program} {S:List Nat} {w0:World} {F:World->Prop} {L:Env} {d:Option Nat} {ty:TypeId} {pos:String} {af:Array Edge} {g:Option (Nat×Bool)}
theorem Qt[u:Ut P T (.int .i64)]{y:Operand}{b:Int}(c:ro L x=some (.int .i64 a))(e:ro L y=some (.int .i64 b)):aP P S w0 F L ⟨d,.binOp .or T x y T',ty,pos,af,g⟩ (.int .i64 (sF a b)):=fun w _ _=>by
 simp only[execOp,ag c,ag e,eqGuard,binOp,Op.intBits,Sem.run_bind,Sem.run_pure,Result.andThen,sF];rfl
theorem HV(h: -9223372036854775808<=a/\a<=9223372036854775807):IntKind.wrap .i64 a=a:=by
 simp only[IntKind.wrap,IntKind.signed,IntKind.bits]
 simp
 omega
theorem Qq[u:Ut P T (.int .i64)](c:ro L x=some (.int .i64 a))(h:Ar (0<=a/\a<=65536)):aP P S w0 F L ⟨d,.binOp .shl T x (.const (.int .u64 8)) T',ty,pos,af,g⟩ (.int .i64 (a*256)):=fun w _ _=>by
 have b:bH L (.const (.int .u64 8))= .int .u64 8:=rfl
 have e:=HV (a:=a*256) (by have:=h.h;omega)
 simp only[execOp,ag c,b,eqGuard,binOp,Op.shift,if_neg (show ¬(8:Int)<0 by decide),Sem.run_bind,Sem.run_pure,Result.andThen,IntKind.bits,show min (Int.toNat 8) 64=8 from rfl,show(2:Int)^8=256 from rfl,e];rfl
theorem Qp[u:Ut P T (.int .i64)](c:ro L x=some (.int .i64 a))(h:Ar (0<=a)):aP P S w0 F L ⟨d,.binOp .shr T x (.const (.int .u64 8)) T',ty,pos,af,g⟩ (.int .i64 (a/256)):=fun w _ _=>by
 have b:bH L (.const (.int .u64 8))= .int .u64 8:=rfl
 have e:Int.fdiv a 256=a/256:=Int.fdiv_eq_ediv_of_nonneg a (by omega)
 simp only[execOp,ag c,b,eqGuard,binOp,Op.shift,if_neg (show ¬(8:Int)<0 by decide),Sem.run_bind,Sem.run_pure,Result.andThen,IntKind.bits,show min (Int.toNat 8) 64=8 from rfl,show(2:Int)^8=256 from rfl,e];rfl
end
theorem Gk(a b:UInt8):sF (a.toNat:Int) ((b.toNat:Int)*256)=((a.toNat+256*b.toNat:Nat):Int):=by
 have d:=a.toNat_lt
 have f:=b.toNat_lt
 have e:(b.toNat:Int)*256=((b.toNat*256:Nat):Int):=by omega
 unfold sF
 rw[e,BitVec.ofInt_natCast,BitVec.ofInt_natCast,BitVec.toNat_or,BitVec.toNat_ofNat,BitVec.toNat_ofNat,Nat.mod_eq_of_lt (by omega),Nat.mod_eq_of_lt (by omega)]
 have c:a.toNat|||b.toNat*256=b.toNat*256+a.toNat:=by
  have:=Nat.shiftLeft_add_eq_or_of_lt (i:=8) (b:=a.toNat) (by omega) b.toNat
  rw[Nat.shiftLeft_eq] at this
  rw[Nat.or_comm]
  exact this.symm
 rw[c,HV (by omega)]
 omega
def ja(i:Nat):List UInt8:=[UInt8.ofNat i,UInt8.ofNat (i/256)]
theorem yo(i:Nat):H2 (i:Int)=UInt8.ofNat i:=qp i
abbrev dW:=List ((Dg×Dg)×Nat)
def Gp(i:Nat):Value:= .int .i64 (i:Int)
structure dw(w:World)(base bb pm:Nat)(v:Value)(m:dW):Prop where
 blk:aG w bb (.cells #[v,.map (some pm)] 162)
 own:w.ownsRow base 341 16 v m.length (bX x8 (m.map (·.1)))
 map:aF w pm GP Gp m
 bp:base<=bb
 pp:base<=pm
def dW.Ok(m:dW):Prop:=∀p∈m,p.2<65536
def gR(m:dW)(k d:Dg):dW:=match aC m (k,d) with
 |some _=>m
 |none=>if 65536<=m.length then m else m++[((k,d),m.length)]
def gU(m:dW)(k d:Dg):Option Nat:=match aC m (k,d) with
 |some i=>some i
 |none=>if 65536<=m.length then none else some m.length
def mZ(m:dW)(k d:Dg)(s:List UInt8):Bool:=match aC m (k,d),s with
 |some i,[a,b]=>decide (i=a.toNat+256*b.toNat)
 |_,_=>false
theorem dw.az{b:World}{m:dW}(h:dw w base bb pm v m)(a:Kp [] w b):dw b base bb pm v m:=⟨h.blk.az a,aV h.own a,h.map.az a,h.bp,h.pp⟩
theorem dw.rows{m:dW}(h:dw w base bb pm v m):Row w bb 0 [v]/\Row w bb 1 [.map (some pm)]:=⟨Row.of h.blk [] [.map (some pm)] rfl rfl,Row.of h.blk [v] [] rfl rfl⟩
theorem RW(w:World)(a0 a b c d e f g h i j k l m n o:UInt8):(Instr.build 341 #[(0,.agg #[bv a0,bv a,bv b,bv c,bv d,bv e,bv f,bv g]),(1,.agg #[bv h,bv i,bv j,bv k,bv l,bv m,bv n,bv o])]).run prog w=
  .ok (.agg #[bv a0,bv a,bv b,bv c,bv d,bv e,bv f,bv g,bv h,bv i,bv j,bv k,bv l,bv m,bv n,bv o]) w:=by kernel_rfl
theorem Tk(w:World)(a b:Dg):(Instr.build 341 #[(0,dv a),(1,dv b)]).run prog w= .ok (GP (a,b)) w:=by
 obtain⟨u,s⟩:=a
 obtain⟨v,t⟩:=b
 match u,s,v,t with
 |[c,d,e,f,g,h,i,j],_,[k,l,m,n,o,p,q,r],_=>exact RW w c d e f g h i j k l m n o p q r
theorem RA(w:World)(i:Nat)(a b c d e f g h:UInt8):(Instr.build 197 #[(0,.pointer (some ⟨i,0,none⟩)),(1,.agg #[bv a,bv b,bv c,bv d,bv e,bv f,bv g,bv h])]).run prog w=
  .ok (.agg #[.pointer (some ⟨i,0,none⟩),bv a,bv b,bv c,bv d,bv e,bv f,bv g,bv h]) w:=by kernel_rfl
def JJ(bb:Nat)(d:Dg):List Value:= .pointer (some ⟨bb,0,none⟩)::dc d
def FI(bb:Nat)(d:Dg):Value:= .agg (JJ bb d).toArray
theorem VK(w:World)(a:Nat)(b:Dg):(Instr.build 197 #[(0,.pointer (some ⟨a,0,none⟩)),(1,dv b)]).run prog w= .ok (FI a b) w:=by
 obtain⟨l,k⟩:=b
 match l,k with
 |[c,d,e,f,g,h,i,j],_=>exact RA w a c d e f g h i j
theorem KY(w:World)(a0 a b c d e f g h i j k l m n o:UInt8):(Instr.buildSlice 160 1 #[(0,.agg #[bv a0,bv a,bv b,bv c,bv d,bv e,bv f,bv g,bv h,bv i,bv j,bv k,bv l,bv m,bv n,bv o])]).run prog w=
  .ok (.slice (some ⟨w.heap.size,0,none⟩) 1 1) {w with heap:=w.heap.push (.cells #[bv a0,bv a,bv b,bv c,bv d,bv e,bv f,bv g,bv h,bv i,bv j,bv k,bv l,bv m,bv n,bv o] 341)}:=by kernel_rfl
theorem RJ(x:Dg×Dg)(w:World):(Instr.buildSlice 160 1 #[(0,GP x)]).run prog w= .ok (.slice (some ⟨w.heap.size,0,none⟩) 1 1) {w with heap:=w.heap.push (.cells (x8 x).toArray 341)}:=by
 obtain⟨⟨s,q⟩,⟨t,r⟩⟩:=x
 match s,q,t,r with
 |[a,b,c,d,e,f,g,h],_,[i,j,k,l,m,n,o,p],_=>exact KY w a b c d e f g h i j k l m n o p
theorem RM(a b:UInt8)(w:World):(Instr.buildSlice 33 2 #[(0,bv a),(1,bv b)]).run prog w= .ok (.slice (some ⟨w.heap.size,0,none⟩) 2 2) {w with heap:=w.heap.push (.cells #[bv a,bv b] 5)}:=by kernel_rfl
theorem VQ(pm:Nat)(w:World):(Instr.build 162 #[(1,.map (some pm))]).run prog w= .ok (.agg #[.slice none 0 0,.map (some pm)]) w:=by kernel_rfl
attribute [local irreducible] CG NG SG aP aM Row aG aF aQ num dy dH cV cL
theorem uA(w:World):Calls prog 33 #[] w (fun e g=>∃a b,e= .returned (.pointer (some ⟨a,0,none⟩))/\dw g w.heap.size a b (.slice none 0 0) []/\a≠b/\Kp [] w g):=by
 refine zt func33 rfl ntmps33 ?_
 repeat (first|apply ar|refine wt ?_)
 refine SG.makeMap GP Gp rfl rfl (fun b m c j f=>?_)
 refine SG.val rfl rfl rfl rfl (aK rfl (VQ b)) ?_
 refine SG.box rfl rfl rfl (ag rfl) (fun a n d i h=>?_)
 have k:=f.lt
 have l:=c.size
 repeat (first|apply ar|refine wt ?_)
 refine aO (Or.inl rfl) results33 (aD.tmp rfl) ?_
 exact⟨a,b,rfl,⟨h,⟨rfl,Or.inl ⟨rfl,rfl⟩⟩,f.az d,by omega,by omega⟩,by omega,c.trans d⟩
theorem pM(a:Nat)(d:Dg)(w:World):dq prog 51 #[.pointer (some ⟨a,0,none⟩),dv d] w (.iface 197 (FI a d)):=by
 refine bN func51 rfl ntmps51 rfl ?_
 repeat apply ar
 refine SG.box rfl rfl rfl (ag rfl) (fun b f e g c=>?_)
 have h:Row f b 0 (dc d):=Row.all c rfl
 repeat (first|apply ar|(apply au;rfl;(first|apply aB|apply aE|apply bf)<;>first|rfl|assumption|exact wn|apply ai))
 refine SG.val rfl rfl rfl rfl (aK rfl (fun w=>VK w a d)) ?_
 repeat (first|apply ar|(apply au;rfl;(first|apply vS|apply aE)<;>rfl))
 refine aO (Or.inl rfl) results51 (aD.tmp rfl) ?_
 exact⟨rfl,e⟩
end
section
variable{base bb pm:Nat}{κ ν:Type}{T:TypeId}{v:Value}{w:World}
theorem qw{enc:κ->Value}{V:ν->Value}{m:List (κ×ν)}{n sz:Nat}{xs:List Value}(e:w.ownsRow base T sz v n xs)(d:aF w pm enc V m):pm∉aR v:=fun h=>by
 have a:=aL h
 obtain⟨f,c,b,-⟩:=d
 rcases e.2 with⟨rfl,_⟩|⟨g,cap,cur,rfl,_,hg,_⟩
 ·cases a
 ·cases a
  have:=aG.uniq b hg
  cases this
theorem cJ{enc:κ->Value}{V:ν->Value}{m:List (κ×ν)}{b:Nat}{cs:Array Value}(d:aG w b (.cells cs T))(e:aF w pm enc V m):pm≠b:=fun h=>by
 subst h
 obtain⟨f,c,a,-⟩:=e
 have:=aG.uniq a d
 cases this
theorem dw.nn{m:dW}(h:dw w base bb pm v m):pm≠bb/\pm∉aR v/\bb∉aR v:=⟨cJ h.blk h.map,qw h.own h.map,fun a=>cF h.own (by decide) h.blk bb (aL a) mem_cons_self⟩
def Li(w0 w:World)(e:Ending):Option Nat->Prop
 |some i=>∃b,e= .returned (.tuple #[.slice (some ⟨b,0,none⟩) 2 2,.int .i64 0])/\w0.heap.size<=b/\aG w b (.cells #[bv (UInt8.ofNat i),bv (UInt8.ofNat (i/256))] 5)
 |none=>e= .returned (.tuple #[.slice none 0 0,.int .i64 17])
def HS(w:World)(base bb pm:Nat)(v:Value)(m:dW)(k d:Dg)(e:Ending)(w':World):Prop:=
 ∃v',dw w' base bb pm v' (gR m k d)/\Kp (bb::pm::aR v) w w'/\(∀g,v'.ownBlock=some g->v.ownBlock=some g\/w.heap.size<=g)/\Li w w' e (gU m k d)
attribute [local irreducible] CG NG SG aP aM Row aG aF aQ num dy dH cV cL
theorem A8{m:dW}(h:dw w base bb pm v m)(af:base<=w.heap.size)(hl:m.length<=100000)(k d:Dg):
  Calls prog 255 #[.pointer (some ⟨bb,0,none⟩),GP (k,d)] w (HS w base bb pm v m k d):=by
 refine bN func255 rfl ntmps255 rfl ?_
 obtain⟨n1,n2,n3⟩:=h.nn
 have lb:=h.blk.lt
 have lm:=h.map.lt
 have lo:=cK h.own
 repeat apply ar
 refine SG.box rfl rfl rfl (ag rfl) (fun R w1 Z aq T=>?_)
 have J:=h.az Z
 obtain⟨-,r1⟩:=J.rows
 have A:=J.map
 have q:Row w1 R 0 (x8 (k,d)):=Row.all T rfl
 repeat (first|apply ar|refine wt ?_)
 refine CG.fh mixed [0,1,2,3,4,5,6,7,8,9,10] [] (by kernel_rfl) ?_
 obtain⟨z,B,av,an⟩:∃(z:Int) (B:Bool),Lk Gp (.int .i64 0) m (k,d) (.int .i64 z) B/\((∃j:Nat,aC m (k,d)=some j/\z=(j:Int)/\B=true)\/(aC m (k,d)=none/\B=false)):=by
  cases hr:aC m (k,d) with
  |some j=>exact⟨_,_,iX (V:=Gp) hr,Or.inl ⟨j,rfl,rfl,rfl⟩⟩
  |none=>exact⟨_,_,rz (V:=Gp) hr,Or.inr ⟨rfl,rfl⟩⟩
 repeat (apply bW;rfl;rfl;(first|apply aB|apply aE|apply aZ|apply bf|apply aU|apply bR|apply jz|apply dd)<;>first|rfl|assumption|exact wn|apply fK)
 refine aM.fin (fun w2 M _ _=>?_)
 have u:=Z.trans M
 have o:=J.az M
 have q:=q.az M
 have l3:=q.lt
 clear A r1 T
 refine NG.next ?_
 refine CG.seq ?_
 refine CG.jK (fun L O=>∃(j:Nat) (H:Value),aS [(6,.int .i64 (j:Int))] L/\gU m k d=some j/\dw O base bb pm H (gR m k d)/\Kp (bb::pm::aR v) w O/\(∀g,H.ownBlock=some g->v.ownBlock=some g\/w.heap.size<=g)) ?_ ?_
 ·rcases an with⟨j,hr,rfl,rfl⟩|⟨hr,rfl⟩
  ·repeat (first|apply ar|refine qb2 ?_)
   refine bA rfl ?_
   repeat apply ar
   refine NG.cut ⟨j,v,by(repeat' (first|exact True.intro|exact rfl|refine And.intro ?_ ?_)),by simp[gU,hr],by simp only[gR,hr];exact o,u.any,fun _ h=>Or.inl h⟩
  ·obtain⟨r0,-⟩:=o.rows
   obtain⟨a,r,rfl,hc,hS⟩:=Sl.own fK o.own (length_map _)
   by_cases D:65536<=m.length
   ·have g1:(65536:Int)<=(m.length:Int):=by omega
    repeat (first|apply ar|refine qb2 ?_)
    refine bO rfl ?_
    repeat (first|apply ar|(apply au;rfl;(first|apply aB|apply aE|apply aZ|apply aU|apply bR|apply dg|apply ji)<;>first|rfl|assumption|exact qf|exact wn))
    refine bO rfl ?_
    repeat (first|apply ar|refine wt ?_)
    refine dT (Or.inl rfl) results255 (aD.tmp rfl) (aD.tmp rfl) ?_
    exact⟨_,by simp only[gR,hr,if_pos D];exact o,u.any,fun _ h=>Or.inl h,by simp only[gU,hr,if_pos D];rfl⟩
   have g1:¬(65536:Int)<=(m.length:Int):=by omega
   repeat (first|apply ar|refine qb2 ?_)
   refine bO rfl ?_
   repeat (first|apply ar|(apply au;rfl;(first|apply aB|apply aE|apply aZ|apply aU|apply bR|apply dg|apply ji)<;>first|rfl|assumption|exact qr|exact wn))
   refine bA rfl ?_
   repeat apply ar
   have Y:∀z∈aR (.slice a m.length r),z<w2.heap.size:=fun z n=>by have:=lo z (aL n);have:=u.size;omega
   have ao:R∉aR (.slice a m.length r):=fun A=>by have:=lo _ (aL A);omega
   refine CG.dS mixed 8 [0,1,2,3,4,5,6,7] [6,7] (aR (.slice a m.length r)) (fun w=>w.ownsRow base 341 16 (.slice a m.length r) m.length (bX x8 (m.map (·.1)))) (by kernel_rfl) o.own (fun _ _ l h=>aV h l) ?_
   repeat (apply bW;rfl;rfl;(first|apply aB|apply aZ|apply bf|apply aU|apply bR)<;>first|rfl|assumption|apply fK)
   refine aM.lP (cs:=(x8 (k,d)).toArray) (E:=341) rfl rfl rfl rfl rfl (fun W=>RJ (k,d) W) Y (fun W W' l h=>trivial) (fun _ _ l h=>aV h l) (fun bn=>?_)
   apply aM.mv (P:=prog) (t:=160) (base:=base) (e:=341) (i:=Tryz.t341) (f:=ty.i341) (v:= .slice a m.length r) (nn:=m.length) (xs:=bX x8 (m.map (·.1))) (b:=bn) (off:=0) (m:=1) (c:=1) (news:=x8 (k,d))
   iterate 4 exact rfl
   iterate 2 exact ag rfl
   iterate 3 exact rfl
   ·exact fun W l p=>Row.all p.2.2 rfl
   ·rw[fK];rfl
   ·exact GQ _
   ·simp only[maxLen];omega
   ·show(m.length+1)*16<=_;omega
   ·exact Nat.le_trans af u.size
   ·exact fun _ h=>h
   ·exact fun W W' l p=>⟨trivial,p.2.1,p.2.2.kp l (fun A=>by have:=Y _ A;have:=p.2.1;omega)⟩
   intro v5
   refine aM.tl (fun w5 y p s=>?_)
   obtain⟨-,am⟩:=p
   have ad:(m++[((k,d),m.length)]).length=m.length+1:=by rw[length_append];rfl
   have s:w5.ownsRow base 341 16 v5 (m++[((k,d),m.length)]).length (bX x8 ((m++[((k,d),m.length)]).map (·.1))):=by
    rw[ad,map_append,dP,map_cons,map_nil,ix]
    exact s
   have U:=o.blk.kp y n3
   have ab:=o.map.kp y n2
   have n5:∀x,v5.ownBlock=some x->x∉[bb]:=cF s (by decide) U
   have ap:=qw s ab
   obtain⟨Q,S,rfl,-,-⟩:=Sl.own fK s (length_map _)
   have q:=q.kp y ao
   clear r0
   refine SG.val rfl rfl rfl rfl (by first|(apply bR<;>(exact rfl))|fail) ?_
   refine SG.val rfl rfl rfl rfl (by first|(apply aU<;>(exact rfl))|fail) ?_
   refine SG.cp [] [.slice a m.length r] [.map (some pm)] rfl rfl (ag rfl) (ag rfl) U rfl rfl rfl rfl rfl (fun w6 F C=>?_)
   have C:aG w6 bb (.cells #[.slice Q (m++[((k,d),m.length)]).length S,.map (some pm)] 162):=C
   have ah:=ab.kp F (bQ n1)
   have ai:=cr s F n5
   have r1:Row w6 bb 1 [.map (some pm)]:=Row.of C [.slice Q (m++[((k,d),m.length)]).length S] [] rfl rfl
   have s2:=u.size
   have s5:=y.size
   have q:=q.kp F (bQ (by omega))
   repeat apply ar
   refine CG.tail mixed 6 [0,1,2,3,4,5] (by kernel_rfl) ?_
   repeat (apply bW;rfl;rfl;(first|apply aB|apply aZ|apply bf|apply aU|apply bR)<;>first|rfl|assumption|exact wn|apply fK)
   refine aM.tl (fun w7 G _ _=>?_)
   refine SG.mapUpdate (enc:=GP) (V:=Gp) (kx:=(k,d)) (vy:=m.length) rfl rfl (ag rfl) (ag rfl) (ag rfl) (ah.az G) ED (fun w8 N ac=>?_)
   rw[lU _ hr] at ac
   repeat apply ar
   have ae:=(C.az G).kp N (bQ (fun I=>n1 I.symm))
   have aj:=cr (aV ai G) N (fun x K=>bQ (fun I=>ap (I▸gQ K)))
   refine NG.cut ⟨m.length,_,by(repeat' (first|exact True.intro|exact rfl|refine And.intro ?_ ?_)),by simp only[gU,hr,if_neg D],by simp only[gR,hr,if_neg D];exact⟨ae,aj,ac,h.bp,h.pp⟩,?_,fun g hg=>?_⟩
   ·refine((u.any.trans (y.mono (fun z n=>mem_cons_of_mem _ (mem_cons_of_mem _ n)))).trans (F.mono (fun z n=>?_))).trans ((G.any).trans (N.mono (fun z n=>?_)))
    ·rw[mem_singleton] at n;rw[n];exact mem_cons_self
    ·rw[mem_singleton] at n;rw[n];exact mem_cons_of_mem _ mem_cons_self
   ·rcases am g hg with h|h
    ·exact Or.inl h
    ·exact Or.inr (by omega)
 ·rintro L O ⟨j,H,X,ak,hN,l,al⟩
  refine CG.to _ X ?_
  clear X L
  repeat (first|apply ar|(apply au;rfl;first|(apply Dw<;>(first|rfl|exact zc))|((first|apply Qp|apply aB)<;>(first|rfl|exact zc))))
  rw[yo,show(j:Int)/256=((j/256:Nat):Int) by omega,yo]
  refine SG.buildSlice rfl rfl rfl rfl (RM _ _) (fun x w3 aa K hB=>?_)
  repeat (first|apply ar|refine wt ?_)
  refine dT (Or.inl rfl) results255 (aD.tmp rfl) (aD.tmp rfl) ?_
  refine⟨H,hN.az aa,l.trans aa.any,al,?_⟩
  rw[ak]
  exact⟨x,rfl,Nat.le_trans l.size K,hB⟩
end
section
variable{d:Dg}{s:List UInt8}{base bb pm:Nat}{v:Value}{w:World}{m:dW}
theorem Cz{k:Dg}(h:s.length≠2):mZ m k d s=false:=by
 unfold mZ
 split
 ·exact absurd rfl h
 ·rfl
theorem vq{b:Nat}{T:TypeId}(h:aG w b (.cells (JJ bb d).toArray T)):Row w b 0 [.pointer (some ⟨bb,0,none⟩)]/\Row w b 1 (dc d):=⟨Row.of h [] (dc d) rfl rfl,Row.of h [.pointer (some ⟨bb,0,none⟩)] [] (by simp[JJ]) rfl⟩
attribute [local irreducible] CG NG SG aP aM Row aG aF aQ num dy dH cV cL sF
theorem vz(h:dw w base bb pm v m)(k d:Dg){a:Option Addr}{c:Nat}(u:Sl iE 1 w a s):
  dq prog 245 #[.pointer (some ⟨bb,0,none⟩),dv k,dv d,.slice a s.length c] w (.bool (mZ m k d s)):=by
 refine fC (args:=[.pointer (some ⟨bb,0,none⟩),dv k,dv d,.slice a s.length c]) func245 rfl ntmps245 rfl ?_
 repeat apply ar
 refine SG.box rfl rfl rfl (ag rfl) (fun F Z J S r=>?_)
 refine SG.box rfl rfl rfl (ag rfl) (fun G l A T t=>?_)
 have M:Row l F 0 (dc k):=(Row.all r rfl).az A
 have N:Row l G 0 (dc d):=Row.all t rfl
 have e:=J.trans A
 clear r t
 by_cases H:(s.length:Int)=2
 rotate_left
 ·rw[Cz (by omega)]
  repeat (first|apply ar|(apply au;rfl;(first|apply jF|apply aB|apply aE|apply cI|apply du|apply dg)<;>first|rfl|exact qr))
  refine bO rfl ?_
  repeat (first|apply ar|refine wt ?_)
  refine aO (Or.inl rfl) results245 (aD.tmp rfl) ?_
  exact⟨rfl,e⟩
 have C:=h.az e
 obtain⟨-,O⟩:=C.rows
 have K:=C.map
 have B:s.length=2:=by omega
 obtain⟨x,y,rfl⟩:∃x y,s=[x,y]:=by
  match s,B with
  |[x,y],_=>exact⟨x,y,rfl⟩
 have R:([x,y]:List UInt8).length=2:=rfl
 obtain⟨q,E,rfl,g⟩:=(u.az e).at (i:=0) (by simp)
 obtain⟨Q,Y,I,j⟩:=(u.az e).at (i:=1) (by simp)
 cases I
 have g:Row l q E [bv x]:=by simpa using g
 have j:Row l q (E+1) [bv y]:=by simpa using j
 clear B H
 repeat (first|apply ar|(apply au;rfl;(first|apply jF|apply aB|apply aE|apply cI|apply du|apply dg)<;>first|rfl|exact qf))
 refine bA rfl ?_
 repeat apply ar
 obtain⟨z,f,U,L⟩:∃(z:Int) (f:Bool),Lk Gp (.int .i64 0) m (k,d) (.int .i64 z) f/\((∃b:Nat,aC m (k,d)=some b/\z=(b:Int)/\f=true)\/(aC m (k,d)=none/\f=false)):=by
  cases hr:aC m (k,d) with
  |some b=>exact⟨_,_,iX (V:=Gp) hr,Or.inl ⟨b,rfl,rfl,rfl⟩⟩
  |none=>exact⟨_,_,rz (V:=Gp) hr,Or.inr ⟨rfl,rfl⟩⟩
 refine CG.fh mixed [0,1,2,3,4,5,6,7,8,9,10,11,12] [] (by kernel_rfl) ?_
 repeat (apply bW;rfl;rfl;(first|apply aB|apply aZ|apply bf|apply aU|apply bR)<;>first|rfl|assumption|exact wn|apply ai)
 refine aM.val rfl rfl rfl (aK rfl (fun w=>Tk w k d)) ?_
 repeat (apply bW;rfl;rfl;(first|apply aB|apply aE|apply jz|apply dd)<;>first|rfl|assumption|exact wn)
 refine aM.fin (fun w3 o _ _=>?_)
 have D:=e.trans o
 have g:=g.az o
 have j:=j.az o
 clear K O M N
 rcases L with⟨b,hr,rfl,rfl⟩|⟨hr,rfl⟩
 rotate_left
 ·have n:mZ m k d [x,y]=false:=by simp[mZ,hr]
  rw[n]
  repeat apply ar
  refine CG.fh mixed [0,1,2,3,4,5,6,7,8,9,10,11,12,13,14,15] [] (by kernel_rfl) ?_
  repeat (first|(apply bW;rfl;rfl;(first|apply aB|apply aE|apply cI)<;>rfl)|refine aM.skip rfl rfl ?_)
  refine aM.fin (fun P p _ _=>?_)
  repeat apply ar
  refine aO (Or.inl rfl) results245 (aD.tmp rfl) ?_
  exact⟨rfl,D.trans p⟩
 have W:=x.toNat_lt
 have X:=y.toNat_lt
 have n:mZ m k d [x,y]=decide ((b:Int)=((x.toNat+256*y.toNat:Nat):Int)):=by
  simp only[mZ,hr]
  congr 1
  exact propext ⟨fun h=>by omega,fun h=>by omega⟩
 rw[n,<-Gk]
 repeat apply ar
 refine CG.fh mixed [0,1,2,3,4,5,6,7,8,9,10,11,12,13,14,15] [] (by kernel_rfl) ?_
 repeat (apply bW;rfl;rfl;(first|apply Fw|apply Qq|apply Qt|apply aB|apply aE|apply aZ|apply Du|apply cI|apply fE)<;>first|rfl|exact zc|assumption|exact wn|exact B4)
 refine aM.fin (fun P p _ _=>?_)
 repeat apply ar
 refine aO (Or.inl rfl) results245 (aD.tmp rfl) ?_
 exact⟨rfl,D.trans p⟩
theorem AX(b:Nat)(d:Dg)(w:World):dq prog 253 #[FI b d] w (dv d):=by
 refine bC func253 rfl ntmps253 rfl ?_
 repeat apply ar
 refine SG.box rfl rfl rfl (ag rfl) (fun f n c p a=>?_)
 have a:aG n f (.cells (JJ b d).toArray 197):=a
 refine SG.alloc rfl rfl rfl (fun g s e q h=>?_)
 obtain⟨-,k⟩:=vq (a.az e)
 have r:=c.size
 repeat (first|apply ar|(apply au;rfl;(first|apply bf|apply aU)<;>first|rfl|assumption|exact wn|apply ai))
 refine SG.aN (old:=dc zd) (l:=dc d) rfl rfl (ag rfl) (ag rfl) h (ai _) (ai _) (bj _) (fun o j i=>?_)
 have m:Row o g 0 (dc d):=Row.all i rfl
 clear k
 repeat apply ar
 refine aO (Or.inl rfl) results253 (aD.agg rfl rfl m (ai _)) ?_
 exact⟨rfl,(c.trans e).aj j (aW (by omega))⟩
theorem qa3{P n o Q r L w d b t p f g v}(c:SG P n o Q r ((d,v)::L) w)(a:(Nat.blt d n&&(!fm b&&(want o L ⟨some d,b,t,p,f,g⟩==some true&&b.operands.toList.all (known L))))=true:=by rfl)(e:aP P [] w (fun _=>True) L ⟨some d,b,t,p,f,g⟩ v:=by (first|apply aZ|apply bf|apply aU)<;>first|rfl|assumption|exact wn|apply ai):SG P n o Q (⟨some d,b,t,p,f,g⟩::r) L w:=au a e c
theorem qI(h:dw w base bb pm v m)(B:base<=w.heap.size)(F:m.length<=100000)(k d:Dg):
  Calls prog 254 #[FI bb k,dv d] w (HS w base bb pm v m k d):=by
 refine bN func254 rfl ntmps254 rfl ?_
 repeat apply ar
 refine SG.box rfl rfl rfl (ag rfl) (fun r G E J f=>?_)
 have f:aG G r (.cells (JJ bb k).toArray 197):=f
 refine SG.box rfl rfl rfl (ag rfl) (fun s H n K z=>?_)
 obtain⟨N,O⟩:=vq (f.az n)
 have M:Row H s 0 (dc d):=Row.all z rfl
 have a:=E.trans n
 repeat (first|apply ar|(apply au;rfl;(first|apply jF|apply aE|apply aZ|apply aU)<;>first|rfl|assumption|exact wn))
 refine bA rfl ?_
 repeat (first|apply ar|refine qa3 ?_)
 refine SG.val rfl rfl rfl rfl (aK rfl (fun w=>Tk w k d)) ?_
 refine SG.call rfl rfl rfl (vs:=[.pointer (some ⟨bb,0,none⟩),GP (k,d)]) (bg.of rfl) ((A8 (h.az a) (Nat.le_trans B a.size) F k d).mono (fun e P D=>?_))
 obtain⟨q,l,o,p,c⟩:=D
 have I:∀(x y:Value),e= .returned (.tuple #[x,y])->∃u,e= .returned u/\∀(L:Env),True:=fun x y C=>⟨_,C,fun _=>trivial⟩
 cases hsi:gU m k d with
 |some i=>
  rw[hsi] at c
  obtain⟨b,rfl,A,t⟩:=c
  refine⟨_,rfl,?_⟩
  repeat (first|apply ar|(apply au;rfl;(first|apply aE|apply dd)<;>rfl))
  refine dT (Or.inl rfl) results254 (aD.tmp rfl) (aD.tmp rfl) ?_
  exact⟨q,l,a.any.trans o,fun g j=>(p g j).imp id (fun h=>Nat.le_trans a.size h),by rw[hsi];exact⟨b,rfl,Nat.le_trans a.size A,t⟩⟩
 |none=>
  rw[hsi] at c
  refine⟨_,c,?_⟩
  repeat (first|apply ar|(apply au;rfl;(first|apply aE|apply dd)<;>rfl))
  refine dT (Or.inl rfl) results254 (aD.tmp rfl) (aD.tmp rfl) ?_
  exact⟨q,l,a.any.trans o,fun g j=>(p g j).imp id (fun h=>Nat.le_trans a.size h),by rw[hsi];rfl⟩
end
section
variable{n0:Nat}{x:Tm}{w:World}
def de(t:Tx):Dg:=dX (mB (eK t)) [116,120]
def js(d:Dg)(n:Int):List UInt8:=cU (num d)++cU (dE n)
noncomputable def eJ(m:dW)(t:Tx):Int:=if bu t≠0 then bu t else if mZ m t.frm (de t) t.sig then 0 else 16
attribute [local irreducible] CG NG SG aP aM Row aG aF aQ num dy dH cV cL sF cU bu dX mB eK bG
theorem nx(o:x.In n0 w):dq prog 105 #[eG x] w (dv (de x.t)):=by
 refine bC func105 rfl ntmps105 rfl ?_
 have B:=o.l1
 have I:=pg x.t
 repeat apply ar
 refine SG.box rfl rfl rfl (ag rfl) (fun u C i G a=>?_)
 have a:aG C u (.cells (bV x).toArray 52):=a
 refine SG.alloc rfl rfl rfl (fun f D j H c=>?_)
 have c:aG D f (.cells (dc zd).toArray 47):=c
 have p:=i.trans j
 obtain⟨r,-,-,-,-,-,-⟩:=aX (a.az j)
 repeat (first|apply ar|refine qa2 ?_)
 refine SG.call rfl rfl rfl (vs:=[eG x]) (bg.of rfl) ((mN (o.b.az p) B).mono (fun e M z=>?_))
 obtain⟨L,h,d,k⟩:=z
 refine⟨_,h,?_⟩
 clear r h
 obtain⟨q,v,rfl,g⟩:=Bs.own d
 refine SG.ret rfl rfl rfl (vs:=[.slice q (eK x.t).length v]) (bg.of rfl) (oe g.sl (rb d) (fun s K e=>cK d s (by subst e;rfl)) (by omega) g.len) (fun E m=>?_)
 refine SG.ret rfl rfl rfl (vs:=[dv (mB (eK x.t)),sv [116,120]]) (bg.of rfl) (iA _ [116,120] (by decide) E) (fun N n=>?_)
 refine SG.aN (l:=dc (de x.t)) rfl rfl (ag rfl) (ag rfl) (((c.az k).az m).az n) (ai _) rfl (bj _) (fun F A y=>?_)
 have J:Row F f 0 (dc (de x.t)):=Row.all y rfl
 repeat apply ar
 refine aO (Or.inl rfl) results105 (by exact aD.agg rfl rfl (by assumption) (by first|exact ai _|exact nc_length _|exact rc_length _ _ _|exact aT _|exact dl_length _ _ _ _|exact bh _|exact bB _|exact bE _|exact ay _|rfl)) ?_
 exact⟨rfl,(((p.trans k).trans m).trans n).aj A (aW (by have:=i.size;omega))⟩
theorem qY(d:Dg)(n:Int)(w:World):kr prog 5 iE 1 49 #[dv d,.int .i64 n] w (js d n):=by
 refine bN func49 rfl ntmps49 rfl ?_
 have v:=cm (num d)
 have t:=nH n
 repeat apply ar
 refine SG.box rfl rfl rfl (ag rfl) (fun i g o u k=>?_)
 have x:Row g i 0 (dc d):=Row.all k rfl
 repeat (first|apply ar|(apply au;rfl;(first|apply aE|apply bf)<;>first|rfl|assumption|exact wn|apply ai))
 refine SG.ret rfl rfl rfl (vs:=[dv d]) (bg.of rfl) (fj d g) (fun A p=>?_)
 refine SG.call rfl rfl rfl (vs:=[.slice none 0 0,.int .u64 (num d:Int)]) (bg.of rfl) ((dh (l:=[]) Bs.nil (num d) (rk _) (by simp)).mono (fun e B b=>?_))
 obtain⟨y,a,c,q⟩:=b
 refine⟨_,a,?_⟩
 rw[nil_append] at c
 obtain⟨h,j,rfl,m⟩:=Bs.own c
 have f:=(o.trans p).trans q
 repeat (apply au;rfl;(first|apply aB|apply xX)<;>rfl)
 rw[jP]
 refine SG.call rfl rfl rfl (vs:=[.slice h (cU (num d)).length j,.int .u64 (dE n:Int)]) (bg.of rfl) ((dh m (dE n) t (by omega)).mono (fun e C b=>?_))
 obtain⟨z,a,s,r⟩:=b
 refine⟨_,a,?_⟩
 repeat (first|apply ar|refine wt ?_)
 refine aO (Or.inl rfl) results49 (aD.tmp rfl) ?_
 exact⟨_,rfl,c9 s f.size,f.trans r⟩
theorem iq{base j pm:Nat}{v:Value}{m:dW}(C:dw w base j pm v m)(f:x.In n0 w):dq prog 72 #[eG x,.iface 40 (.pointer (some ⟨j,0,none⟩))] w (.int .i64 (eJ m x.t)):=by
 refine bN func72 rfl ntmps72 rfl ?_
 repeat apply ar
 refine SG.box rfl rfl rfl (ag rfl) (fun z L k M c=>?_)
 have c:aG L z (.cells (bV x).toArray 52):=c
 obtain⟨r,-,-,-,-,-,o⟩:=aX c
 have N:=f.l2
 repeat (first|apply ar|(apply au;rfl;(first|apply F9|apply aB|apply aE)<;>rfl))
 refine bA rfl ?_
 repeat (first|apply ar|refine qa2 ?_)
 refine SG.ret rfl rfl rfl (vs:=[eG x]) (bg.of rfl) (ki (f.az k)) (fun P d=>?_)
 have b:=k.trans d
 by_cases i:bu x.t=0
 rotate_left
 ·have g:eJ m x.t=bu x.t:=by unfold eJ;rw[if_pos i]
  rw[g]
  repeat (first|apply ar|refine vr ?_)
  refine bO rfl ?_
  repeat (first|apply ar|refine ww ?_)
  refine aO (Or.inl rfl) results72 (aD.tmp rfl) ?_
  exact⟨rfl,b⟩
 have g:eJ m x.t=if mZ m x.t.frm (de x.t) x.t.sig then 0 else 16:=by unfold eJ;rw[if_neg (fun h=>h i)]
 rw[g,i]
 have o:=o.az d
 have p:=r.az d
 clear r
 repeat (first|apply ar|refine vp ?_)
 refine bA rfl ?_
 repeat apply ar
 obtain⟨-,J,-⟩:=aX (c.az d)
 refine CG.dS mixed 11 [0,1,2,5,6,8,9,10,3,4,7] [7] [] (fun _=>True) (by kernel_rfl) trivial (fun _ _ _ _=>trivial) ?_
 iterate 8 (refine aM.val rfl rfl rfl (by first|((first|apply Ly|apply F8|apply aB|apply aZ|apply bf|apply aU)<;>(first|exact rfl|assumption|exact wn|apply ai|infer_instance))|fail) ?_)
 clear J
 have K:=p
 repeat (apply bW;rfl;rfl;apply bf<;>first|rfl|assumption|exact wn|apply ay)
 clear p K
 refine aM.call rfl rfl rfl (vs:=[eG x]) (bg.of rfl) (fun W a _=>nx ((f.az b).az a)) ?_
 skip
 refine aM.kQ (X:=Option Addr×Nat) (vs:=[x.s]) (fun q=> .slice q.1 x.t.sig.length q.2) (fun q W=>Sl iE 1 W q.1 x.t.sig) rfl rfl rfl rfl (bg.of rfl) (fun q W u a h=>h.az a) (fun _ _ _ h=>h) (fun W a _=>(ie x.c2 ((f.az b).az a).s.sl (by omega)).mono (fun e u F=>?_)) (fun q=>?_)
 ·obtain⟨O,E,I,G⟩:=F
  obtain⟨y,A,rfl,D⟩:=Bs.own I
  exact⟨(y,A),E,D.sl,G⟩
 skip
 refine aM.tl (fun Q l B _=>?_)
 refine SG.Ia rfl rfl rfl (vs:=[dv x.t.frm,dv (de x.t),.slice q.1 x.t.sig.length q.2]) (ag rfl) (bg.of rfl) (vz (C.az (b.trans l)) _ _ B.2) (fun R H=>?_)
 have n:=(b.trans l).trans H
 cases mZ m x.t.frm (de x.t) x.t.sig with
 |true=>
  repeat (first|apply ar|(apply au;rfl;apply ig<;>rfl))
  refine bA rfl ?_
  repeat (first|apply ar|refine wt ?_)
  refine aO (Or.inl rfl) results72 (aD.tmp rfl) ?_
  exact⟨rfl,n⟩
 |false=>
  repeat (first|apply ar|(apply au;rfl;apply ig<;>rfl))
  refine bO rfl ?_
  repeat (first|apply ar|refine wt ?_)
  refine aO (Or.inl rfl) results72 (aD.tmp rfl) ?_
  exact⟨rfl,n⟩
end
section
variable{cs:Array Value}{b base bb pm:Nat}{T:TypeId}{v:Value}{w:World}{m:dW}
def JU:Tx:=⟨zd,0,0,0,[],[]⟩
def A4:Tm:=⟨JU,none,0,none,0⟩
theorem C5(n:Nat)(w:World):A4.In n w:=⟨Bs.nil,Bs.nil,Or.inl (fun h=>absurd rfl h),Or.inl (fun h=>absurd rfl h),by decide,by decide⟩
theorem KT(w:World):(Instr.build 52 #[]).run prog w= .ok (eG A4) w:=by kernel_rfl
def kX(t:Tx)(k:Dg):Tx:={t with frm:=k,sig:=[]}
noncomputable def jU(m:dW)(t:Tx)(k:Dg):Int×Tx×dW:=if bu (kX t k)≠0 then(bu (kX t k),JU,m) else match gU m k (de (kX t k)) with
 |some i=>(0,{t with frm:=k,sig:=ja i},gR m k (de (kX t k)))
 |none=>(17,JU,m)
theorem yw{k d:Dg}(h:gU m k d=none):gR m k d=m:=by
 unfold gU at h
 unfold gR
 cases hr:aC m (k,d) with
 |some i=>rfl
 |none=>
  rw[hr] at h
  simp only at h⊢
  by_cases a:65536<=m.length
  ·rw[if_pos a]
  ·rw[if_neg a] at h;cases h
def ve(w:World)(base bb pm:Nat)(v:Value)(m:dW)(t:Tx)(k:Dg)(e:Ending)(w':World):Prop:=
 ∃(y:Tm) (v':Value),e= .returned (.tuple #[eG y,.int .i64 (jU m t k).1])/\y.t=(jU m t k).2.1/\y.In 0 w'/\dw w' base bb pm v' (jU m t k).2.2/\Kp (bb::pm::aR v) w w'/\(∀g,v'.ownBlock=some g->v.ownBlock=some g\/w.heap.size<=g)/\w'.ownsRow w.heap.size 5 1 y.s y.t.sig.length (bX iE y.t.sig)/\(y.t.body≠[]->∀b off,y.a1=some ⟨b,off,none⟩->b∉aR y.s)
theorem rh(h:aG w b (.cells cs T))(a:T≠5):dD 0 w [b]:=dD.cons (Nat.zero_le _) (dD.cells h a) dD.nil
theorem dw.Js(h:dw w base bb pm v m):dD 0 w (bb::pm::aR v):=by
 refine dD.cons (Nat.zero_le _) (dD.cells h.blk (by decide)) (dD.cons (Nat.zero_le _) (fun b f e=>?_) (dD.own h.own (Nat.zero_le _) (by decide)))
 obtain⟨d,c,a,-⟩:=h.map
 have:=aG.uniq a e
 cases this
theorem dw.Fz{d:World}(h:dw w base bb pm v m)(c:Kp [b] w d)(a:aG w b (.cells cs T))(f:T≠162)(g:T≠341):dw d base bb pm v m:=by
 have i:bb≠b:=fun e=>by
  subst e
  have:=aG.uniq a h.blk
  simp only[Obj.cells.injEq] at this
  exact f this.2.1
 exact⟨h.blk.kp c (bQ i),cr h.own c (cF h.own g a),h.map.kp c (bQ (cJ a h.map)),h.bp,h.pp⟩
attribute [local irreducible] CG NG SG aP aM Row aG aF aQ num dy dH cV cL sF cU bu dX mB eK bG de
theorem qP{n0:Nat}(V:dw w base bb pm v m)(aC:base<=w.heap.size)(aO:m.length<=100000){x:Tm}(hx:x.In n0 w)(k:Dg):
  Calls prog 50 #[eG x,.iface 197 (FI bb k)] w (ve w base bb pm v m x.t k):=by
 refine bN func50 rfl ntmps50 rfl ?_
 have a5:=hx.l1
 obtain⟨n1,n2,n3⟩:=V.nn
 have lb:=V.blk.lt
 have lm:=V.map.lt
 have lo:=cK V.own
 repeat apply ar
 refine SG.box rfl rfl rfl (ag rfl) (fun b2 w1 aH a2 ac=>?_)
 have ac:aG w1 b2 (.cells (bV x).toArray 52):=ac
 refine SG.alloc rfl rfl rfl (fun S w2 ap a3 a=>?_)
 have a:aG w2 S (.cells (bV A4).toArray 52):=a
 have k2:=aH.trans ap
 obtain⟨r,-⟩:=aX (ac.az ap)
 repeat (first|apply ar|(apply au;rfl;(first|apply F9|apply aB|apply aE)<;>rfl))
 refine bA rfl ?_
 repeat (first|apply ar|refine qa2 ?_)
 refine SG.call rfl rfl rfl (vs:=[eG x]) (bg.of rfl) ((jg (hx.az k2)).mono (fun e w3 M=>?_))
 obtain⟨a0,hy,K,A,aq,g1,g2⟩:=M
 refine⟨_,K,?_⟩
 clear K r ac
 obtain⟨a8,c,d,Y,Z⟩:=a0
 simp only at hy g1 g2
 subst hy
 refine SG.alloc rfl rfl rfl (fun G w4 av aY F=>?_)
 refine SG.aN (l:=bV ⟨x.t,c,d,Y,Z⟩) rfl rfl (ag rfl) (ag rfl) F (ay _) rfl (bY _) (fun Q aw F=>?_)
 have F:aG Q G (.cells (bV ⟨x.t,c,d,Y,Z⟩).toArray 52):=F
 have s1:=aH.size
 have s2:=ap.size
 have s3:=aq.size
 have s4:=av.size
 have s5:=aw.size
 have e4:=a.lt
 have k5:Kp [] w Q:=(k2.trans (aq.trans av)).aj aw (aW (by omega))
 have aP:Kp [] w3 Q:=av.aj aw (aW aY)
 have A:=A.az aP
 have a:aG Q S (.cells (bV A4).toArray 52):=(a.az aq).az aP
 repeat (first|apply ar|refine qa0 ?_)
 refine SG.Ia rfl rfl rfl (vs:=[]) (ag rfl) True.intro (AX bb k Q) (fun w6 ax=>?_)
 repeat (apply au;rfl;apply aU<;>rfl)
 refine SG.cp [] (dc x.t.frm) [.int .i64 x.t.non,.int .i64 x.t.fee,.int .i64 x.t.kind,.slice c x.t.body.length d,.slice Y x.t.sig.length Z] rfl rfl (ag rfl) (ag rfl) (F.az ax) (by simp[bV,Tm.b,Tm.s]) (by exact ai k) (ai _) rfl (by exact bj k) (fun w7 aI ad=>?_)
 have ad:aG w7 G (.cells (bV ⟨{x.t with frm:=k},c,d,Y,Z⟩).toArray 52):=ad
 repeat (first|apply ar|(apply au;rfl;apply aU<;>rfl))
 refine SG.cp (dc k++[.int .i64 x.t.non,.int .i64 x.t.fee,.int .i64 x.t.kind,.slice c x.t.body.length d]) [.slice Y x.t.sig.length Z] [] rfl rfl (ag rfl) (ag rfl) ad (by simp[bV,Tm.b,Tm.s]) rfl rfl (by simp[ai]) rfl (fun w8 aJ n=>?_)
 have n:aG w8 G (.cells (bV ⟨kX x.t k,c,d,none,0⟩).toArray 52):=by
  have e:bV ⟨kX x.t k,c,d,none,0⟩=(dc k++[.int .i64 x.t.non,.int .i64 x.t.fee,.int .i64 x.t.kind,.slice c x.t.body.length d])++([.slice none 0 0]++[]):=by simp[bV,Tm.b,Tm.s,kX]
  rw[e]
  exact n
 have s6:=ax.size
 have s7:=aI.size
 have s8:=aJ.size
 have e6:=F.lt
 have aA:Kp [G] Q w8:=(ax.any.trans aI).trans aJ
 have k8:Kp [] w w8:=k5.aj aA (aW (by omega))
 have hO:dD 0 Q [G]:=rh F (by decide)
 have A:=A.iD aA hO
 have j:Tm.In ⟨kX x.t k,c,d,none,0⟩ 0 w8:=⟨A.b,Bs.nil,A.t1,Or.inl (fun h=>absurd rfl h),A.l1,Nat.zero_le _⟩
 have a:aG w8 S (.cells (bV A4).toArray 52):=a.kp aA (bQ (by omega))
 have aS:=V.az k8
 clear F ad A
 obtain⟨o,ho⟩:∃o,kX x.t k=o:=⟨_,rfl⟩
 rw[ho] at n j
 obtain⟨r,-⟩:=aX n
 repeat (first|apply ar|refine qa2 ?_)
 refine SG.ret rfl rfl rfl (vs:=[eG ⟨o,c,d,none,0⟩]) (bg.of rfl) (ki j) (fun w9 N=>?_)
 have k9:=k8.trans N
 have aa:=aS.az N
 clear r
 by_cases h0:bu o=0
 rotate_left
 ·have U:jU m x.t k=(bu o,JU,m):=by unfold jU;rw[ho,if_pos h0]
  unfold ve
  rw[U]
  generalize bu o=z at h0⊢
  repeat (first|apply ar|refine vr ?_)
  refine bO rfl ?_
  repeat apply ar
  refine SG.val rfl rfl rfl rfl (aK rfl KT) ?_
  repeat refine qa0 ?_
  refine SG.aN (l:=bV A4) rfl rfl (ag rfl) (ag rfl) (a.az N) (ay _) rfl (bY _) (fun wa y I=>?_)
  have hr:Row wa S 0 (bV A4):=Row.all I rfl
  repeat (first|apply ar|refine wt ?_)
  refine dT (Or.inl rfl) results50 (aD.agg rfl rfl hr (ay _)) (aD.tmp rfl) ?_
  have ka:=k9.aj y (aW (by omega))
  exact⟨A4,v,rfl,rfl,C5 _ _,V.az ka,ka.any,fun _ h=>Or.inl h,⟨rfl,Or.inl ⟨rfl,rfl⟩⟩,fun h=>absurd rfl h⟩
 rw[h0]
 have a1:(0:Int)=0:=rfl
 have U:jU m x.t k=match gU m k (de o) with
   |some i=>(0,{x.t with frm:=k,sig:=ja i},gR m k (de o))
   |none=>(17,JU,m):=by unfold jU;rw[ho,if_neg (fun h=>h h0)]
 repeat (first|apply ar|refine vp ?_)
 refine bA rfl ?_
 have n:=n.az N
 have j:=j.az N
 have a:=a.az N
 obtain⟨r,-⟩:=aX n
 have s9:=k9.size
 have al:∀z∈bb::pm::aR v,z<w9.heap.size:=fun z u=>by
  rcases mem_cons.1 u with rfl|u
  ·omega
  ·rcases mem_cons.1 u with rfl|u
   ·omega
   ·have:=lo z (aL u);omega
 have nS:∀{z:Nat},w.heap.size<=z->z∉bb::pm::aR v:=fun u D=>by
  rcases mem_cons.1 D with rfl|D
  ·omega
  ·rcases mem_cons.1 D with rfl|D
   ·omega
   ·have:=lo _ (aL D);omega
 have aZ:G∉bb::pm::aR v:=nS (by omega)
 repeat apply ar
 cases hsi:gU m k (de o) with
 |none=>
  rw[hsi] at U
  unfold ve
  rw[U]
  refine CG.draw mixed [0,3,4,5,1,2,6,7,8,9,10,11] [6] [] (bb::pm::aR v) (fun W=>dw W base bb pm v m) (by kernel_rfl) al (by simp) aa (fun W R f h=>h.az f) (Or.inl rfl) ?_
  repeat (apply bW;rfl;rfl;(first|apply Ly|apply F8|apply aB|apply bf)<;>first|rfl|assumption|apply ay|infer_instance)
  refine aM.call rfl rfl rfl (vs:=[eG ⟨o,c,d,none,0⟩]) (bg.of rfl) (fun W f _=>nx (j.iD f aa.Js)) ?_
  skip
  refine aM.zD (t:=197) (v:=FI bb k) (X:=Value) (vs:=[dv (de o)]) (fun _=> .tuple #[.slice none 0 0,.int .i64 17]) (fun _ _=>True) (fun B W=>dw W base bb pm B m/\∀g,B.ownBlock=some g->v.ownBlock=some g\/w9.heap.size<=g) rfl rfl rfl rfl (ag rfl) (bg.of rfl) (fun _ _ _ _ _=>trivial) (fun _ W R f h=>⟨h.1.az f,h.2⟩) (fun _ _ _ _=>trivial) (fun W f _ J=>(qI J (Nat.le_trans aC (Nat.le_trans s9 f.size)) aO k (de o)).mono (fun e R M=>?_)) (fun B=>?_)
  ·obtain⟨B,af,ao,L,hs⟩:=M
   rw[hsi] at hs
   rw[yw hsi] at af
   exact⟨B,hs,trivial,⟨af,fun g an=>(L g an).imp id (fun h=>Nat.le_trans f.size h)⟩,ao⟩
  repeat (apply bW;rfl;rfl;(first|apply aB|apply aE|apply dd)<;>rfl)
  refine aM.fin (fun wa y _ J=>?_)
  obtain⟨ak,am⟩:=J
  have a:=a.kp y (nS (by omega))
  clear r
  repeat (first|apply ar|(apply au;rfl;(first|apply aB|apply du)<;>first|rfl|exact qr))
  refine bO rfl ?_
  repeat apply ar
  refine SG.val rfl rfl rfl rfl (aK rfl KT) ?_
  repeat refine qa0 ?_
  refine SG.aN (l:=bV A4) rfl rfl (ag rfl) (ag rfl) a (ay _) rfl (bY _) (fun wb C I=>?_)
  have hr:Row wb S 0 (bV A4):=Row.all I rfl
  repeat (first|apply ar|refine wt ?_)
  refine dT (Or.inl rfl) results50 (aD.agg rfl rfl hr (ay _)) (aD.tmp rfl) ?_
  exact⟨A4,B,rfl,rfl,C5 _ _,ak.Fz C a (by decide) (by decide),(k9.any.trans y).aj C (fun z u=>Or.inr (by rw[mem_singleton] at u;omega)),fun g L=>(am g L).imp id (fun h=>by omega),⟨rfl,Or.inl ⟨rfl,rfl⟩⟩,fun h=>absurd rfl h⟩
 |some i=>
  rw[hsi] at U
  unfold ve
  rw[U]
  refine CG.draw mixed [0,3,4,5,1,2,6,7,8,9,10,11] [6] [] (bb::pm::aR v) (fun W=>dw W base bb pm v m) (by kernel_rfl) al (by simp) aa (fun W R f h=>h.az f) (Or.inl rfl) ?_
  repeat (apply bW;rfl;rfl;(first|apply Ly|apply F8|apply aB|apply bf)<;>first|rfl|assumption|apply ay|infer_instance)
  refine aM.call rfl rfl rfl (vs:=[eG ⟨o,c,d,none,0⟩]) (bg.of rfl) (fun W f _=>nx (j.iD f aa.Js)) ?_
  skip
  refine aM.zD (t:=197) (v:=FI bb k) (X:=Nat×Value) (vs:=[dv (de o)]) (fun q=> .tuple #[.slice (some ⟨q.1,0,none⟩) 2 2,.int .i64 0]) (fun q W=>w9.heap.size<=q.1/\aG W q.1 (.cells #[bv (UInt8.ofNat i),bv (UInt8.ofNat (i/256))] 5)) (fun q W=>dw W base bb pm q.2 (gR m k (de o))/\∀g,q.2.ownBlock=some g->v.ownBlock=some g\/w9.heap.size<=g) rfl rfl rfl rfl (ag rfl) (bg.of rfl) (fun q W R f h=>⟨h.1,h.2.kp f (fun D=>by have:=al _ D;have:=h.1;omega)⟩) (fun _ W R f h=>⟨h.1.az f,h.2⟩) (fun _ _ _ _=>trivial) (fun W f _ J=>(qI J (Nat.le_trans aC (Nat.le_trans s9 f.size)) aO k (de o)).mono (fun e R M=>?_)) (fun q=>?_)
  ·obtain⟨B,af,ao,L,hs⟩:=M
   rw[hsi] at hs
   obtain⟨p,K,hb,I⟩:=hs
   exact⟨(p,B),K,⟨Nat.le_trans f.size hb,I⟩,⟨af,fun g an=>(L g an).imp id (fun h=>Nat.le_trans f.size h)⟩,ao⟩
  obtain⟨bs,B⟩:=q
  simp only
  repeat (apply bW;rfl;rfl;(first|apply aB|apply aE|apply dd)<;>rfl)
  refine aM.fin (fun wa y hF J=>?_)
  obtain⟨ak,am⟩:=J
  obtain⟨-,a4,aQ⟩:=hF
  have a:=a.kp y (nS (by omega))
  have n:=n.kp y aZ
  have j:=j.iD y aa.Js
  have aF:=j.b.lt
  have eb:o.body=x.t.body:=by rw[<-ho];rfl
  rw[eb] at aF
  have ka:Kp (bb::pm::aR v) w wa:=k9.any.trans y
  clear r
  repeat (first|apply ar|(apply au;rfl;(first|apply aB|apply du)<;>first|rfl|exact qf))
  refine bA rfl ?_
  repeat (first|apply ar|refine qa0 ?_)
  have aV:Sl iE 1 wa (some ⟨bs,0,none⟩) (ja i):=Sl.iL (pre:=[]) (post:=[]) gg (l:=ja i) (T:=5) aQ
  refine SG.call rfl rfl rfl (vs:=[.slice (some ⟨bs,0,none⟩) (ja i).length 2]) (bg.of rfl) ((ie 2 aV (by simp[ja])).mono (fun e wb M=>?_))
  obtain⟨vb,K,P,C⟩:=M
  refine⟨_,K,?_⟩
  clear K
  obtain⟨E,H,rfl,hS⟩:=Bs.own P
  have gs:=fY P
  have ts:Ty 5 wb E (ja i):=Ty.own P
  have n:=n.az C
  have a:=a.az C
  have j:=j.az C
  have kb:=ka.trans C.any
  have a6:=N.size
  have a7:=y.size
  have sa:=ka.size
  have sb:=C.size
  repeat (apply au;rfl;apply aU<;>rfl)
  refine SG.cp (dc o.frm++[.int .i64 o.non,.int .i64 o.fee,.int .i64 o.kind,.slice c o.body.length d]) [.slice none o.sig.length 0] [] rfl rfl (ag rfl) (ag rfl) n (by simp[bV,Tm.b,Tm.s]) rfl rfl (by simp[ai]) rfl (fun wc O ae=>?_)
  have es:({o with sig:=ja i}:Tx)={x.t with frm:=k,sig:=ja i}:=by rw[<-ho];rfl
  have ae:aG wc G (.cells (bV ⟨{o with sig:=ja i},c,d,E,H⟩).toArray 52):=by
   have e:bV ⟨{o with sig:=ja i},c,d,E,H⟩=(dc o.frm++[.int .i64 o.non,.int .i64 o.fee,.int .i64 o.kind,.slice c o.body.length d])++([.slice E (ja i).length H]++[]):=by simp[bV,Tm.b,Tm.s]
   rw[e]
   exact ae
  have j:=j.iD O (rh n (by decide))
  have hS:=hS.kp O (fun p ab e=>bQ (by have:=gs p ab e;omega))
  have ts:=ts.kp O (fun _ p ab e=>bQ (by have:=gs p ab e;omega))
  have a:=a.kp O (bQ (by omega))
  have aT:=(ak.az C).Fz O n (by decide) (by decide)
  rw[es] at ae
  have A:Tm.In ⟨{x.t with frm:=k,sig:=ja i},c,d,E,H⟩ 0 wc:=by
   rw[<-es]
   exact⟨j.b,hS,j.t1,Or.inl ts,j.l1,by simp[ja]⟩
  obtain⟨r,-⟩:=aX ae
  repeat (first|apply ar|refine qa2 ?_)
  refine SG.aN (l:=bV ⟨{x.t with frm:=k,sig:=ja i},c,d,E,H⟩) rfl rfl (ag rfl) (ag rfl) a (ay _) rfl (bY _) (fun wd ah I=>?_)
  have hr:Row wd S 0 (bV ⟨{x.t with frm:=k,sig:=ja i},c,d,E,H⟩):=Row.all I rfl
  clear r
  repeat (first|apply ar|refine wt ?_)
  refine dT (Or.inl rfl) results50 (aD.agg rfl rfl hr (ay _)) (aD.tmp rfl) ?_
  exact⟨⟨{x.t with frm:=k,sig:=ja i},c,d,E,H⟩,B,rfl,rfl,A.iD ah (rh a (by decide)),aT.Fz ah a (by decide) (by decide),(kb.aj O (fun z u=>Or.inr (by rw[mem_singleton] at u;omega))).aj ah (fun z u=>Or.inr (by rw[mem_singleton] at u;omega)),fun g L=>(am g L).imp id (fun h=>by omega),dM (dM (c9 P (by omega)) O (fun p e=>bQ (by have:=cj P p e;omega))) ah (fun p e=>bQ (by have:=cj P p e;omega)),fun hn p ab e D=>by have h1:=aF hn p ab e;have h2:=cj P p (aL D);omega⟩
end
section
variable{h l s:Int}{L m:List (Dg×Int)}{b7 bm:Nat}{w:World}
open Go.Proofs
abbrev vj(z:Int):Value:= .int .i64 z
def sy(L:List (Dg×Int))(e:En):Bool:=L.any (fun p=>decide (p.1=e.key/\e.non<=p.2))
theorem zV{e:En}(h:kt m L):sy L e=true↔∃n,aC m e.key=some n/\e.non<=n:=by
 rw[h e.key e.non]
 unfold sy
 rw[any_eq_true]
 constructor
 ·rintro⟨p,a,b⟩;exact⟨p,a,of_decide_eq_true b⟩
 ·rintro⟨p,a,b⟩;exact⟨p,a,decide_eq_true b⟩
def wj(e:En):Dg×Int:=(e.key,e.non)
def GS(h leave:Int)(e:En):Bool:=decide (leave<=h-e.since-1)
def pw(l:List En)(h leave:Int):List (Dg×Int):=(l.filter (GS h leave)).map wj
theorem B1{l:List En}{leave:Int}{i:Nat}(a:i<l.length):pw (l.take (i+1)) h leave=if GS h leave l[i] then pw (l.take i) h leave++[wj l[i]] else pw (l.take i) h leave:=by
 unfold pw
 rw[take_succ_eq_append_getElem a,filter_append,map_append]
 by_cases g:GS h leave l[i]=true
 ·rw[if_pos g,filter_cons_of_pos g]
  rfl
 ·rw[if_neg g,filter_cons_of_neg g]
  simp
def iS(n:Int):Prop:= -9223372036854775808<=n/\n<=9223372036854775807
attribute [local irreducible] CG NG SG aP aM Row aG aF aQ aJ bu
theorem EE(b:iS h)(k:0<=s)(m:s<=1099511627776)(c:iS l):dq prog 130 #[.int .i64 h,.int .i64 s,.int .i64 l] w (.bool (decide (l<=h-s-1))):=by
 refine dG func130 rfl ntmps130 rfl ?_
 obtain⟨d,f⟩:=b
 obtain⟨i,j⟩:=c
 by_cases g:h< -9223372036854775808+s+1
 ·have e:decide (l<=h-s-1)=false:=decide_eq_false (by omega)
  rw[e]
  repeat (first|apply ar|(apply au;rfl;(first|apply aB|apply aE|apply cg|apply dp)<;>first|rfl|exact zc|exact qf))
  refine bO rfl ?_
  repeat (first|apply ar|refine wt ?_)
  refine aO (Or.inl rfl) results130 (aD.tmp rfl) ?_
  exact⟨rfl,Kp.refl _ _⟩
 ·by_cases a:l<=h-s-1
  ·have e:decide (l<=h-s-1)=true:=decide_eq_true a
   rw[e]
   repeat (first|apply ar|(apply au;rfl;(first|apply aB|apply aE|apply cg|apply dp)<;>first|rfl|exact zc|exact qr))
   refine bA rfl ?_
   repeat (first|apply ar|(apply au;rfl;(first|apply aB|apply aE|apply ji|apply td)<;>first|rfl|exact zc|exact qf))
   refine aO (Or.inl rfl) results130 (aD.tmp rfl) ?_
   exact⟨rfl,Kp.refl _ _⟩
  ·have e:decide (l<=h-s-1)=false:=decide_eq_false a
   rw[e]
   repeat (first|apply ar|(apply au;rfl;(first|apply aB|apply aE|apply cg|apply dp)<;>first|rfl|exact zc|exact qr))
   refine bA rfl ?_
   repeat (first|apply ar|(apply au;rfl;(first|apply aB|apply aE|apply ji|apply td)<;>first|rfl|exact zc|exact qr))
   refine aO (Or.inl rfl) results130 (aD.tmp rfl) ?_
   exact⟨rfl,Kp.refl _ _⟩
theorem yU(e:Em)(j:Row w b7 0 [.map (some bm)])(k:aF w bm (dv (n:=8)) vj m)(o:kt m L):dq prog 131 #[ev e,.pointer (some ⟨b7,0,none⟩)] w (.bool (sy L e.en)):=by
 refine fC (args:=[ev e,.pointer (some ⟨b7,0,none⟩)]) func131 rfl ntmps131 rfl ?_
 repeat apply ar
 refine SG.box rfl rfl rfl (ag rfl) (fun l r c s f=>?_)
 have f:aG r l (.cells (ec e).toArray 216):=f
 obtain⟨-,u,q,-⟩:=eO (Row.all f rfl)
 simp only[Nat.zero_add] at q
 have j:=j.az c
 have k:=k.az c
 have h:=zV (e:=e.en) o
 cases hl:aC m e.x.t.frm with
 |none=>
  have b:sy L e.en=false:=by
   cases hb:sy L e.en with
   |false=>rfl
   |true=>
    obtain⟨d,a,i⟩:=h.1 hb
    have a:aC m e.x.t.frm=some d:=a
    rw[hl] at a
    cases a
  rw[b]
  repeat (first|apply ar|(apply au;rfl;(first|apply aB|apply aE|apply aZ|apply bf|apply aU|apply cI|apply jz|apply dd)<;>first|rfl|assumption|exact wn|apply ai|exact rz (by assumption)|fail)|refine SG.skip rfl rfl ?_)
  refine aO (Or.inl rfl) results131 (aD.tmp rfl) ?_
  exact⟨rfl,c⟩
 |some d=>
  by_cases g:e.x.t.non<=d
  ·have b:sy L e.en=true:=h.2 ⟨d,hl,g⟩
   rw[b]
   repeat (first|apply ar|(apply au;rfl;(first|apply aB|apply aE|apply aZ|apply bf|apply aU|apply cI|apply Cq|apply jz|apply dd)<;>first|rfl|assumption|exact qf|exact wn|apply ai|exact iX (by assumption)|fail))
   refine aO (Or.inl rfl) results131 (aD.tmp rfl) ?_
   exact⟨rfl,c⟩
  ·have b:sy L e.en=false:=by
    cases hb:sy L e.en with
    |false=>rfl
    |true=>
     obtain⟨p,a,i⟩:=h.1 hb
     have a:aC m e.x.t.frm=some p:=a
     rw[hl] at a
     cases a
     exact absurd i g
   rw[b]
   repeat (first|apply ar|(apply au;rfl;(first|apply aB|apply aE|apply aZ|apply bf|apply aU|apply cI|apply Cq|apply jz|apply dd)<;>first|rfl|assumption|exact qr|exact wn|apply ai|exact iX (by assumption)|fail))
   refine aO (Or.inl rfl) results131 (aD.tmp rfl) ?_
   exact⟨rfl,c⟩
theorem zu(e:Em)(j:Row w b7 0 [.map (some bm)])(k:aF w bm (dv (n:=8)) vj m)(o:kt m L):dq prog 143 #[ev e,.pointer (some ⟨b7,0,none⟩)] w (.bool (sy L e.en)):=by
 refine fC (args:=[ev e,.pointer (some ⟨b7,0,none⟩)]) func143 rfl ntmps143 rfl ?_
 repeat apply ar
 refine SG.box rfl rfl rfl (ag rfl) (fun l r c s f=>?_)
 have f:aG r l (.cells (ec e).toArray 216):=f
 obtain⟨-,u,q,-⟩:=eO (Row.all f rfl)
 simp only[Nat.zero_add] at q
 have j:=j.az c
 have k:=k.az c
 have h:=zV (e:=e.en) o
 cases hl:aC m e.x.t.frm with
 |none=>
  have b:sy L e.en=false:=by
   cases hb:sy L e.en with
   |false=>rfl
   |true=>
    obtain⟨d,a,i⟩:=h.1 hb
    have a:aC m e.x.t.frm=some d:=a
    rw[hl] at a
    cases a
  rw[b]
  repeat (first|apply ar|(apply au;rfl;(first|apply aB|apply aE|apply aZ|apply bf|apply aU|apply cI|apply jz|apply dd)<;>first|rfl|assumption|exact wn|apply ai|exact rz (by assumption)|fail)|refine SG.skip rfl rfl ?_)
  refine aO (Or.inl rfl) results143 (aD.tmp rfl) ?_
  exact⟨rfl,c⟩
 |some d=>
  by_cases g:e.x.t.non<=d
  ·have b:sy L e.en=true:=h.2 ⟨d,hl,g⟩
   rw[b]
   repeat (first|apply ar|(apply au;rfl;(first|apply aB|apply aE|apply aZ|apply bf|apply aU|apply cI|apply Cq|apply jz|apply dd)<;>first|rfl|assumption|exact qf|exact wn|apply ai|exact iX (by assumption)|fail))
   refine aO (Or.inl rfl) results143 (aD.tmp rfl) ?_
   exact⟨rfl,c⟩
  ·have b:sy L e.en=false:=by
    cases hb:sy L e.en with
    |false=>rfl
    |true=>
     obtain⟨p,a,i⟩:=h.1 hb
     have a:aC m e.x.t.frm=some p:=a
     rw[hl] at a
     cases a
     exact absurd i g
   rw[b]
   repeat (first|apply ar|(apply au;rfl;(first|apply aB|apply aE|apply aZ|apply bf|apply aU|apply cI|apply Cq|apply jz|apply dd)<;>first|rfl|assumption|exact qr|exact wn|apply ai|exact iX (by assumption)|fail))
   refine aO (Or.inl rfl) results143 (aD.tmp rfl) ?_
   exact⟨rfl,c⟩
theorem qb3{P n o Q r L w d b t p f g v}(c:SG P n o Q r ((d,v)::L) w)(a:(Nat.blt d n&&(!fm b&&(want o L ⟨some d,b,t,p,f,g⟩==some true&&b.operands.toList.all (known L))))=true:=by rfl)(e:aP P [] w (fun _=>True) L ⟨some d,b,t,p,f,g⟩ v:=by (first|apply aB|apply aE|apply aZ|apply bf|apply aU|apply cI|apply jz|apply dd|apply ig)<;>first|rfl|assumption|exact wn|apply ai|exact rz (by assumption)|fail):SG P n o Q (⟨some d,b,t,p,f,g⟩::r) L w:=au a e c
theorem tz{base p:Nat}{v:Value}{room:Int}{ms:List Em}(F:Pl w base p v room ms)(O:df room (ms.map Em.en))(hr:room<=1024){f:Int}(P:iS h)(hl:iS l):
  Calls prog 86 #[.pointer (some ⟨p,0,none⟩),.int .i64 h,.agg #[.int .i64 f,.int .i64 l,.int .i64 s]] w (fun e D=>∃K M,e= .returned K/\Kp [] w D/\kq D w.heap.size K M/\M.map (·.t)=((fU (ms.map Em.en)).filter (sy (pw (ms.map Em.en) h l))).map (·.t)):=by
 refine dG func86 rfl ntmps86 rfl ?_
 have aP:ms.length<=1024:=by have:=O.len;rw[length_map] at this;omega
 have aQ:=F.blk.lt
 have aR:∀ac,v.ownBlock=some ac->ac<w.heap.size:=cK F.own
 repeat apply ar
 refine SG.box rfl rfl rfl (ag rfl) (fun k w1 ah aJ u=>?_)
 have u:aG w1 k (.cells #[.int .i64 f,.int .i64 l,.int .i64 s] 31):=u
 have r5:Row w1 k 1 [.int .i64 l]:=Row.of u [.int .i64 f] [.int .i64 s] rfl rfl
 have aV:=u.lt
 clear u
 repeat (first|apply ar|refine qa1 ?_)
 refine bA rfl ?_
 repeat apply ar
 refine SG.makeMap (dv (n:=8)) vj rfl rfl (fun r w2 Q aM b=>?_)
 refine SG.alloc rfl rfl rfl (fun o w3 R aK y=>?_)
 have k3:=(ah.trans Q).trans R
 have s1:=ah.size
 have s2:=Q.size
 have aY:=b.lt
 have b:=b.az R
 refine SG.fe rfl rfl (ag rfl) (ag rfl) y rfl rfl (fun E S y=>?_)
 have b:aF E r (dv (n:=8)) vj []:=b.kp S (bQ (by omega))
 have r7:Row E o 0 [.map (some r)]:=Row.all y rfl
 have k4:Kp [] w E:=k3.aj S (aW (by omega))
 have aX:=y.lt
 have ae:=F.az k4
 have r5:Row E k 1 [.int .i64 l]:=((r5.az Q).az R).kp S (bQ (by omega))
 obtain⟨ab,ad,rfl,hc,hS⟩:=ae.sl
 obtain⟨-,B⟩:=ae.rows
 have s4:=k4.size
 clear y
 repeat (first|apply ar|(apply au;rfl;(first|apply aB|apply aZ|apply aU|apply bR|apply dg)<;>first|rfl|assumption|exact wn))
 refine CG.loop (X:=Nat×List (Dg×Int)) (fun g=>[(0,.pointer (some ⟨p,0,none⟩)),(1,.int .i64 h),(5,.pointer (some ⟨k,0,none⟩)),(7,.pointer (some ⟨o,0,none⟩)),(18,.slice ab ms.length ad),(19,.int .i64 (ms.length:Int)),(20,.int .i64 (g.1:Int))])
  (fun g D=>g.1<=ms.length/\Kp [r] E D/\aF D r (dv (n:=8)) vj g.2/\kt g.2 (pw ((ms.map Em.en).take g.1) h l)) (fun g=>ms.length-g.1) (0,[]) ⟨Nat.zero_le _,Kp.refl _ _,b,kt.nil⟩ (aS.of rfl) ?_
 clear B
 rintro⟨a,m⟩ L ⟨hi,d,Y,q⟩
 simp only at hi Y q
 refine CG.to [(0,.pointer (some ⟨p,0,none⟩)),(1,.int .i64 h),(5,.pointer (some ⟨k,0,none⟩)),(7,.pointer (some ⟨o,0,none⟩)),(18,.slice ab ms.length ad),(19,.int .i64 (ms.length:Int)),(20,.int .i64 (a:Int))] (aS.of rfl) ?_
 have k5:Kp [] w L:=k4.aj d (aW (by omega))
 have af:=F.az k5
 have am:Row L k 1 [.int .i64 l]:=r5.kp d (bQ (by omega))
 have C:Row L o 0 [.map (some r)]:=r7.kp d (bQ (by omega))
 have s5:=d.size
 by_cases W:a<ms.length
 rotate_left
 ·have g1:¬(a:Int)<(ms.length:Int):=by omega
  rw[take_of_length_le (by rw[length_map];omega)] at q
  repeat (first|apply ar|refine un ?_)
  refine bA rfl ?_
  repeat (first|apply ar|refine qa0 ?_)
  refine SG.val rfl rfl rfl rfl (Hz (vs:=[.pointer (some ⟨o,0,none⟩)]) rfl) ?_
  refine SG.call rfl rfl rfl (vs:=[.pointer (some ⟨p,0,none⟩),lf 131 [.pointer (some ⟨o,0,none⟩)]]) (bg.of rfl) ((qX (Fn:=by infer_instance) af O hr (sy (pw (ms.map Em.en) h l)) (fun e aH aA hT hk=>yU e (C.kp hk (fun b=>by have:=hT _ b;omega)) (Y.kp hk (fun b=>by have:=hT _ b;omega)) q)).mono (fun e w6 P=>?_))
  obtain⟨K,M,he,T,hX,ay⟩:=P
  refine⟨_,he,?_⟩
  repeat (first|apply ar|refine wt ?_)
  refine aO (Or.inl rfl) results86 (aD.tmp rfl) ?_
  exact⟨K,M,rfl,k5.trans T,⟨c9 hX.own k5.size,hX.ins⟩,ay⟩
 have g1:(a:Int)<(ms.length:Int):=by omega
 obtain⟨a',c',e',-,an⟩:=af.sl
 cases e'
 obtain⟨aI,o1,rfl,ax⟩:=an.at W
 have c:=B1 (l:=ms.map Em.en) (h:=h) (leave:=l) (i:=a) (by simpa using W)
 rw[getElem_map] at c
 have H:=O.sc _ (mem_map.2 ⟨ms[a],getElem_mem W,rfl⟩)
 have H:0<=ms[a].since/\ms[a].since<=1099511627776:=H
 repeat (first|apply ar|refine ul ?_)
 refine bO rfl ?_
 repeat (first|apply ar|(apply au;rfl;(first|apply bf|apply fa)<;>first|rfl|exact zc|assumption|exact wn|apply aT))
 refine SG.alloc rfl rfl rfl (fun b9 w6 T aL N=>?_)
 refine SG.aN (l:=ec ms[a]) rfl rfl (ag rfl) (ag rfl) N (aT _) rfl (lN _) (fun w7 ap N=>?_)
 have I:Kp [] L w7:=T.aj ap (aW (by omega))
 have r9:Row w7 b9 0 (ec ms[a]):=Row.all N rfl
 obtain⟨-,q0,B,-,-,q5⟩:=eO r9
 simp only[Nat.zero_add] at q0 B q5
 have am:=am.az I
 have C:=C.az I
 have av:=Y.az I
 clear ax r9
 repeat (first|apply ar|(apply au;rfl;(first|apply aB|apply aZ|apply aU)<;>first|rfl|assumption|exact wn))
 refine SG.ret rfl rfl rfl (vs:=[.int .i64 h,.int .i64 ms[a].since,.int .i64 l]) (bg.of rfl) (EE P H.1 H.2 hl) (fun w8 z=>?_)
 have J:=I.trans z
 have q0:=q0.az z
 have B:=B.az z
 have C:=C.az z
 have G:=av.az z
 have ao:GS h l ms[a].en=decide (l<=h-ms[a].since-1):=rfl
 rw[ao] at c
 by_cases hd:l<=h-ms[a].since-1
 rotate_left
 ·rw[decide_eq_false hd] at c⊢
  rw[if_neg (by decide)] at c
  repeat apply ar
  refine bA rfl ?_
  repeat (first|apply ar|refine wz ?_)
  refine NG.round (a+1,m) (aS.of rfl) ⟨by simp only;omega,d.trans J.any,G,by simp only;rw[c];exact q⟩ (by simp only;omega)
 rw[decide_eq_true hd] at c⊢
 rw[if_pos rfl] at c
 have aw:wj ms[a].en=(ms[a].x.t.frm,ms[a].x.t.non):=rfl
 rw[aw] at c
 have al:(∀A,aC m ms[a].x.t.frm=some A->A<ms[a].x.t.non)->kt (ca m ms[a].x.t.frm ms[a].x.t.non) (pw ((ms.map Em.en).take (a+1)) h l):=fun j=>by rw[c];exact q.put j
 cases hlk:aC m ms[a].x.t.frm with
 |none=>
  have aa:=al (fun A j=>by rw[hlk] at j;cases j)
  repeat apply ar
  refine bO rfl ?_
  repeat (first|apply ar|refine qb3 ?_|refine SG.skip rfl rfl ?_)
  refine bO rfl ?_
  repeat (first|apply ar|refine qa3 ?_)
  refine SG.mapUpdate (enc:=dv (n:=8)) (V:=vj) (kx:=ms[a].x.t.frm) (vy:=ms[a].x.t.non) rfl rfl (ag rfl) (ag rfl) (ag rfl) G gJ.key (fun w9 U Z=>?_)
  repeat (first|apply ar|refine wz ?_)
  refine NG.round (a+1,_) (aS.of rfl) ⟨by simp only;omega,(d.trans J.any).trans U,Z,aa⟩ (by simp only;omega)
 |some A=>
  by_cases ak:A<ms[a].x.t.non
  ·have aa:=al (fun n' j=>by rw[hlk] at j;cases j;exact ak)
   repeat apply ar
   refine bO rfl ?_
   repeat (first|apply ar|(apply au;rfl;(first|apply aB|apply aE|apply aZ|apply bf|apply aU|apply cI|apply cg|apply jz|apply dd|apply ig)<;>first|rfl|assumption|exact qf|exact wn|apply ai|exact iX (by assumption)|fail))
   refine bO rfl ?_
   repeat (first|apply ar|refine qa3 ?_)
   refine SG.mapUpdate (enc:=dv (n:=8)) (V:=vj) (kx:=ms[a].x.t.frm) (vy:=ms[a].x.t.non) rfl rfl (ag rfl) (ag rfl) (ag rfl) G gJ.key (fun w9 U Z=>?_)
   repeat (first|apply ar|refine wz ?_)
   refine NG.round (a+1,_) (aS.of rfl) ⟨by simp only;omega,(d.trans J.any).trans U,Z,aa⟩ (by simp only;omega)
  ·have aq:kt m (pw ((ms.map Em.en).take (a+1)) h l):=by rw[c];exact q.xq hlk ak
   repeat apply ar
   refine bO rfl ?_
   repeat (first|apply ar|(apply au;rfl;(first|apply aB|apply aE|apply aZ|apply bf|apply aU|apply cI|apply cg|apply jz|apply dd|apply ig)<;>first|rfl|assumption|exact qr|exact wn|apply ai|exact iX (by assumption)|fail))
   refine bA rfl ?_
   repeat (first|apply ar|refine wz ?_)
   refine NG.round (a+1,m) (aS.of rfl) ⟨by simp only;omega,d.trans J.any,G,aq⟩ (by simp only;omega)
end
section
variable{room:Int}{ms:List Em}{S:List Nat}{xs:List Tm}{b base n p sz:Nat}{a:Option Addr}{T T':TypeId}{v:Value}{w w':World}
open Go.Proofs
def eA(T:TypeId)(n:Nat)(w:World)(S:List Nat):Prop:=∀b∈S,n<=b/\∀cs f,w.heap[b]?≠some (.cells cs T f)
def Tg{α:Type}(T:TypeId)(n:Nat)(w:World)(a:Option Addr)(l:List α):Prop:=Ty T w a l\/∀b off,a=some ⟨b,off,none⟩->b<n
theorem Sl.Cs{m:Type}{enc:m->List Value}{l:List m}(h:Sl enc sz w a l)(c:Tg T n w a l)(i:Kp S w w')(g:eA T n w S):Sl enc sz w' a l/\Tg T n w' a l:=by
 have k:l≠[]->∀b d,a=Option.some ⟨b,d,Option.none⟩->b∉S:=fun q b d e j=>by
  rcases c with c|c
  ·obtain⟨o,f,p⟩:=c q b d e
   exact(g b j).2 o f p
  ·have:=c b d e
   have:=(g b j).1
   omega
 exact⟨h.LG i k,c.elim (fun h=>Or.inl (h.kp i k)) Or.inr⟩
theorem eA.cells{cs:Array Value}(h:aG w b (.cells cs T'))(a:T'≠T):∀cs f,w.heap[b]?≠some (.cells cs T f):=fun c f e=>by
 have:=h.uniq e
 simp only[Obj.cells.injEq] at this
 exact a this.2.1
theorem eA.own{n0:Nat}{xs:List Value}(c:w.ownsRow base T' sz v n xs)(f:n0<=base)(d:T'≠T):eA T n0 w (aR v):=fun b e=>by
 have a:=aL e
 refine⟨Nat.le_trans f (cj c b a),?_⟩
 rcases c.2 with⟨rfl,_⟩|⟨g,cap,cur,rfl,_,hg,_⟩
 ·cases a
 ·cases a
  exact eA.cells hg d
theorem eA.cons(e:n<=b)(h:∀c f,w.heap[b]?≠some (.cells c T f))(d:eA T n w S):eA T n w (b::S):=fun z a=>by
 rcases mem_cons.1 a with rfl|a
 ·exact⟨e,h⟩
 ·exact d z a
theorem eA.nil:eA T n w []:=fun z a=>(by cases a)
theorem Pl.Cr(h:Pl w base p v room ms)(a:214≠T)(b:216≠T):eA T base w (p::aR v):=eA.cons h.bp (eA.cells h.blk a) (eA.own h.own (Nat.le_refl _) b)
structure lh(w:World)(n:Nat)(a:Option Addr)(xs:List Tm):Prop where
 sl:Sl bV 13 w a xs
 tg:Tg 52 n w a xs
 ins:∀x∈xs,x.In n w
theorem lh.kp(h:lh w n a xs)(b:Kp S w w')(d:dD n w S)(c:eA 52 n w S):lh w' n a xs:=
 ⟨(h.sl.Cs h.tg b c).1,(h.sl.Cs h.tg b c).2,fun x e=>(h.ins x e).iD b d⟩
theorem lh.az(h:lh w n a xs)(b:Kp [] w w'):lh w' n a xs:=h.kp b dD.nil eA.nil
theorem lh.Vn(h:lh w base a xs)(b:Pl w base p v room ms)(c:Kp (p::aR v) w w'):lh w' base a xs:=h.kp c b.Js (b.Cr (by decide) (by decide))
theorem kq.Lu(h:kq w base v xs):∃a c,v= .slice a xs.length c/\xs.length<=c/\lh w n a xs:=by
 obtain⟨a,c,rfl,d,b⟩:=h.sl
 exact⟨a,c,rfl,d,b,Or.inl (Ty.own h.own),fun x e=>(h.ins x e).mono (Nat.zero_le _)⟩
def nZ(t:Tx):Dg×Int:=(t.frm,t.non)
def pY(l:List En)(ts:List Tx):List En:=l.filter (fun e=> !sy (ts.map nZ) e)
theorem EG(l:List En)(a:List Tx):(pY l a).length<=l.length:=length_filter_le _ _
theorem B2{l:List En}{b:List Tx}(h:df room l):df room (pY l b):=
 ⟨Pairwise.sublist filter_sublist h.dst,by have:=h.len;have:=EG l b;omega,fun e a=>h.ok e (mem_filter.1 a).1,fun e a=>h.sc e (mem_filter.1 a).1⟩
theorem Ex(ms:List Em)(q:En->Bool):(ms.filter (fun e=> !q e.en)).map Em.en=(ms.map Em.en).filter (fun e=> !q e):=by
 rw[filter_map]
 rfl
attribute [local irreducible] CG NG SG aP aM Row aG aF aQ aJ bu
theorem yE(d:Pl w base p v room ms)(L:ms.length<=1024){f:FuncId}[Fn:bU prog f]{caps:List Value}(q:Em->Bool)(F:∀o∈ms,∀W,Kp (aR v) w W->dq prog f (ev o::caps).toArray W (.bool (q o))):
  Calls prog 142 #[.pointer (some ⟨p,0,none⟩),lf f caps] w (fun e B=>e= .returned (.int .i64 ((ms.length:Int)-((ms.filter (fun e=> !q e)).length:Int)))/\∃A,Pl B base p A room (ms.filter (fun e=> !q e))/\Kp (p::aR v) w B/\∀g,A.ownBlock=some g->v.ownBlock=some g):=by
 refine bN func142 rfl ntmps142 rfl ?_
 obtain⟨a,c,s,J,I⟩:=d.sl
 obtain⟨-,y⟩:=d.rows
 rw[s] at y
 repeat (first|apply ar|(apply au;rfl;(first|apply aB|apply aE|apply aZ|apply aU|apply bR|apply dg)<;>first|rfl|assumption|exact wn))
 rw[<-s]
 refine SG.call rfl rfl rfl (vs:=[v,lf f caps]) (bg.of rfl) ((B3 (Fn:=Fn) d.own (by omega) F).mono (fun e N D=>?_))
 obtain⟨H,h,r,m,G⟩:=D
 refine⟨_,h,?_⟩
 clear y h
 have j:=d.blk.kp m d.np
 have E:∀b,H.ownBlock=some b->b∉[p]:=cF r (by decide) j
 have K:(ms.filter (fun e=> !q e)).length<=ms.length:=length_filter_le _ _
 obtain⟨t,u,rfl,-,-⟩:=Sl.own (l:=ms.filter (fun e=> !q e)) aT r rfl
 subst s
 repeat (apply au;rfl;(first|apply aU|apply bR)<;>rfl)
 refine SG.cp [.int .i64 room] [.slice a ms.length c] [] rfl rfl (ag rfl) (ag rfl) j rfl rfl rfl rfl rfl (fun C n k=>?_)
 have k:aG C p (.cells #[.int .i64 room,.slice t (ms.filter (fun e=> !q e)).length u] 214):=k
 have x:Pl C base p (.slice t (ms.filter (fun e=> !q e)).length u) room (ms.filter (fun e=> !q e)):=by
  refine⟨k,cr r n E,fun e h=>?_,d.bp⟩
  exact((d.ins e (mem_filter.1 h).1).iD m (dD.own d.own (Nat.le_refl _) (by decide))).iD n (dD.cons d.bp (dD.cells j (by decide)) dD.nil)
 obtain⟨-,M⟩:=x.rows
 repeat (first|apply ar|(apply au;rfl;(first|apply aB|apply aE|apply aZ|apply aU|apply bR|apply dg|apply td)<;>first|rfl|exact zc|assumption|exact wn))
 refine aO (Or.inl rfl) results142 (aD.tmp rfl) ?_
 exact⟨rfl,_,x,(m.mono (fun z i=>mem_cons_of_mem _ i)).trans (n.mono (fun z i=>by rw[mem_singleton] at i;rw[i];exact mem_cons_self)),G⟩
theorem ut{P n o Q r L w d b t p f g v}(c:SG P n o Q r ((d,v)::L) w)(a:(Nat.blt d n&&(!fm b&&(want o L ⟨some d,b,t,p,f,g⟩==some true&&b.operands.toList.all (known L))))=true:=by rfl)(e:aP P [] w (fun _=>True) L ⟨some d,b,t,p,f,g⟩ v:=by (first|apply bf|apply fa)<;>first|rfl|exact zc|assumption|exact wn|apply ay):SG P n o Q (⟨some d,b,t,p,f,g⟩::r) L w:=au a e c
theorem tO(D:Pl w base p v room ms)(hI:df room (ms.map Em.en))(hr:room<=1024){c:Nat}(M:Sl bV 13 w a xs)(aA:xs.length<=1000000):
  Calls prog 102 #[.pointer (some ⟨p,0,none⟩),.slice a xs.length c] w (fun e y=>e= .returned (.int .i64 ((ms.length:Int)-((pY (ms.map Em.en) (xs.map (·.t))).length:Int)))/\∃z Z,Pl y base p z room Z/\Z.map Em.en=pY (ms.map Em.en) (xs.map (·.t))/\Kp (p::aR v) w y/\∀g,z.ownBlock=some g->v.ownBlock=some g):=by
 refine bN func102 rfl ntmps102 rfl ?_
 have al:ms.length<=1024:=by have:=hI.len;rw[length_map] at this;omega
 have ax:=D.blk.lt
 have W:∀b,v.ownBlock=some b->b<w.heap.size:=cK D.own
 repeat (first|apply ar|refine qa1 ?_)
 refine bA rfl ?_
 repeat apply ar
 refine SG.makeMap (dv (n:=8)) vj rfl rfl (fun o w2 P aw d=>?_)
 refine SG.alloc rfl rfl rfl (fun k w3 Q aq q=>?_)
 have k3:=P.trans Q
 have s2:=P.size
 have aH:=d.lt
 have d:=d.az Q
 refine SG.fe rfl rfl (ag rfl) (ag rfl) q rfl rfl (fun A R q=>?_)
 have d:aF A o (dv (n:=8)) vj []:=d.kp R (bQ (by omega))
 have r7:Row A k 0 [.map (some o)]:=Row.all q rfl
 have K:Kp [] w A:=k3.aj R (aW (by omega))
 have aG:=q.lt
 have s4:=K.size
 have ae:=M.az K
 clear q
 repeat (first|apply ar|(apply au;rfl;(first|apply aB|apply dg)<;>rfl))
 refine CG.loop (X:=Nat×List (Dg×Int)) (fun x=>[(0,.pointer (some ⟨p,0,none⟩)),(5,.pointer (some ⟨k,0,none⟩)),(13,.slice a xs.length c),(14,.int .i64 (xs.length:Int)),(15,.int .i64 (x.1:Int))])
  (fun x y=>x.1<=xs.length/\Kp [o] A y/\aF y o (dv (n:=8)) vj x.2/\kt x.2 (((xs.map (·.t)).take x.1).map nZ)) (fun x=>xs.length-x.1) (0,[]) ⟨Nat.zero_le _,Kp.refl _ _,d,kt.nil⟩ (aS.of rfl) ?_
 rintro⟨i,m⟩ B ⟨hi,j,G,r⟩
 simp only at hi G r
 refine CG.to [(0,.pointer (some ⟨p,0,none⟩)),(5,.pointer (some ⟨k,0,none⟩)),(13,.slice a xs.length c),(14,.int .i64 (xs.length:Int)),(15,.int .i64 (i:Int))] (aS.of rfl) ?_
 have Y:Kp [] w B:=K.aj j (aW (by omega))
 have ab:=D.az Y
 have L:Row B k 0 [.map (some o)]:=r7.kp j (bQ (by omega))
 have s5:=j.size
 by_cases S:i<xs.length
 rotate_left
 ·have g1:¬(i:Int)<(xs.length:Int):=by omega
  rw[take_of_length_le (by rw[length_map];omega)] at r
  have N:=Ex ms (sy ((xs.map (·.t)).map nZ))
  have af:(ms.filter (fun e=> !sy ((xs.map (·.t)).map nZ) e.en)).length=(pY (ms.map Em.en) (xs.map (·.t))).length:=by
   rw[<-length_map (f:=Em.en),N]
   rfl
  repeat (first|apply ar|refine un ?_)
  refine bA rfl ?_
  repeat (first|apply ar|refine qa0 ?_)
  refine SG.val rfl rfl rfl rfl (Hz (vs:=[.pointer (some ⟨k,0,none⟩)]) rfl) ?_
  refine SG.call rfl rfl rfl (vs:=[.pointer (some ⟨p,0,none⟩),lf 143 [.pointer (some ⟨k,0,none⟩)]]) (bg.of rfl) ((yE (Fn:=by infer_instance) ab al (fun e=>sy ((xs.map (·.t)).map nZ) e.en) (fun e _ ap O=>zu e (L.kp O (fun d=>by have:=W _ (aL d);omega)) (G.kp O (fun d=>by have:=W _ (aL d);omega)) r)).mono (fun e w6 hh=>?_))
  obtain⟨he,z,ac,E,an⟩:=hh
  refine⟨_,he,?_⟩
  rw[af]
  repeat (first|apply ar|refine wt ?_)
  refine aO (Or.inl rfl) results102 (aD.tmp rfl) ?_
  exact⟨rfl,z,_,ac,N,Y.any.trans E,an⟩
 have g1:(i:Int)<(xs.length:Int):=by omega
 have ad:Sl bV 13 B a xs:=ae.LG j (fun h b ao e=>bQ (by have:=M.QE h b ao e;omega))
 obtain⟨g,o1,rfl,am⟩:=ad.at S
 have U:((xs.map (·.t)).take (i+1)).map nZ=((xs.map (·.t)).take i).map nZ++[(xs[i].t.frm,xs[i].t.non)]:=by
  rw[take_succ_eq_append_getElem (by simpa using S),map_append,getElem_map]
  rfl
 repeat (first|apply ar|refine ul ?_)
 refine bO rfl ?_
 repeat (first|apply ar|refine ut ?_)
 refine SG.alloc rfl rfl rfl (fun b9 w6 E av C=>?_)
 refine SG.aN (l:=bV xs[i]) rfl rfl (ag rfl) (ag rfl) C (ay _) rfl (bY _) (fun w7 ah C=>?_)
 have s:Kp [] B w7:=E.aj ah (aW (by omega))
 have r9:Row w7 b9 0 (bV xs[i]):=Row.all C rfl
 obtain⟨q0,q1,-⟩:=oV r9
 simp only[Nat.zero_add] at q0 q1
 have L:=L.az s
 have H:=G.az s
 clear am r9
 have aa:(∀u,aC m xs[i].t.frm=some u->u<xs[i].t.non)->kt (ca m xs[i].t.frm xs[i].t.non) (((xs.map (·.t)).take (i+1)).map nZ):=fun h=>by rw[U];exact r.put h
 cases hlk:aC m xs[i].t.frm with
 |none=>
  have J:=aa (fun u h=>by rw[hlk] at h;cases h)
  repeat (first|apply ar|refine qb3 ?_|refine SG.skip rfl rfl ?_)
  refine bO rfl ?_
  repeat (first|apply ar|refine qa3 ?_)
  refine SG.mapUpdate (enc:=dv (n:=8)) (V:=vj) (kx:=xs[i].t.frm) (vy:=xs[i].t.non) rfl rfl (ag rfl) (ag rfl) (ag rfl) H gJ.key (fun w9 F I=>?_)
  repeat (first|apply ar|refine wz ?_)
  refine NG.round (i+1,_) (aS.of rfl) ⟨by simp only;omega,(j.trans s.any).trans F,I,J⟩ (by simp only;omega)
 |some u=>
  by_cases T:u<xs[i].t.non
  ·have J:=aa (fun n' h=>by rw[hlk] at h;cases h;exact T)
   repeat (first|apply ar|(apply au;rfl;(first|apply aB|apply aE|apply aZ|apply bf|apply aU|apply cI|apply cg|apply jz|apply dd|apply ig)<;>first|rfl|assumption|exact qf|exact wn|apply ai|exact iX (by assumption)|fail))
   refine bO rfl ?_
   repeat (first|apply ar|refine qa3 ?_)
   refine SG.mapUpdate (enc:=dv (n:=8)) (V:=vj) (kx:=xs[i].t.frm) (vy:=xs[i].t.non) rfl rfl (ag rfl) (ag rfl) (ag rfl) H gJ.key (fun w9 F I=>?_)
   repeat (first|apply ar|refine wz ?_)
   refine NG.round (i+1,_) (aS.of rfl) ⟨by simp only;omega,(j.trans s.any).trans F,I,J⟩ (by simp only;omega)
  ·have ak:kt m (((xs.map (·.t)).take (i+1)).map nZ):=by rw[U];exact r.xq hlk T
   repeat (first|apply ar|(apply au;rfl;(first|apply aB|apply aE|apply aZ|apply bf|apply aU|apply cI|apply cg|apply jz|apply dd|apply ig)<;>first|rfl|assumption|exact qr|exact wn|apply ai|exact iX (by assumption)|fail))
   refine bA rfl ?_
   repeat (first|apply ar|refine wz ?_)
   refine NG.round (i+1,m) (aS.of rfl) ⟨by simp only;omega,j.trans s.any,H,ak⟩ (by simp only;omega)
end
section
variable{m:Bk}{b bm bt:Nat}{T:TypeId}{w:World}
def Good(m:Bk):Prop:=∀k,0<=(cC m k).money/\(cC m k).money<=2000000000000000000/\0<=(cC m k).nonce/\(cC m k).nonce<=2000000000000000000
def oN(k:Dg)(p:Pu):Ac:=⟨k,p.money,p.nonce⟩
theorem Ld(w:World)(a0 a b c d e f g:UInt8)(x y:Int):(Instr.build 59 #[(0,.agg #[bv a0,bv a,bv b,bv c,bv d,bv e,bv f,bv g]),(1,Value.int .i64 x),(2,Value.int .i64 y)]).run prog w=
  .ok (.agg #[bv a0,bv a,bv b,bv c,bv d,bv e,bv f,bv g,Value.int .i64 x,Value.int .i64 y]) w:=by kernel_rfl
theorem R1(w:World)(k:Dg)(x y:Int):(Instr.build 59 #[(0,dv k),(1,Value.int .i64 x),(2,Value.int .i64 y)]).run prog w= .ok (FD ⟨k,x,y⟩) w:=by
 obtain⟨j,i⟩:=k
 match j,i with
 |[a,b,c,d,e,f,g,h],_=>exact Ld w a b c d e f g h x y
theorem jY{p:Pu}(h:aG w b (.cells (ti p).toArray T)):Row w b 0 [.int .i64 p.money]/\Row w b 1 [.int .i64 p.nonce]/\Row w b 0 (ti p):=
 ⟨Row.of h [] [.int .i64 p.nonce] rfl rfl,Row.of h [.int .i64 p.money] [] rfl rfl,Row.all h rfl⟩
theorem vc{e:Ac}(h:aG w b (.cells (acl e).toArray T)):Row w b 0 (dc e.key)/\Row w b 8 [.int .i64 e.money]/\Row w b 9 [.int .i64 e.nonce]/\Row w b 0 (acl e):=
 ⟨Row.of h [] [.int .i64 e.money,.int .i64 e.nonce] (by simp[acl]) rfl,Row.of h (dc e.key) [.int .i64 e.nonce] (by simp[acl]) (ai _),Row.of h (dc e.key++[.int .i64 e.money]) [] (by simp[acl]) (by simp[ai]),Row.all h rfl⟩
attribute [local irreducible] CG NG SG aP aM Row aG aF aQ
theorem lR(i:bS w bt bm m)(k:Dg):dq prog 19 #[.pointer (some ⟨bt,0,none⟩),dv k] w (FD (oN k (cC m k))):=by
 refine bN func19 rfl ntmps19 rfl ?_
 repeat apply ar
 refine SG.box rfl rfl rfl (ag rfl) (fun g C c t j=>?_)
 refine SG.alloc rfl rfl rfl (fun h p a u b=>?_)
 have f:Row p g 0 (dc k):=Row.all (j.az a) rfl
 have e:=(i.az c).az a
 have y:=e.r0
 have x:=e.map
 repeat (first|apply ar|(apply au;rfl;(first|apply aB|apply jF)<;>rfl))
 refine bA rfl ?_
 repeat apply ar
 refine CG.fA mixed [0,1,2,3,4,5] [(6,7,5,.tmp 15)] (by kernel_rfl) (by kernel_rfl) ?_
 repeat (apply bW;rfl;rfl;(first|apply aB|apply aZ|apply bf|apply aU|apply bR|apply oQ)<;>first|rfl|assumption|exact wn|apply ai|exact Jv)
 refine aM.one (fq.of (by rfl) rfl rfl rfl (ag rfl) rfl (by rfl) rfl) (fun r D d v n=>?_)
 obtain⟨z,A,B⟩:=jY n
 have f:=f.az d
 repeat (first|apply ar|refine qa3 ?_)
 refine SG.val rfl rfl rfl rfl (aK rfl (fun w=>R1 w k (cC m k).money (cC m k).nonce)) ?_
 refine SG.aN (old:=acl ⟨zd,0,0⟩) (l:=acl (oN k (cC m k))) rfl rfl (ag rfl) (ag rfl) (b.az d) (bh _) (bh _) (oM _) (fun q o b=>?_)
 have s:Row q h 0 (acl (oN k (cC m k))):=Row.all b rfl
 repeat apply ar
 refine aO (Or.inl rfl) results19 (by exact aD.agg rfl rfl (by assumption) (by first|exact ai _|exact nc_length _|exact rc_length _ _ _|exact aT _|exact dl_length _ _ _ _|exact bh _|exact bB _|exact bE _|exact ay _|rfl)) ?_
 have:=c.size
 have:=a.size
 exact⟨rfl,((c.trans a).trans d).aj o (by first|exact aW (by omega)|exact kZ (by omega) (by omega))⟩
def ky(m:Bk)(f:Dg)(n:Int):Int:=if n<0\/1125899906842624<n then 2 else if(cC m f).money<n then 21 else 0
def mC(m:Bk)(f t:Dg)(n:Int):Bk:=if ky m f n=0/\f≠t then iN (iN m f ⟨(cC m f).money-n,(cC m f).nonce⟩) t ⟨(cC m t).money+n,(cC m t).nonce⟩ else m
theorem iV(r:bS w bt bm m)(K:Good m)(f t:Dg)(n:Int):Calls prog 120 #[.pointer (some ⟨bt,0,none⟩),dv f,dv t,.int .i64 n] w (fun e N=>e= .returned (.int .i64 (ky m f n))/\bS N bt bm (mC m f t n)/\Kp [bm] w N):=by
 refine pq func120 rfl ntmps120 rfl ?_
 have ah:=r.ne
 have ae:=K f
 have af:=K t
 have ak:=r.blk.lt
 have al:=r.map.lt
 repeat apply ar
 refine SG.box rfl rfl rfl (ag rfl) (fun x w1 i ab z=>?_)
 refine SG.box rfl rfl rfl (ag rfl) (fun p u b ac A=>?_)
 have B:Row u x 0 (dc f):=Row.all (z.az b) rfl
 have C:Row u p 0 (dc t):=Row.all A rfl
 have k:=(r.az i).az b
 have Z:=k.r0
 have Y:=k.map
 have s1:=i.size
 have s2:=b.size
 repeat (first|apply ar|(apply au;rfl;(first|apply aB|apply aE|apply jF)<;>rfl))
 refine bA rfl ?_
 by_cases l:n<0\/1125899906842624<n
 ·have U:n<0\/(¬n<0/\1125899906842624<n):=by omega
  have j:ky m f n=2:=by unfold ky;rw[if_pos l]
  have c:mC m f t n=m:=by unfold mC;rw[if_neg (by rw[j];simp)]
  rcases U with H|⟨H,P⟩
  all_goals
   repeat (first|apply ar|(apply au;rfl;(first|apply aB|apply cI|apply cg|apply ij)<;>first|rfl|exact qf|exact qr)|refine SG.skip rfl rfl ?_)
   refine bO rfl ?_
   repeat (first|apply ar|refine wt ?_)
   refine aO (Or.inl rfl) results120 (aD.tmp rfl) ?_
   exact⟨by rw[j],by rw[c];exact k,(i.trans b).any⟩
 have H:¬n<0:=fun h=>l (Or.inl h)
 have P:¬1125899906842624<n:=fun h=>l (Or.inr h)
 repeat (first|apply ar|(apply au;rfl;(first|apply aB|apply cI|apply cg|apply ij)<;>first|rfl|exact qr))
 refine bA rfl ?_
 repeat apply ar
 refine CG.fA mixed [0,1,2,3,4,5] [(6,7,9,.tmp 24)] (by kernel_rfl) (by kernel_rfl) ?_
 repeat (apply bW;rfl;rfl;(first|apply aB|apply aZ|apply bf|apply aU|apply bR|apply oQ)<;>first|rfl|assumption|exact wn|apply ai|exact Jv)
 refine aM.one (fq.of (by rfl) rfl rfl rfl (ag rfl) rfl (by rfl) rfl) (fun O w3 d ad a=>?_)
 obtain⟨M,q1,q2⟩:=jY a
 have q:=k.az d
 have s3:=d.size
 by_cases I:(cC m f).money<n
 ·have j:ky m f n=21:=by unfold ky;rw[if_neg l,if_pos I]
  have c:mC m f t n=m:=by unfold mC;rw[if_neg (by rw[j];simp)]
  repeat (first|apply ar|(apply au;rfl;(first|apply aB|apply aZ|apply aU|apply cg)<;>first|rfl|assumption|exact qf|exact wn))
  refine bO rfl ?_
  repeat (first|apply ar|refine wt ?_)
  refine aO (Or.inl rfl) results120 (aD.tmp rfl) ?_
  exact⟨by rw[j],by rw[c];exact q,((i.trans b).trans d).any⟩
 have y:ky m f n=0:=by unfold ky;rw[if_neg l,if_neg I]
 have B:=B.az d
 have C:=C.az d
 have Z:=q.r0
 have Y:=q.map
 repeat (first|apply ar|(apply au;rfl;(first|apply aB|apply aZ|apply aU|apply cg)<;>first|rfl|assumption|exact qr|exact wn))
 refine bA rfl ?_
 by_cases J:f=t
 ·have c:mC m f t n=m:=by unfold mC;rw[if_neg (by simp[J])]
  repeat (first|apply ar|(apply au;rfl;(first|apply bf|apply vT)<;>first|rfl|assumption|exact qf|exact wn|apply ai))
  refine bO rfl ?_
  repeat (first|apply ar|refine wt ?_)
  refine aO (Or.inl rfl) results120 (aD.tmp rfl) ?_
  exact⟨by rw[y],by rw[c];exact q,((i.trans b).trans d).any⟩
 have c:mC m f t n=iN (iN m f ⟨(cC m f).money-n,(cC m f).nonce⟩) t ⟨(cC m t).money+n,(cC m t).nonce⟩:=by unfold mC;rw[if_pos ⟨y,J⟩]
 repeat (first|apply ar|(apply au;rfl;(first|apply bf|apply vT)<;>first|rfl|assumption|exact qr|exact wn|apply ai))
 refine bA rfl ?_
 repeat apply ar
 refine CG.fA mixed [0,1,2,3,4,5] [(6,7,10,.tmp 37)] (by kernel_rfl) (by kernel_rfl) ?_
 repeat (apply bW;rfl;rfl;(first|apply aB|apply aZ|apply bf|apply aU|apply bR|apply oQ)<;>first|rfl|assumption|exact wn|apply ai|exact Jv)
 refine aM.one (fq.of (by rfl) rfl rfl rfl (ag rfl) rfl (by rfl) rfl) (fun G w4 s aa g=>?_)
 have M:=M.az s
 have s4:=s.size
 have l9:=a.lt
 repeat (first|apply ar|(apply au;rfl;(first|apply aB|apply aZ|apply aU|apply td)<;>first|rfl|exact zc|assumption|exact wn))
 refine SG.cp [] [.int .i64 (cC m f).money] [.int .i64 (cC m f).nonce] rfl rfl (ag rfl) (ag rfl) (a.az s) rfl rfl rfl rfl rfl (fun w5 E a=>?_)
 have a:aG w5 O (.cells (ti ⟨(cC m f).money-n,(cC m f).nonce⟩).toArray 133):=a
 obtain⟨am,r1,r2⟩:=jY (g.kp E (bQ (by omega)))
 repeat (first|apply ar|(apply au;rfl;(first|apply aB|apply aZ|apply aU|apply dp)<;>first|rfl|exact zc|assumption|exact wn))
 refine SG.cp [] [.int .i64 (cC m t).money] [.int .i64 (cC m t).nonce] rfl rfl (ag rfl) (ag rfl) (g.kp E (bQ (by omega))) rfl rfl rfl rfl rfl (fun v L g=>?_)
 have g:aG v G (.cells (ti ⟨(cC m t).money+n,(cC m t).nonce⟩).toArray 133):=g
 have a:=a.kp L (bQ (by omega))
 obtain⟨_,_,r9⟩:=jY a
 have o:Kp [] u v:=((d.trans s).aj E (aW (by omega))).aj L (aW (by omega))
 have Q:=k.az o
 have s6:=o.size
 have B:Row v x 0 (dc f):=(Row.all (z.az b) rfl:Row u x 0 (dc f)).az o
 have T:=A.az o
 have l5:=z.lt
 have l6:=A.lt
 have n1:p≠bm:=by omega
 have n2:G≠bm:=by omega
 repeat (first|apply ar|refine qa5 ?_)
 refine SG.call rfl rfl rfl (by repeat' (first|exact True.intro|exact ag rfl|refine And.intro ?_ ?_)) ((mr Q f ⟨(cC m f).money-n,(cC m f).nonce⟩ (by unfold Pu.Fit;simp only;omega)).mono (fun e w7 D=>?_))
 obtain⟨V,R,F⟩:=D
 refine⟨_,V,?_⟩
 have C:Row w7 p 0 (dc t):=(Row.all T rfl:Row v p 0 (dc t)).kp F (bQ n1)
 obtain⟨_,_,an⟩:=jY (g.kp F (bQ n2))
 repeat (first|apply ar|refine qa5 ?_)
 refine SG.call rfl rfl rfl (by repeat' (first|exact True.intro|exact ag rfl|refine And.intro ?_ ?_)) ((mr R t ⟨(cC m t).money+n,(cC m t).nonce⟩ (by unfold Pu.Fit;simp only;omega)).mono (fun e w8 D=>?_))
 obtain⟨W,S,X⟩:=D
 refine⟨_,W,?_⟩
 repeat (first|apply ar|refine wt ?_)
 refine aO (Or.inl rfl) results120 (aD.tmp rfl) ?_
 exact⟨by rw[y],by rw[c];exact S,(((i.trans b).trans o).any.trans F).trans X⟩
def sx(m:Bk)(k:Dg)(n:Int):Int:=if n<(cC m k).nonce then 17 else if(cC m k).nonce<n then 20 else if 1099511627776<=n then 2 else 0
def oU(m:Bk)(k:Dg)(n:Int):Bk:=if sx m k n=0 then iN m k ⟨(cC m k).money,(cC m k).nonce+1⟩ else m
theorem tU(i:bS w bt bm m)(B:Good m)(k:Dg)(n:Int):Calls prog 119 #[.pointer (some ⟨bt,0,none⟩),dv k,.int .i64 n] w (fun e s=>e= .returned (.int .i64 (sx m k n))/\bS s bt bm (oU m k n)/\Kp [bm] w s):=by
 refine dG func119 rfl ntmps119 rfl ?_
 have J:=i.ne
 have H:=B k
 have L:=i.blk.lt
 have M:=i.map.lt
 repeat apply ar
 refine SG.box rfl rfl rfl (ag rfl) (fun v t d F z=>?_)
 have r:Row t v 0 (dc k):=Row.all z rfl
 have h:=i.az d
 have K:=h.r0
 have I:=h.map
 have R:=d.size
 repeat (first|apply ar|(apply au;rfl;(first|apply aB|apply aE|apply jF)<;>rfl))
 refine bA rfl ?_
 repeat apply ar
 refine CG.fA mixed [0,1,2,3,4,5] [(6,7,7,.tmp 15)] (by kernel_rfl) (by kernel_rfl) ?_
 repeat (apply bW;rfl;rfl;(first|apply aB|apply aZ|apply bf|apply aU|apply bR|apply oQ)<;>first|rfl|assumption|exact wn|apply ai|exact Jv)
 refine aM.one (fq.of (by rfl) rfl rfl rfl (ag rfl) rfl (by rfl) rfl) (fun x T f G c=>?_)
 obtain⟨N,O,P⟩:=jY c
 have l:=h.az f
 have S:=f.size
 by_cases g:n<(cC m k).nonce
 ·have a:sx m k n=17:=by unfold sx;rw[if_pos g]
  have b:oU m k n=m:=by unfold oU;rw[if_neg (by rw[a];decide)]
  repeat (first|apply ar|(apply au;rfl;(first|apply aB|apply aE|apply aZ|apply aU|apply cg)<;>first|rfl|assumption|exact qf|exact wn))
  refine bO rfl ?_
  repeat (first|apply ar|refine wt ?_)
  refine aO (Or.inl rfl) results119 (aD.tmp rfl) ?_
  exact⟨by rw[a],by rw[b];exact l,(d.trans f).any⟩
 repeat (first|apply ar|(apply au;rfl;(first|apply aB|apply aE|apply aZ|apply aU|apply cg)<;>first|rfl|assumption|exact qr|exact wn))
 refine bA rfl ?_
 by_cases j:(cC m k).nonce<n
 ·have a:sx m k n=20:=by unfold sx;rw[if_neg g,if_pos j]
  have b:oU m k n=m:=by unfold oU;rw[if_neg (by rw[a];decide)]
  repeat (first|apply ar|(apply au;rfl;(first|apply aB|apply aE|apply aZ|apply aU|apply ij)<;>first|rfl|assumption|exact qf|exact wn))
  refine bO rfl ?_
  repeat (first|apply ar|refine wt ?_)
  refine aO (Or.inl rfl) results119 (aD.tmp rfl) ?_
  exact⟨by rw[a],by rw[b];exact l,(d.trans f).any⟩
 repeat (first|apply ar|(apply au;rfl;(first|apply aB|apply aE|apply aZ|apply aU|apply ij)<;>first|rfl|assumption|exact qr|exact wn))
 refine bA rfl ?_
 by_cases q:1099511627776<=n
 ·have a:sx m k n=2:=by unfold sx;rw[if_neg g,if_neg j,if_pos q]
  have b:oU m k n=m:=by unfold oU;rw[if_neg (by rw[a];decide)]
  repeat (first|apply ar|(apply au;rfl;(first|apply aB|apply aE|apply ji)<;>first|rfl|exact qf))
  refine bO rfl ?_
  repeat (first|apply ar|refine wt ?_)
  refine aO (Or.inl rfl) results119 (aD.tmp rfl) ?_
  exact⟨by rw[a],by rw[b];exact l,(d.trans f).any⟩
 have p:sx m k n=0:=by unfold sx;rw[if_neg g,if_neg j,if_neg q]
 have b:oU m k n=iN m k ⟨(cC m k).money,(cC m k).nonce+1⟩:=by unfold oU;rw[if_pos p]
 repeat (first|apply ar|(apply au;rfl;(first|apply aB|apply aE|apply ji)<;>first|rfl|exact qr))
 refine bA rfl ?_
 repeat (first|apply ar|(apply au;rfl;(first|apply aZ|apply aU|apply dp)<;>first|rfl|exact zc|assumption|exact wn))
 refine SG.cp [.int .i64 (cC m k).money] [.int .i64 (cC m k).nonce] [] rfl rfl (ag rfl) (ag rfl) c rfl rfl rfl rfl rfl (fun u D c=>?_)
 have c:aG u x (.cells (ti ⟨(cC m k).money,(cC m k).nonce+1⟩).toArray 133):=c
 obtain⟨_,_,Q⟩:=jY c
 have o:Kp [] t u:=f.aj D (aW (by omega))
 have r:=r.az o
 repeat (first|apply ar|refine qa5 ?_)
 refine SG.call rfl rfl rfl (by repeat' (first|exact True.intro|exact ag rfl|refine And.intro ?_ ?_)) ((mr (h.az o) k ⟨(cC m k).money,(cC m k).nonce+1⟩ (by unfold Pu.Fit;simp only;omega)).mono (fun e U C=>?_))
 obtain⟨A,y,E⟩:=C
 refine⟨_,A,?_⟩
 repeat (first|apply ar|refine wt ?_)
 refine aO (Or.inl rfl) results119 (aD.tmp rfl) ?_
 exact⟨by rw[p],by rw[b];exact y,(d.trans o).any.trans E⟩
end
section
variable{m:Bk}{bm bt:Nat}{κ ν:Type}{w:World}
theorem Good.fit(h:Good m)(k:Dg):(cC m k).Fit:=by
 have:=h k
 unfold Pu.Fit
 omega
theorem qH(a:(m.map (·.1)).Nodup){p:Dg×Pu}(b:p∈m):cC m p.1=p.2:=by
 unfold cC
 rw[fx a b]
 rfl
def tot(m:Bk):Int:=(m.map (fun p=>p.2.money)).sum
theorem dK(p:Dg×Pu)(b:Bk):tot (p::b)=p.2.money+tot b:=by simp[tot]
theorem C2(h:∀p∈m,0<=p.2.money):0<=tot m:=by
 induction m with
 |nil=>simp[tot]
 |cons p m b=>
  rw[dK]
  have:=h p (by simp)
  have:=b (fun q a=>h q (by simp[a]))
  omega
theorem SG.DX{P:Program}{n:Nat}{Q:Exit->Act->World->Prop}{L:Env}{a:List Oper}{e:List Oper}{ty:TypeId}{pos:String}{af:Array Edge}{g:Option (Nat×Bool)}(enc:κ->Value)(V:ν->Value){d:Nat}{T k E:TypeId}[u:Ut P T (.map k E)]{x:Operand}{q:IntKind}{z:Int}(f:Nat.blt d n=true)(j:want a L ⟨some d,.makeMap T (some x),ty,pos,af,g⟩=some true)
  (i:known L x=true) (l:bH L x= .int q z) (h:∀b c,Kp [] w c->w.heap.size<=b->aF c b enc V []->SG P n a Q e ((d,.map (some b))::L) c):SG P n a Q (⟨some d,.makeMap T (some x),ty,pos,af,g⟩::e) L w:=by
 refine SG.op (by simpa using f) rfl j (by simpa[Op.operands] using i) ?_
 unfold bD
 have:(execOp (bH L) ⟨some d,.makeMap T (some x),ty,pos,af,g⟩).run P w= .ok (.value (.map (some w.heap.size))) {w with heap:=w.heap.push (.map #[] 0)}:=by
  simp only[execOp,Option.map_some,l,Sem.run_bind,um (u:=u),Result.andThen,Sem.run_pure]
 rw[this]
 exact h w.heap.size _ (Kp.push w _ rfl) (Nat.le_refl _) (aF.made w enc V)
attribute [local irreducible] CG NG SG aP aM Row aG aF aQ
theorem Lc(w:World)(a:Nat):(Instr.build 136 #[(0,Value.map (some a))]).run prog w= .ok (.agg #[Value.map (some a)]) w:=by kernel_rfl
theorem sk[DecidableEq κ]{m b:List (κ×ν)}(a:m.Perm b)(c:(m.map (·.1)).Nodup)(x:κ):aC m x=aC b x:=by
 have d:(b.map (·.1)).Nodup:=(a.map _).nodup_iff.1 c
 cases h:aC m x with
 |none=>
  rw[fL] at h
  symm
  rw[fL]
  exact fun p g=>h p (a.mem_iff.2 g)
 |some y=>
  have:∃p∈m,p.1=x/\p.2=y:=by
   clear c d a
   induction m with
   |nil=>simp[aC] at h
   |cons p m j=>
    obtain⟨k,v⟩:=p
    by_cases e:k=x
    ·simp only[aC,e,if_true,Option.some.injEq] at h
     exact⟨(k,v),by simp,e,h⟩
    ·simp only[aC,e,if_false] at h
     obtain⟨p,a,f⟩:=j h
     exact⟨p,by simp[a],f⟩
  obtain⟨p,i,rfl,rfl⟩:=this
  exact(fx d (a.mem_iff.1 i)).symm
theorem gn(f:bS w bt bm m):Calls prog 54 #[.pointer (some ⟨bt,0,none⟩)] w (fun e a=>∃b c R,e= .returned (.pointer (some ⟨b,0,none⟩))/\bS a b c R/\R.Perm m/\w.heap.size<=b/\w.heap.size<=c/\Kp [] w a):=by
 refine bC func54 rfl ntmps54 rfl ?_
 have Q:=f.r0
 have hm:=f.map
 repeat (first|apply ar|(apply au;rfl;(first|apply aB|apply aE|apply jF)<;>rfl))
 refine bA rfl ?_
 repeat (first|apply ar|(apply au;rfl;(first|apply aB|apply aZ|apply aU|apply bR|apply Kg)<;>first|rfl|assumption|exact wn))
 refine SG.DX (dv (n:=8)) qV rfl rfl rfl (ag rfl) (fun c w1 D aq y=>?_)
 refine SG.val rfl rfl rfl rfl (aK rfl (fun w=>Lc w c)) ?_
 refine SG.box rfl rfl rfl (ag rfl) (fun b w2 t av s=>?_)
 have B:=(f.az D).az t
 have Q:=B.r0
 repeat (first|apply ar|refine qb6 ?_)
 refine SG.range rfl rfl rfl (ag rfl) B.map (fun r w3 u aw j=>?_)
 have Y:=f.blk.lt
 have W:=f.map.lt
 have s1:=D.size
 have s2:=t.size
 have e1:=y.lt
 have e2:=s.lt
 have ae:=B.az u
 have y:=(y.az t).az u
 have s:=s.az u
 have g:=(D.trans t).trans u
 have ah:=f.map.nodup
 repeat apply ar
 refine CG.loop (X:=Bk×Bk×Option (Dg×Pu)) (fun _=>[(0,.pointer (some ⟨bt,0,none⟩)),(3,.pointer (some ⟨b,0,none⟩)),(20,.pointer (some ⟨r,0,none⟩))])
  (fun x a=>Kp [] w a/\w3.heap.size<=a.heap.size/\bS a bt bm m/\aQ a r bm (dv (n:=8)) qV m x.2.1 x.2.2/\bS a b c x.1/\(x.1++x.2.1).Perm m)
  (fun x=>x.2.1.length) ([],m,none) ⟨g,Nat.le_refl _,ae,j,⟨s,y⟩,by simp⟩ (aS.of rfl) ?_
 rintro⟨h,left,al⟩ w4 ⟨g,ax,C,j,i,z⟩
 simp only at j i z
 have eI:=j.Ju
 repeat apply ar
 refine SG.next rfl rfl rfl (ag rfl) j (fun Z=>?_) (fun F p E w5 M v ab=>?_)
 ·repeat (first|apply ar|(apply au;rfl;apply dd<;>rfl))
  refine bA rfl ?_
  repeat (first|apply ar|refine ww ?_)
  refine aO (Or.inl rfl) results54 (aD.tmp rfl) ?_
  subst Z
  rw[append_nil] at z
  exact⟨b,c,_,rfl,i,z,by omega,by omega,g⟩
 ·repeat (first|apply ar|(apply au;rfl;apply dd<;>rfl))
  refine bO rfl ?_
  repeat (first|apply ar|(apply au;rfl;(first|apply dd|apply Lz)<;>first|rfl|assumption|exact wn))
  refine SG.alloc rfl rfl rfl (fun T w6 I ao d=>?_)
  refine SG.alloc rfl rfl rfl (fun U w7 J ap A=>?_)
  have Y:=C.blk.lt
  have W:=C.map.lt
  have eC:=i.blk.lt
  have eD:=i.map.lt
  have s5:=v.size
  have s6:=I.size
  have e4:=d.lt
  refine SG.aN (old:=dc zd) rfl rfl (ag rfl) (ag rfl) (d.az J) (ai _) (ai _) (bj _) (fun w8 K d=>?_)
  refine SG.aN (old:=ti pz) rfl rfl (ag rfl) (ag rfl) (A.kp K (by first|exact bQ (by omega)|exact gG (by omega) (by omega))) rfl rfl rfl (fun S L A=>?_)
  have d:=d.kp L (by first|exact bQ (by omega)|exact gG (by omega) (by omega))
  have o:=((I.trans J).aj K (by first|exact aW (by omega)|exact kZ (by omega) (by omega))).aj L (by first|exact aW (by omega)|exact kZ (by omega) (by omega))
  have af:=(C.kp v (by first|exact bQ (by omega)|exact gG (by omega) (by omega)) (by first|exact bQ (by omega)|exact gG (by omega) (by omega))).az o
  have H:=(i.kp v (by first|exact bQ (by omega)|exact gG (by omega) (by omega)) (by first|exact bQ (by omega)|exact gG (by omega) (by omega))).az o
  have ac:=ab.az o
  have s9:=o.size
  have g:=g.aj (v.trans o.any) (by first|exact aW (by omega)|exact kZ (by omega) (by omega))
  have am:Row S T 0 (dc p.1):=Row.all d rfl
  have an:Row S U 0 (ti p.2):=Row.all A rfl
  have Q:=H.r0
  repeat apply ar
  refine CG.tail mixed 6 [0,1,2,3,4,5] (by kernel_rfl) ?_
  repeat (apply bW;rfl;rfl;(first|apply aB|apply aZ|apply bf|apply aU|apply bR)<;>first|rfl|assumption|exact wn|apply ai)
  refine aM.tl (fun aF k _ _=>?_)
  have ad:=af.az k
  have G:=H.az k
  have aa:=ac.az k
  have ay:=k.size
  refine SG.mapUpdate (enc:=dv (n:=8)) (V:=qV) (kx:=p.1) (vy:=p.2) rfl rfl (ag rfl) (ag rfl) (ag rfl) G.map gJ.key (fun aG l N=>?_)
  repeat apply ar
  have P:(h++p::(F++E)).Perm m:=by
   refine Perm.trans ?_ z
   rw[M]
   exact Perm.append_left h (perm_middle.symm)
  have ak:aC h p.1=none:=by
   rw[fL]
   intro q hq e
   have O:((h++p::(F++E)).map (·.1)).Nodup:=(P.map _).nodup_iff.2 ah
   rw[map_append,map_cons] at O
   exact(nodup_append.1 O).2.2 q.1 (mem_map.2 ⟨q,hq,rfl⟩) p.1 (by simp) e
  rw[lU _ ak] at N
  have aA:=l.size
  exact NG.round (h++[p],F++E,some p) (aS.of rfl) ⟨(g.trans k).aj l (by first|exact aW (by omega)|exact kZ (by omega) (by omega)),by omega,ad.kp l (by first|exact bQ (by omega)|exact gG (by omega) (by omega)) (by first|exact bQ (by omega)|exact gG (by omega) (by omega)),aa.kp l (by first|exact bQ (by omega)|exact gG (by omega) (by omega)) (by first|exact bQ (by omega)|exact gG (by omega) (by omega)),⟨G.blk.kp l (by first|exact bQ (by omega)|exact gG (by omega) (by omega)),N⟩,by simpa using P⟩ (by simp only[M];simp)
def lA(m m':Bk):Bool:=decide (m.length=m'.length)&&m.all (fun p=>decide (cC m' p.1=p.2))
theorem qa4{P n o Q r L w d b t p f g v}(c:SG P n o Q r ((d,v)::L) w)(a:(Nat.blt d n&&(!fm b&&(want o L ⟨some d,b,t,p,f,g⟩==some true&&b.operands.toList.all (known L))))=true:=by rfl)(e:aP P [] w (fun _=>True) L ⟨some d,b,t,p,f,g⟩ v:=by (first|apply aB|apply aZ|apply aU|apply bR)<;>first|rfl|assumption|exact wn):SG P n o Q (⟨some d,b,t,p,f,g⟩::r) L w:=au a e c
theorem xN{s M:Nat}{a:Bk}(d:bS w bt bm m)(g:bS w s M a)(Q:Good m)(R:Good a):dq prog 32 #[.pointer (some ⟨bt,0,none⟩),.pointer (some ⟨s,0,none⟩)] w (.bool (lA m a)):=by
 refine bN func32 rfl ntmps32 rfl ?_
 repeat (first|apply ar|(apply au;rfl;(first|apply aB|apply aE|apply cI|apply jF)<;>rfl))
 refine bA rfl ?_
 repeat apply ar
 have U:=d.r0
 have hm:=d.map
 have W:=g.r0
 have V:=g.map
 refine CG.fh mixed [0,1,2,3,4,5,6,7,8,9,10] [] (by kernel_rfl) ?_
 by_cases h4:(m.length:Int)=(a.length:Int)
 case neg=>
  repeat (apply bW;rfl;rfl;(first|apply aB|apply aZ|apply aU|apply bR|apply du|apply Kg)<;>first|rfl|assumption|exact qr|exact wn)
  refine aM.fin (fun w1 i _ _=>?_)
  repeat apply ar
  refine bO rfl ?_
  repeat (first|apply ar|refine wt ?_)
  have t:¬m.length=a.length:=by omega
  refine aO (Or.inl rfl) results32 (aD.tmp rfl) ?_
  exact⟨by simp[lA,t],i⟩
 repeat (apply bW;rfl;rfl;(first|apply aB|apply aZ|apply aU|apply bR|apply du|apply Kg)<;>first|rfl|assumption|exact qf|exact wn)
 refine aM.fin (fun w1 i _ _=>?_)
 repeat apply ar
 refine bA rfl ?_
 have z:=d.az i
 have U:=z.r0
 have T:=d.map.nodup
 repeat (first|apply ar|refine qa4 ?_)
 refine SG.range rfl rfl rfl (ag rfl) z.map (fun r w2 S am f=>?_)
 repeat apply ar
 have t:m.length=a.length:=by omega
 have eT:=d.blk.lt
 have eM:=d.map.lt
 have ac:=g.blk.lt
 have ab:=g.map.lt
 have s1:=i.size
 refine CG.loop (X:=Bk×Option (Dg×Pu)) (fun _=>[(0,.pointer (some ⟨bt,0,none⟩)),(1,.pointer (some ⟨s,0,none⟩)),(34,.pointer (some ⟨r,0,none⟩))])
  (fun x I=>Kp [] w I/\aQ I r bm (dv (n:=8)) qV m x.1 x.2/\(∀p∈x.1,p∈m)/\(∀p∈m,p∈x.1\/cC a p.1=p.2))
  (fun x=>x.1.length) (m,none) ⟨i.trans S,f,fun p j=>j,fun p j=>Or.inl j⟩ (aS.of rfl) ?_
 rintro⟨left,aa⟩ w3 ⟨b,f,y,v⟩
 simp only at f y v
 have eI:=f.Ju
 repeat apply ar
 refine SG.next rfl rfl rfl (ag rfl) f (fun N=>?_) (fun Z p Y w4 l B O=>?_)
 ·repeat (first|apply ar|(apply au;rfl;apply dd<;>rfl))
  refine bA rfl ?_
  repeat (first|apply ar|refine wt ?_)
  refine aO (Or.inl rfl) results32 (aD.tmp rfl) ?_
  subst N
  have:lA m a=true:=by
   simp only[lA,t,decide_true,Bool.true_and,all_eq_true,decide_eq_true_eq]
   intro p j
   rcases v p j with h|h
   ·cases h
   ·exact h
  exact⟨by rw[this],b⟩
 ·have H:p∈m:=y p (by rw[l];simp)
  repeat (first|apply ar|(apply au;rfl;apply dd<;>rfl))
  refine bO rfl ?_
  repeat (first|apply ar|(apply au;rfl;(first|apply dd|apply Lz)<;>first|rfl|assumption|exact wn))
  refine SG.alloc rfl rfl rfl (fun K w5 D af c=>?_)
  refine SG.alloc rfl rfl rfl (fun L w6 E ah u=>?_)
  have s4:=B.size
  have s5:=D.size
  have s0:=b.size
  have e5:=c.lt
  refine SG.aN (old:=dc zd) rfl rfl (ag rfl) (ag rfl) (c.az E) (ai _) (ai _) (bj _) (fun w7 F c=>?_)
  refine SG.aN (old:=ti pz) rfl rfl (ag rfl) (ag rfl) (u.kp F (by first|exact bQ (by omega)|exact gG (by omega) (by omega))) rfl rfl rfl (fun J G u=>?_)
  have c:=c.kp G (by first|exact bQ (by omega)|exact gG (by omega) (by omega))
  have C:=((D.trans E).aj F (by first|exact aW (by omega)|exact kZ (by omega) (by omega))).aj G (by first|exact aW (by omega)|exact kZ (by omega) (by omega))
  have P:=O.az C
  have b:=b.aj (B.trans C.any) (by first|exact aW (by omega)|exact kZ (by omega) (by omega))
  have A:=g.az b
  have W:=A.r0
  have V:=A.map
  have ad:Row J K 0 (dc p.1):=Row.all c rfl
  have ae:Row J L 0 (ti p.2):=Row.all u rfl
  have ak:p.2.Fit:=by rw[<-qH T H];exact Q.fit _
  have al:=R.fit p.1
  repeat apply ar
  refine CG.fh mixed [0,1,2,3,4,5,6,7] [] (by kernel_rfl) ?_
  by_cases e:cC a p.1=p.2
  ·repeat (apply bW;rfl;rfl;(first|apply Sj|apply aB|apply aZ|apply bf|apply aU|apply bR|apply oQ)<;>first|rfl|assumption|exact qf|exact wn|apply ai|exact Jv)
   refine aM.fin (fun w9 k _ _=>?_)
   repeat apply ar
   refine bA rfl ?_
   repeat apply ar
   refine NG.round (Z++Y,some p) (aS.of rfl) ⟨b.trans k,P.az k,fun q o=>y q (by rw[l];simp at o⊢;rcases o with h|h<;>simp[h]),fun q o=>?_⟩ (by simp only[l];simp)
   rcases v q o with h|h
   ·rw[l] at h
    simp only[mem_append,mem_cons] at h
    rcases h with h|rfl|h
    ·exact Or.inl (by simp[h])
    ·exact Or.inr e
    ·exact Or.inl (by simp[h])
   ·exact Or.inr h
  ·repeat (apply bW;rfl;rfl;(first|apply Sj|apply aB|apply aZ|apply bf|apply aU|apply bR|apply oQ)<;>first|rfl|assumption|exact qr|exact wn|apply ai|exact Jv)
   refine aM.fin (fun w9 k _ _=>?_)
   repeat apply ar
   refine bO rfl ?_
   repeat (first|apply ar|refine wt ?_)
   refine aO (Or.inl rfl) results32 (aD.tmp rfl) ?_
   refine⟨?_,b.trans k⟩
   have:lA m a=false:=by
    cases hb:lA m a with
    |false=>rfl
    |true=>
     simp only[lA,Bool.and_eq_true,all_eq_true,decide_eq_true_eq] at hb
     exact absurd (hb.2 p H) e
   rw[this]
end
section
variable{b bm bt:Nat}{w w':World}
structure Kn where
 parent:Dg
 height:Nat
def kc(x:Kn):List Value:=dc x.parent++[.int .i64 x.height]
@[reducible] def Ct (x:Kn):Value:= .agg (kc x).toArray
structure Tr where
 first:Dg
 tip:Dg
 depth:Nat
 nodes:List (Dg×Kn)
def KB(t:Tr)(bm:Nat):List Value:=dc t.first++(dc t.tip++[.int .i64 t.depth,.map (some bm)])
structure cO(w:World)(bt bm:Nat)(t:Tr):Prop where
 blk:aG w bt (.cells (KB t bm).toArray 200)
 map:aF w bm (dv (n:=8)) Ct t.nodes
theorem cO.kp{S:List Nat}{t:Tr}(h:cO w bt bm t)(a:Kp S w w')(b:bt∉S)(c:bm∉S):cO w' bt bm t:=⟨h.blk.kp a b,h.map.kp a c⟩
theorem cO.az{t:Tr}(h:cO w bt bm t)(a:Kp [] w w'):cO w' bt bm t:=h.kp a (by simp) (by simp)
theorem cO.r0{t:Tr}(h:cO w bt bm t):Row w bt 0 (dc t.first):=Row.of h.blk [] (dc t.tip++[.int .i64 t.depth,.map (some bm)]) (by simp[KB]) rfl
theorem cO.r8{t:Tr}(h:cO w bt bm t):Row w bt 8 (dc t.tip):=Row.of h.blk (dc t.first) [.int .i64 t.depth,.map (some bm)] (by simp[KB]) (ai _)
theorem cO.Si{t:Tr}(h:cO w bt bm t):Row w bt 16 [.int .i64 t.depth]:=Row.of h.blk (dc t.first++dc t.tip) [.map (some bm)] (by simp[KB]) (by simp[ai])
theorem cO.Hv{t:Tr}(h:cO w bt bm t):Row w bt 17 [.map (some bm)]:=Row.of h.blk (dc t.first++dc t.tip++[.int .i64 t.depth]) [] (by simp[KB]) (by simp[ai])
def Tr.height(t:Tr)(x:Dg):Int:=match aC t.nodes x with
 |some n=>n.height
 |none=> -1
def Cu:Kn:=⟨⟨[0,0,0,0,0,0,0,0],rfl⟩,0⟩
theorem bB(x:Kn):(kc x).length=9:=by simp[kc,ai]
theorem j5(x:Kn):bI (kc x)=true:=by
 have:=bj x.parent
 unfold bI at*
 simp[kc,this,kY]
theorem Row.Sv{x:Kn}(h:Row w b 0 (kc x)):Row w b 0 (dc x.parent):=by
 obtain⟨c,T,f,d,e⟩:=h
 refine⟨c,T,f,d,fun i v a=>e i v ?_⟩
 have g:i<(dc x.parent).length:=(List.getElem?_eq_some_iff.1 a).1
 rw[kc,getElem?_append_left g]
 exact a
theorem Row.LH{x:Kn}(h:Row w b 0 (kc x)):Row w b 8 [.int .i64 x.height]:=by
 obtain⟨c,T,f,d,e⟩:=h
 refine⟨c,T,f,d,fun i v a=>?_⟩
 have j:i<1:=(List.getElem?_eq_some_iff.1 a).1
 have g:i=0:=by omega
 subst g
 have:=e 8 v (by rw[kc,getElem?_append_right (by rw[ai];omega),ai];exact a)
 simpa using this
attribute [local irreducible] CG NG SG aP aM Row aG aF
theorem dZ{t:Tr}(j:cO w bt bm t)(x:Dg):dq prog 87 #[.pointer (some ⟨bt,0,none⟩),dv x] w (.int .i64 (t.height x)):=by
 refine bN func87 rfl ntmps87 rfl ?_
 repeat apply ar
 refine SG.box rfl rfl rfl (ag rfl) (fun g m a p h=>?_)
 repeat (first|apply ar|(apply au;rfl;(first|apply aB|apply aE|apply jF)<;>rfl))
 refine bA rfl ?_
 repeat apply ar
 have n:Row m g 0 (dc x):=Row.all h rfl
 have e:=j.az a
 have r:=e.Hv
 have q:=e.map
 refine CG.fA mixed [0,1,2,3,4,5,6,7,8,11] [(9,10,5,.tmp 16)] (by kernel_rfl) (by kernel_rfl) ?_
 rcases hr:aC t.nodes x with _|l
 ·repeat (apply bW;rfl;rfl;(first|apply aB|apply aE|apply aZ|apply bf|apply aU|apply bR|apply jz|apply dd)<;>first|rfl|assumption|exact wn|apply ai|exact rz (by assumption)|fail)
  refine aM.one (fq.of (by rfl) rfl rfl rfl (ag rfl) (by first|exact bB _|rfl) (by rfl) (by first|exact j5 _|rfl)) (fun c f b k d=>?_)
  repeat (first|apply ar|refine qb2 ?_)
  refine bO rfl ?_
  repeat (first|apply ar|refine wt ?_)
  refine aO (Or.inl rfl) results87 (aD.tmp rfl) ?_
  exact⟨by simp[Tr.height,hr],a.trans b⟩
 ·repeat (apply bW;rfl;rfl;(first|apply aB|apply aE|apply aZ|apply bf|apply aU|apply bR|apply jz|apply dd)<;>first|rfl|assumption|exact wn|apply ai|exact iX (by assumption)|fail)
  refine aM.one (fq.of (by rfl) rfl rfl rfl (ag rfl) (by first|exact bB _|rfl) (by rfl) (by first|exact j5 _|rfl)) (fun c f b k d=>?_)
  have i:Row f c 0 (kc l):=Row.all d rfl
  have o:=i.LH
  repeat (first|apply ar|refine qb2 ?_)
  refine bA rfl ?_
  repeat (first|apply ar|(apply au;rfl;(first|apply aE|apply aZ|apply aU)<;>first|rfl|assumption|exact wn))
  refine aO (Or.inl rfl) results87 (aD.tmp rfl) ?_
  exact⟨by simp[Tr.height,hr],a.trans b⟩
end
section
variable{a b x:Dg}
attribute [local irreducible] CG NG SG aP aM Row aG aF
def Tr.nd(t:Tr)(x:Dg):Kn:=(aC t.nodes x).getD Cu
def Tr.has(t:Tr)(x:Dg):Bool:=(aC t.nodes x).isSome
def Tr.ht(t:Tr)(x:Dg):Nat:=(t.nd x).height
def Tr.par(t:Tr)(x:Dg):Dg:=(t.nd x).parent
def Tr.fQ(t:Tr):Nat->Dg->Dg->Dg
 |0,a,_=>a
 |n+1,a,b=>if a=b then a else t.fQ n (if t.ht b<=t.ht a then t.par a else a) (if t.ht a<=t.ht b then t.par b else b)
def Tr.part(t:Tr)(a b:Dg):Dg:=t.fQ (t.ht a+t.ht b+1) a b
structure Tr.WF(t:Tr):Prop where
 first:t.has t.first=true
 h0:t.ht t.first=0
 tip:t.has t.tip=true
 up:∀x,t.has x=true->x≠t.first->t.has (t.par x)=true/\t.ht x=t.ht (t.par x)+1
 top:∀x,t.has x=true->t.ht x<=t.ht t.tip
 small:t.nodes.length<=4096
 low:t.ht t.tip<t.nodes.length
theorem Tr.fF{t:Tr}(h:t.has x=true):aC t.nodes x=some (t.nd x):=by
 unfold Tr.has at h
 unfold Tr.nd
 cases hh:aC t.nodes x with
 |none=>rw[hh] at h;cases h
 |some n=>rfl
theorem Tr.WF.oB{t:Tr}(b:t.WF)(a:t.has x=true)(h:t.ht x=0):x=t.first:=by
 by_cases e:x=t.first
 ·exact e
 ·have:=(b.up x a e).2
  omega
theorem Tr.WF.bound{t:Tr}(a:t.WF)(b:t.has x=true):t.ht x<4096:=by
 have c:=a.top x b
 have d:=a.low
 have e:=a.small
 omega
theorem Tr.WF.round{t:Tr}(r:t.WF)(f:t.has a=true)(g:t.has b=true)(i:a≠b):
  t.has (if t.ht b<=t.ht a then t.par a else a)=true/\t.has (if t.ht a<=t.ht b then t.par b else b)=true/\
  t.ht (if t.ht b<=t.ht a then t.par a else a)+t.ht (if t.ht a<=t.ht b then t.par b else b)<t.ht a+t.ht b/\
  t.part (if t.ht b<=t.ht a then t.par a else a) (if t.ht a<=t.ht b then t.par b else b)=t.part a b:=by
 have l:∀{a b:Dg},t.has a=true->t.has b=true->a≠b->t.ht b<=t.ht a->t.has (t.par a)=true/\t.ht a=t.ht (t.par a)+1:=by
  intro a b f g i v
  refine r.up a f (fun e=>i ?_)
  have u:t.ht a=0:=by rw[e];exact r.h0
  have s:=r.oB g (by omega)
  rw[e,s]
 have q:∀(n m:Nat) (a b:Dg),t.has a=true->t.has b=true->t.ht a+t.ht b<n->t.ht a+t.ht b<m->t.fQ n a b=t.fQ m a b:=by
  intro n
  induction n with
  |zero=>intro m a b _ _ h;omega
  |succ n p=>
   intro m a b f g u s
   cases m with
   |zero=>omega
   |succ m=>
    simp only[Tr.fQ]
    by_cases e:a=b
    ·simp[e]
    ·rw[if_neg e,if_neg e]
     by_cases c:t.ht b<=t.ht a<;>by_cases d:t.ht a<=t.ht b
     ·have j:=l f g e c
      have k:=l g f (fun o=>e o.symm) d
      simp only[c,d,if_true]
      exact p m _ _ j.1 k.1 (by omega) (by omega)
     ·have j:=l f g e c
      simp only[c,d,if_true,if_false]
      exact p m _ _ j.1 g (by omega) (by omega)
     ·have k:=l g f (fun o=>e o.symm) d
      simp only[c,d,if_true,if_false]
      exact p m _ _ f k.1 (by omega) (by omega)
     ·omega
 by_cases c:t.ht b<=t.ht a<;>by_cases d:t.ht a<=t.ht b
 ·have j:=l f g i c
  have k:=l g f (fun o=>i o.symm) d
  simp only[c,d,if_true]
  refine⟨j.1,k.1,by omega,?_⟩
  conv=>rhs;unfold Tr.part;rw[Tr.fQ,if_neg i,if_pos c,if_pos d]
  exact q _ _ _ _ j.1 k.1 (by omega) (by omega)
 ·have j:=l f g i c
  simp only[c,d,if_true,if_false]
  refine⟨j.1,g,by omega,?_⟩
  conv=>rhs;unfold Tr.part;rw[Tr.fQ,if_neg i,if_pos c,if_neg d]
  exact q _ _ _ _ j.1 g (by omega) (by omega)
 ·have k:=l g f (fun o=>i o.symm) d
  simp only[c,d,if_true,if_false]
  refine⟨f,k.1,by omega,?_⟩
  conv=>rhs;unfold Tr.part;rw[Tr.fQ,if_neg i,if_neg c,if_pos d]
  exact q _ _ _ _ f k.1 (by omega) (by omega)
 ·omega
theorem Tr.tq(t:Tr)(a:Dg):t.part a a=a:=by simp[Tr.part,Tr.fQ]
theorem rC{w:World}{o z:Nat}{t:Tr}(A:cO w o z t)(wf:t.WF)(ha:t.has a=true)(hb:t.has b=true):dq prog 122 #[.pointer (some ⟨o,0,none⟩),dv a,dv b] w (dv (t.part a b)):=by
 refine dG func122 rfl ntmps122 rfl ?_
 repeat apply ar
 refine SG.box rfl rfl rfl (ag rfl) (fun r w1 ad ap f=>?_)
 refine SG.box rfl rfl rfl (ag rfl) (fun s w2 U aq d=>?_)
 refine SG.alloc rfl rfl rfl (fun y w3 E av g=>?_)
 repeat apply ar
 have e4:r<w1.heap.size:=f.lt
 have e5:s<w2.heap.size:=d.lt
 have eT:o<w.heap.size:=A.blk.lt
 have eM:z<w.heap.size:=A.map.lt
 have R:=(ad.trans U).trans E
 refine CG.loop (X:=Dg×Dg) (fun _=>[(0,.pointer (some ⟨o,0,none⟩)),(4,.pointer (some ⟨r,0,none⟩)),(5,.pointer (some ⟨s,0,none⟩)),(6,.pointer (some ⟨y,0,none⟩))])
  (fun x q=>Kp [] w q/\cO q o z t/\aG q r (.cells (dc x.1).toArray 47)/\aG q s (.cells (dc x.2).toArray 47)/\(∃ae:Dg,aG q y (.cells (dc ae).toArray 47))/\t.has x.1=true/\t.has x.2=true/\t.part x.1 x.2=t.part a b)
  (fun x=>t.ht x.1+t.ht x.2) (a,b) ⟨R,A.az R,(f.az U).az E,d.az E,⟨⟨[0,0,0,0,0,0,0,0],rfl⟩,g⟩,ha,hb,rfl⟩ (aS.of rfl) ?_
 rintro⟨c,e⟩ V ⟨Q,B,f,d,⟨F,g⟩,C,D,m⟩
 simp only at f d C D m
 have al:Row V r 0 (dc c):=Row.all f rfl
 have am:Row V s 0 (dc e):=Row.all d rfl
 by_cases P:c=e
 ·repeat (first|apply ar|(apply au;rfl;(first|apply bf|apply Cp)<;>first|rfl|assumption|exact qf|exact wn|apply ai))
  refine bA rfl ?_
  repeat (first|apply ar|(apply au;rfl;apply bf<;>first|rfl|assumption|exact wn|apply ai))
  refine SG.aN rfl rfl (ag rfl) (ag rfl) g (ai _) (ai _) (bj _) (fun v k aa=>?_)
  have an:Row v y 0 (dc c):=Row.all aa rfl
  repeat apply ar
  refine aO (Or.inl rfl) results122 (by exact aD.agg rfl rfl (by assumption) (by first|exact ai _|exact nc_length _|exact rc_length _ _ _|exact aT _|exact dl_length _ _ _ _|exact bh _|exact bB _|exact bE _|exact ay _|rfl)) ?_
  subst P
  rw[Tr.tq] at m
  exact⟨by rw[m],Q.aj k (by first|exact aW (by omega)|exact kZ (by omega) (by omega))⟩
 ·repeat (first|apply ar|(apply au;rfl;(first|apply bf|apply Cp)<;>first|rfl|assumption|exact qr|exact wn|apply ai))
  refine bO rfl ?_
  repeat apply ar
  have aA:=B.Hv
  have hm:=B.map
  have aC:=Tr.fF C
  have aE:=Tr.fF D
  obtain⟨p,n,i,j⟩:=wf.round C D P
  refine CG.fA mixed [0,1,2,3,4,5,6,7,8,9,10,11] [(12,14,7,.tmp 17),(13,15,8,.tmp 23)] (by kernel_rfl) (by kernel_rfl) ?_
  repeat (apply bW;rfl;rfl;(first|apply aB|apply aZ|apply bf|apply aU|apply bR|apply oQ)<;>first|rfl|assumption|exact wn|apply ai|exact iX (by assumption)|fail)
  refine aM.two (fq.of (by rfl) rfl rfl rfl (ag rfl) (by first|exact bB _|rfl) (by rfl) (by first|exact j5 _|rfl)) (fq.of (by rfl) rfl rfl rfl (ag rfl) (by first|exact bB _|rfl) (by rfl) (by first|exact j5 _|rfl)) rfl (fun W Y v k aw ax ak ab ac=>?_)
  have af:=f.lt
  have ah:=d.lt
  have S:=Q.trans k
  have N:=B.az k
  have f:=f.az k
  have d:=d.az k
  have g:=g.az k
  have I:Row v W 0 (kc (t.nd c)):=Row.all ab rfl
  have K:Row v Y 0 (kc (t.nd e)):=Row.all ac rfl
  have J:=I.LH
  have L:=K.LH
  have ao:=I.Sv
  have M:=K.Sv
  have f1:(t.nd c).height=t.ht c:=rfl
  have f2:(t.nd e).height=t.ht e:=rfl
  by_cases H:t.ht e<=t.ht c
  ·have Z:((t.nd e).height:Int)<=((t.nd c).height:Int):=by omega
   rw[if_pos H] at p i j
   repeat (first|apply ar|(apply au;rfl;(first|apply aZ|apply aU|apply ji)<;>first|rfl|assumption|exact qf|exact wn))
   refine bO rfl ?_
   repeat (first|apply ar|(apply au;rfl;(first|apply bf|apply aU)<;>first|rfl|assumption|exact wn|apply ai))
   refine SG.aN rfl rfl (ag rfl) (ag rfl) f (ai _) (ai _) (bj _) (fun w6 l f=>?_)
   have T:=S.aj l (by first|exact aW (by omega)|exact kZ (by omega) (by omega))
   have O:=N.kp l (by first|exact bQ (by omega)|exact gG (by omega) (by omega)) (by first|exact bQ (by omega)|exact gG (by omega) (by omega))
   have d:=d.kp l (by first|exact bQ (by omega)|exact gG (by omega) (by omega))
   have g:=g.kp l (by first|exact bQ (by omega)|exact gG (by omega) (by omega))
   have J:=J.kp l (by first|exact bQ (by omega)|exact gG (by omega) (by omega))
   have L:=L.kp l (by first|exact bQ (by omega)|exact gG (by omega) (by omega))
   have M:=M.kp l (by first|exact bQ (by omega)|exact gG (by omega) (by omega))
   by_cases u:t.ht c<=t.ht e
   ·have G:((t.nd c).height:Int)<=((t.nd e).height:Int):=by omega
    rw[if_pos u] at n i j
    repeat (first|apply ar|(apply au;rfl;(first|apply aZ|apply aU|apply ji)<;>first|rfl|assumption|exact qf|exact wn))
    refine bO rfl ?_
    repeat (first|apply ar|(apply au;rfl;(first|apply bf|apply aU)<;>first|rfl|assumption|exact wn|apply ai))
    refine SG.aN rfl rfl (ag rfl) (ag rfl) d (ai _) (ai _) (bj _) (fun w7 h d=>?_)
    repeat apply ar
    refine NG.round (t.par c,t.par e) (aS.of rfl) ⟨T.aj h (by first|exact aW (by omega)|exact kZ (by omega) (by omega)),O.kp h (by first|exact bQ (by omega)|exact gG (by omega) (by omega)) (by first|exact bQ (by omega)|exact gG (by omega) (by omega)),f.kp h (by first|exact bQ (by omega)|exact gG (by omega) (by omega)),d,⟨F,g.kp h (by first|exact bQ (by omega)|exact gG (by omega) (by omega))⟩,p,n,j.trans m⟩ i
   ·have G:¬((t.nd c).height:Int)<=((t.nd e).height:Int):=by omega
    rw[if_neg u] at n i j
    repeat (first|apply ar|(apply au;rfl;(first|apply aZ|apply aU|apply ji)<;>first|rfl|assumption|exact qr|exact wn))
    refine bA rfl ?_
    repeat apply ar
    refine NG.round (t.par c,e) (aS.of rfl) ⟨T,O,f,d,⟨F,g⟩,p,n,j.trans m⟩ i
  ·have Z:¬((t.nd e).height:Int)<=((t.nd c).height:Int):=by omega
   have u:t.ht c<=t.ht e:=by omega
   have G:((t.nd c).height:Int)<=((t.nd e).height:Int):=by omega
   rw[if_neg H] at p i j
   rw[if_pos u] at n i j
   repeat (first|apply ar|(apply au;rfl;(first|apply aZ|apply aU|apply ji)<;>first|rfl|assumption|exact qr|exact wn))
   refine bA rfl ?_
   repeat (first|apply ar|(apply au;rfl;(first|apply aZ|apply aU|apply ji)<;>first|rfl|assumption|exact qf|exact wn))
   refine bO rfl ?_
   repeat (first|apply ar|(apply au;rfl;(first|apply bf|apply aU)<;>first|rfl|assumption|exact wn|apply ai))
   refine SG.aN rfl rfl (ag rfl) (ag rfl) d (ai _) (ai _) (bj _) (fun w7 h d=>?_)
   repeat apply ar
   refine NG.round (c,t.par e) (aS.of rfl) ⟨S.aj h (by first|exact aW (by omega)|exact kZ (by omega) (by omega)),N.kp h (by first|exact bQ (by omega)|exact gG (by omega) (by omega)) (by first|exact bQ (by omega)|exact gG (by omega) (by omega)),f.kp h (by first|exact bQ (by omega)|exact gG (by omega) (by omega)),d,⟨F,g.kp h (by first|exact bQ (by omega)|exact gG (by omega) (by omega))⟩,p,n,j.trans m⟩ i
end
section
attribute [local irreducible] CG NG SG aP aM Row aG aF
theorem fb{w:World}{b e:Nat}{t:Tr}(f:cO w b e t):dq prog 56 #[.pointer (some ⟨b,0,none⟩)] w (dv t.tip):=by
 refine bC func56 rfl ntmps56 rfl ?_
 repeat apply ar
 refine SG.alloc rfl rfl rfl (fun d m c k a=>?_)
 have g:=f.az c
 have l:=g.r8
 repeat (first|apply ar|(apply au;rfl;(first|apply aB|apply jF)<;>rfl))
 refine bA rfl ?_
 repeat (first|apply ar|(apply au;rfl;(first|apply aB|apply bf|apply aU|apply bR)<;>first|rfl|assumption|exact wn|apply ai))
 refine SG.aN (old:=dc (n:=8) ⟨[0,0,0,0,0,0,0,0],rfl⟩) rfl rfl (ag rfl) (ag rfl) a (ai _) (ai _) (bj _) (fun i h a=>?_)
 have j:Row i d 0 (dc t.tip):=Row.all a rfl
 repeat apply ar
 refine aO (Or.inl rfl) results56 (by exact aD.agg rfl rfl (by assumption) (by first|exact ai _|exact nc_length _|exact rc_length _ _ _|exact aT _|exact dl_length _ _ _ _|exact bh _|exact bB _|exact bE _|exact ay _|rfl)) ?_
 exact⟨rfl,c.aj h (by first|exact aW (by omega)|exact kZ (by omega) (by omega))⟩
def Tr.new(first:Dg)(depth:Nat):Tr:=⟨first,first,depth,[(first,Cu)]⟩
theorem Ee(w:World)(first:Dg)(a:Int)(h:a<0\/1000<a):dq prog 77 #[dv first,.int .i64 a] w (.tuple #[.pointer none,.int .i64 2]):=by
 refine bN func77 rfl ntmps77 rfl ?_
 repeat apply ar
 refine SG.box rfl rfl rfl (ag rfl) (fun c i b g f=>?_)
 by_cases d:a<0
 ·repeat (first|apply ar|(apply au;rfl;(first|apply aB|apply aE|apply cg)<;>first|rfl|exact qf))
  refine SG.skip rfl rfl ?_
  refine SG.skip rfl rfl ?_
  repeat (first|apply ar|(apply au;rfl;apply cI<;>rfl))
  refine bO rfl ?_
  repeat (first|apply ar|refine wt ?_)
  refine dT (Or.inl rfl) results77 (aD.tmp rfl) (aD.tmp rfl) ?_
  exact⟨rfl,b⟩
 ·have e:1000<a:=by omega
  repeat (first|apply ar|(apply au;rfl;(first|apply aB|apply aE|apply cI|apply cg|apply ij)<;>first|rfl|exact qf|exact qr))
  refine bO rfl ?_
  repeat (first|apply ar|refine wt ?_)
  refine dT (Or.inl rfl) results77 (aD.tmp rfl) (aD.tmp rfl) ?_
  exact⟨rfl,b⟩
theorem K9(w:World)(a0 a b c d e f g h i j k l m o p:UInt8)(n:Int)(q:Nat):(Instr.build 200 #[(0,.agg #[bv a0,bv a,bv b,bv c,bv d,bv e,bv f,bv g]),(1,.agg #[bv h,bv i,bv j,bv k,bv l,bv m,bv o,bv p]),(2,Value.int .i64 n),(3,Value.map (some q))]).run prog w=
  .ok (.agg #[bv a0,bv a,bv b,bv c,bv d,bv e,bv f,bv g,bv h,bv i,bv j,bv k,bv l,bv m,bv o,bv p,Value.int .i64 n,Value.map (some q)]) w:=by kernel_rfl
theorem RY(w:World)(a b:Dg)(n:Int)(c:Nat):(Instr.build 200 #[(0,dv a),(1,dv b),(2,Value.int .i64 n),(3,Value.map (some c))]).run prog w= .ok (.agg (dc a++(dc b++[Value.int .i64 n,Value.map (some c)])).toArray) w:=by
 obtain⟨x,u⟩:=a
 obtain⟨y,v⟩:=b
 match x,u with
 |[d,e,f,g,h,i,j,k],_=>
  match y,v with
  |[l,m,o,p,q,r,s,t],_=>exact K9 w d e f g h i j k l m o p q r s t n c
theorem tF(w:World)(first:Dg)(c:Nat)(h:c<=1000):Calls prog 77 #[dv first,.int .i64 c] w (fun e j=>∃b a,e= .returned (.tuple #[.pointer (some ⟨b,0,none⟩),.int .i64 0])/\cO j b a (Tr.new first c)/\w.heap.size<=b/\w.heap.size<=a/\b≠a/\Kp [] w j):=by
 refine bN func77 rfl ntmps77 rfl ?_
 repeat apply ar
 refine SG.box rfl rfl rfl (ag rfl) (fun k p d t l=>?_)
 have q:¬(c:Int)<0:=by omega
 have r:¬(1000:Int)<(c:Int):=by omega
 have s:Row p k 0 (dc first):=Row.all l rfl
 repeat (first|apply ar|(apply au;rfl;(first|apply aB|apply aE|apply cI|apply cg|apply ij)<;>first|rfl|exact qr))
 refine bA rfl ?_
 repeat apply ar
 refine CG.dS mixed 9 [0,1,2,4,5,3,6,7,8] [3,6] [] (fun _=>True) (by kernel_rfl) trivial (fun _ _ _ _=>trivial) ?_
 repeat (apply bW;rfl;rfl;(first|apply aB|apply bf)<;>first|rfl|assumption|exact wn|apply ai)
 refine aM.val rfl rfl rfl (aK (v:=Ct Cu) rfl (fun w=>by kernel_rfl)) ?_
 refine aM.makeMap (dv (n:=8)) Ct rfl rfl rfl (fun a=>?_)
 refine aM.insert (enc:=dv (n:=8)) (V:=Ct) (kx:=first) (vy:=Cu) rfl rfl rfl rfl (ag rfl) (ag rfl) (ag rfl) gJ.key ?_
 repeat (apply bW;rfl;rfl;apply aB<;>rfl)
 refine aM.val rfl rfl rfl (aK rfl (fun w=>RY w first first c a)) ?_
 refine aM.tl (fun y f _ o=>?_)
 refine SG.box rfl rfl rfl (ag rfl) (fun b z g x m=>?_)
 repeat (first|apply ar|refine wt ?_)
 refine dT (Or.inl rfl) results77 (aD.tmp rfl) (aD.tmp rfl) ?_
 obtain⟨u,i⟩:=o
 have:=i.lt
 have:=d.size
 have:=f.size
 exact⟨b,a,rfl,⟨m,i.az g⟩,by omega,by omega,by omega,(d.trans f).trans g⟩
end
section
variable{af:Array Edge}{L:Env}{n:Kn}{S:List Nat}{x:Operand}{g:Option (Nat×Bool)}{d:Option Nat}{pos:String}{ty:TypeId}{w0:World}{F:World->Prop}
theorem CE(a:bH L x=Ct n):aP prog S w0 F L ⟨d,.field 211 x 0,ty,pos,af,g⟩ (dv n.parent):=
 qM [] (dc n.parent) [.int .i64 n.height] a rfl rfl rfl (ai _)
theorem CC(a:bH L x=Ct n):aP prog S w0 F L ⟨d,.field 211 x 1,ty,pos,af,g⟩ (.int .i64 n.height):=
 eS (dc n.parent) [] a rfl rfl (ai _)
theorem U9(a:ro L x=some (Ct n)):aP prog S w0 F L ⟨d,.field 211 x 0,ty,pos,af,g⟩ (dv n.parent):=CE (ag a)
theorem Qv(a:ro L x=some (Ct n)):aP prog S w0 F L ⟨d,.field 211 x 1,ty,pos,af,g⟩ (.int .i64 n.height):=CC (ag a)
attribute [local irreducible] CG NG SG aP aM Row aG aF
theorem La(w:World)(a0 a b c d e f g:UInt8)(n:Int):(Instr.build 211 #[(0,.agg #[bv a0,bv a,bv b,bv c,bv d,bv e,bv f,bv g]),(1,Value.int .i64 n)]).run prog w= .ok (.agg #[bv a0,bv a,bv b,bv c,bv d,bv e,bv f,bv g,Value.int .i64 n]) w:=by kernel_rfl
theorem RZ(w:World)(a:Dg)(n:Nat):(Instr.build 211 #[(0,dv a),(1,Value.int .i64 (n:Int))]).run prog w= .ok (Ct ⟨a,n⟩) w:=by
 obtain⟨k,j⟩:=a
 match k,j with
 |[b,c,d,e,f,g,h,i],_=>exact La w b c d e f g h i n
def Tr.deep(t:Tr)(p:Dg):Bool:=decide (t.depth+t.ht (t.part p t.tip)<t.ht t.tip)
def Tr.addE(t:Tr)(x p:Dg):Int:=if t.has x then 7 else if !t.has p then 24 else if 4096<=t.nodes.length then 8 else if t.deep p then 25 else 0
def Tr.put(t:Tr)(x p:Dg):Tr:={t with nodes:=ca t.nodes x ⟨p,t.ht p+1⟩,tip:=if t.ht t.tip<t.ht p+1 then x else t.tip}
def Tr.add(t:Tr)(x p:Dg):Tr:=if t.addE x p=0 then t.put x p else t
theorem tt{t:Tr}(f:t.WF):∀(n:Nat) (a b:Dg),t.has a=true->t.has b=true->t.has (t.fQ n a b)=true
 |0,a,b,c,d=>c
 |n+1,a,b,c,d=>by
  simp only[Tr.fQ]
  by_cases e:a=b
  ·rw[if_pos e];exact c
  ·rw[if_neg e]
   obtain⟨g,h,_⟩:=f.round c d e
   exact tt f n _ _ g h
theorem wi{t:Tr}(e:t.WF){a b:Dg}(c:t.has a=true)(d:t.has b=true):t.has (t.part a b)=true:=tt e _ a b c d
theorem Tr.oz{t:Tr}{x:Dg}(h:¬t.has x=true):aC t.nodes x=none:=by
 unfold Tr.has at h
 cases hh:aC t.nodes x with
 |none=>rfl
 |some n=>rw[hh] at h;simp at h
theorem tG{w:World}{g f:Nat}{t:Tr}(b:cO w g f t)(aq:g≠f)(e:t.WF)(aA:t.depth<=1000)(x p:Dg):Calls prog 74 #[.pointer (some ⟨g,0,none⟩),dv x,dv p] w
  (fun aa Z=>aa= .returned (.int .i64 (t.addE x p))/\cO Z g f (t.add x p)/\Kp [g,f] w Z):=by
 refine dG func74 rfl ntmps74 rfl ?_
 repeat apply ar
 refine SG.box rfl rfl rfl (ag rfl) (fun b4 w1 ah ao H=>?_)
 refine SG.box rfl rfl rfl (ag rfl) (fun b5 w2 T ap ab=>?_)
 have e4:=H.lt
 have D:=ah.trans T
 have J:=b.az D
 have eT:=b.blk.lt
 have eM:=b.map.lt
 have d:Row w2 b4 0 (dc x):=Row.all (H.az T) rfl
 have h:Row w2 b5 0 (dc p):=Row.all ab rfl
 have B:=J.Hv
 have A:=J.map
 repeat (first|apply ar|(apply au;rfl;(first|apply aB|apply aE|apply jF)<;>rfl))
 refine bA rfl ?_
 repeat apply ar
 refine CG.fA mixed [0,1,2,3,4,5,6,7,8,11] [(9,10,7,.tmp 21)] (by kernel_rfl) (by kernel_rfl) ?_
 by_cases c:t.has x=true
 ·have am:=Tr.fF c
  repeat (apply bW;rfl;rfl;(first|apply aB|apply aE|apply aZ|apply bf|apply aU|apply bR|apply jz|apply dd)<;>first|rfl|assumption|exact wn|apply ai|exact iX (by assumption)|fail)
  refine aM.one (fq.of (by rfl) rfl rfl rfl (ag rfl) (by first|exact bB _|rfl) (by rfl) (by first|exact j5 _|rfl)) (fun b7 w3 s ae ac=>?_)
  repeat (first|apply ar|refine qa0 ?_)
  refine bO rfl ?_
  repeat (first|apply ar|refine wt ?_)
  refine aO (Or.inl rfl) results74 (aD.tmp rfl) ?_
  have j:=D.trans s
  exact⟨by simp[Tr.addE,c],by simp[Tr.add,Tr.addE,c];exact b.az j,j.any⟩
 have am:=Tr.oz c
 repeat (apply bW;rfl;rfl;(first|apply aB|apply aE|apply aZ|apply bf|apply aU|apply bR|apply jz|apply dd)<;>first|rfl|assumption|exact wn|apply ai|exact rz (by assumption)|fail)
 refine aM.one (fq.of (by rfl) rfl rfl rfl (ag rfl) (by first|exact bB _|rfl) (by rfl) (by first|exact j5 _|rfl)) (fun b7 w3 s ae ac=>?_)
 repeat (first|apply ar|refine qa0 ?_)
 refine bA rfl ?_
 repeat apply ar
 have j:=D.trans s
 have K:=b.az j
 have d:=d.az s
 have h:=h.az s
 have B:=K.Hv
 have A:=K.map
 refine CG.fA mixed [0,1,2,3,4,5,6,7,8,11] [(9,10,9,.tmp 31)] (by kernel_rfl) (by kernel_rfl) ?_
 by_cases a:t.has p=true
 ·have al:=Tr.fF a
  repeat (apply bW;rfl;rfl;(first|apply aB|apply aE|apply aZ|apply bf|apply aU|apply bR|apply jz|apply dd)<;>first|rfl|assumption|exact wn|apply ai|exact iX (by assumption)|fail)
  refine aM.one (fq.of (by rfl) rfl rfl rfl (ag rfl) (by first|exact bB _|rfl) (by rfl) (by first|exact j5 _|rfl)) (fun G w4 u af I=>?_)
  repeat (first|apply ar|refine qb2 ?_)
  refine bA rfl ?_
  have k:=j.trans u
  have m:=b.az k
  have d:=d.az u
  have h:=h.az u
  have B:=m.Hv
  have aj:=m.Si
  have ak:=m.r8
  have A:=m.map
  have ad:Row w4 G 0 (kc (t.nd p)):=Row.all I rfl
  have i:=ad.LH
  have av:=e.bound a
  have ax:=e.bound e.tip
  have f1:(t.nd p).height=t.ht p:=rfl
  have f2:(t.nd t.tip).height=t.ht t.tip:=rfl
  have aF:=Tr.fF e.tip
  by_cases q:4096<=t.nodes.length
  ·have g1:(4096:Int)<=(t.nodes.length:Int):=by omega
   repeat (first|apply ar|(apply au;rfl;(first|apply aB|apply aZ|apply aU|apply bR|apply ji|apply Kg)<;>first|rfl|assumption|exact qf|exact wn))
   refine bO rfl ?_
   repeat (first|apply ar|refine wt ?_)
   refine aO (Or.inl rfl) results74 (aD.tmp rfl) ?_
   exact⟨by simp[Tr.addE,c,a,q],by simp[Tr.add,Tr.addE,c,a,q];exact m,k.any⟩
  have g1:¬(4096:Int)<=(t.nodes.length:Int):=by omega
  repeat (first|apply ar|(apply au;rfl;(first|apply aB|apply aZ|apply aU|apply bR|apply ji|apply Kg)<;>first|rfl|assumption|exact qr|exact wn))
  refine bA rfl ?_
  repeat apply ar
  refine CG.fh mixed [0,1,2,3,4,5,6,7,8,9,10] [] (by kernel_rfl) ?_
  repeat (apply bW;rfl;rfl;(first|apply Qv|apply aB|apply aE|apply aZ|apply bf|apply aU|apply bR|apply oQ)<;>first|rfl|assumption|exact wn|apply ai|exact iX (by assumption)|fail)
  refine aM.fin (fun w5 y _ _=>?_)
  have E:=k.trans y
  have o:=b.az E
  have d:=d.az y
  have h:=h.az y
  have i:=i.az y
  have B:=o.Hv
  have aj:=o.Si
  have ak:=o.r8
  have A:=o.map
  repeat apply ar
  have X:=wi e a e.tip
  have aC:=Tr.fF X
  have aw:=e.bound X
  have f3:(t.nd (t.part p t.tip)).height=t.ht (t.part p t.tip):=rfl
  refine CG.fh mixed [0,1,2,3,4,5,6,7,8,9,10,11,12,13,14,15,16,17,18,19] [] (by kernel_rfl) ?_
  repeat (apply bW;rfl;rfl;(first|apply aB|apply aZ|apply bf|apply aU|apply bR)<;>first|rfl|assumption|exact wn|apply ai)
  refine aM.call rfl rfl rfl (by repeat' (first|exact True.intro|exact ag rfl|refine And.intro ?_ ?_)) (fun w hk _=>rC (o.az hk) e a e.tip) ?_
  by_cases P:t.depth+t.ht (t.part p t.tip)<t.ht t.tip
  ·have g2:(t.depth:Int)<((t.nd t.tip).height:Int)-((t.nd (t.part p t.tip)).height:Int):=by omega
   repeat (apply bW;rfl;rfl;(first|apply Qv|apply aB|apply aZ|apply aU|apply bR|apply ij|apply oQ|apply td)<;>first|rfl|exact zc|assumption|exact qf|exact wn|exact iX (by assumption)|fail)
   refine aM.fin (fun w6 l _ _=>?_)
   have r:=E.trans l
   repeat apply ar
   refine bO rfl ?_
   repeat (first|apply ar|refine wt ?_)
   refine aO (Or.inl rfl) results74 (aD.tmp rfl) ?_
   have v:t.deep p=true:=by simp[Tr.deep,P]
   exact⟨by simp[Tr.addE,c,a,q,v],by simp[Tr.add,Tr.addE,c,a,q,v];exact b.az r,r.any⟩
  have g2:¬(t.depth:Int)<((t.nd t.tip).height:Int)-((t.nd (t.part p t.tip)).height:Int):=by omega
  repeat (apply bW;rfl;rfl;(first|apply Qv|apply aB|apply aZ|apply aU|apply bR|apply ij|apply oQ|apply td)<;>first|rfl|exact zc|assumption|exact qr|exact wn|exact iX (by assumption)|fail)
  refine aM.fin (fun w6 l _ _=>?_)
  have v:t.deep p=false:=by simp[Tr.deep,P]
  have C:t.addE x p=0:=by simp[Tr.addE,c,a,q,v]
  have r:=E.trans l
  have L:=b.az r
  have d:=d.az l
  have h:=h.az l
  have i:=i.az l
  have B:=L.Hv
  have A:=L.map
  repeat apply ar
  refine bA rfl ?_
  repeat apply ar
  refine CG.tail mixed 10 [0,1,2,3,4,5,6,7,8,9] (by kernel_rfl) ?_
  repeat (apply bW;rfl;rfl;(first|apply aB|apply aZ|apply bf|apply aU|apply bR|apply dp)<;>first|rfl|exact zc|assumption|exact wn|apply ai)
  refine aM.val rfl rfl rfl (aK rfl (fun w=>RZ w p (t.ht p+1))) ?_
  refine aM.tl (fun w7 F _ _=>?_)
  have Q:=r.trans F
  have M:=b.az Q
  refine SG.mapUpdate (enc:=dv (n:=8)) (V:=Ct) (kx:=x) (vy:=⟨p,t.ht p+1⟩) rfl rfl (ag rfl) (ag rfl) (ag rfl) M.map gJ.key (fun w8 z W=>?_)
  have e9:=i.lt
  have an:=j.size
  have d:=(d.az F).kp z (by first|exact bQ (by omega)|exact gG (by omega) (by omega))
  have i:=(i.az F).kp z (by first|exact bQ (by omega)|exact gG (by omega) (by omega))
  have N:cO w8 g f {t with nodes:=ca t.nodes x ⟨p,t.ht p+1⟩}:=⟨M.blk.kp z (by first|exact bQ (by omega)|exact gG (by omega) (by omega)),W⟩
  have R:Kp [g,f] w w8:=(Q.any (S:=[g,f])).trans (z.mono (by simp))
  have O:t.add x p=t.put x p:=by rw[Tr.add,if_pos C]
  by_cases Y:t.ht t.tip<t.ht p+1
  ·have g3:((t.nd t.tip).height:Int)<((t.nd p).height:Int)+1:=by omega
   repeat (first|apply ar|(apply au;rfl;(first|apply aB|apply aZ|apply aU|apply dp|apply ij)<;>first|rfl|exact zc|assumption|exact qf|exact wn))
   refine bO rfl ?_
   repeat (first|apply ar|(apply au;rfl;(first|apply aB|apply bf|apply aU|apply bR)<;>first|rfl|assumption|exact wn|apply ai))
   refine SG.cp (dc t.first) (dc t.tip) [.int .i64 t.depth,.map (some f)] rfl rfl (ag rfl) (ag rfl) N.blk rfl (by first|exact ai _|exact nc_length _|exact rc_length _ _ _|exact aT _|exact dl_length _ _ _ _|exact bh _|exact bB _|exact bE _|exact ay _|rfl) (by first|exact ai _|exact nc_length _|exact rc_length _ _ _|exact aT _|exact dl_length _ _ _ _|exact bh _|exact bB _|exact bE _|exact ay _|rfl) (by first|exact ai _|exact nc_length _|exact rc_length _ _ _|exact aT _|exact dl_length _ _ _ _|exact bh _|exact bB _|exact bE _|exact ay _|rfl) (by first|exact bj _|exact nc_one _|exact rc_one _ _ _|exact lN _|exact oM _|exact j5 _|exact Gd _|exact bY _|rfl) (fun w9 U hB=>?_)
   repeat (first|apply ar|refine wt ?_)
   refine aO (Or.inl rfl) results74 (aD.tmp rfl) ?_
   refine⟨by rw[C],?_,R.trans (U.mono (by simp))⟩
   rw[O,Tr.put,if_pos Y]
   exact⟨hB,W.kp U (by first|exact bQ (by omega)|exact gG (by omega) (by omega))⟩
  ·have g3:¬((t.nd t.tip).height:Int)<((t.nd p).height:Int)+1:=by omega
   repeat (first|apply ar|(apply au;rfl;(first|apply aB|apply aZ|apply aU|apply dp|apply ij)<;>first|rfl|exact zc|assumption|exact qr|exact wn))
   refine bA rfl ?_
   repeat (first|apply ar|refine wt ?_)
   refine aO (Or.inl rfl) results74 (aD.tmp rfl) ?_
   refine⟨by rw[C],?_,R⟩
   rw[O,Tr.put,if_neg Y]
   exact N
 ·have al:=Tr.oz a
  repeat (apply bW;rfl;rfl;(first|apply aB|apply aE|apply aZ|apply bf|apply aU|apply bR|apply jz|apply dd)<;>first|rfl|assumption|exact wn|apply ai|exact rz (by assumption)|fail)
  refine aM.one (fq.of (by rfl) rfl rfl rfl (ag rfl) (by first|exact bB _|rfl) (by rfl) (by first|exact j5 _|rfl)) (fun G w4 u af I=>?_)
  repeat (first|apply ar|refine qb2 ?_)
  refine bO rfl ?_
  repeat (first|apply ar|refine wt ?_)
  refine aO (Or.inl rfl) results74 (aD.tmp rfl) ?_
  have k:=j.trans u
  exact⟨by simp[Tr.addE,c,a],by simp[Tr.add,Tr.addE,c,a];exact b.az k,k.any⟩
end
section
variable{cur l:List Dg}{post pre:List Value}{b i:Nat}{w:World}
def flat(l:List Dg):List Value:=l.flatMap dc
theorem ew(l:List Dg):(flat l).length=l.length*8:=by
 induction l with
 |nil=>rfl
 |cons x l a=>simp only[flat,flatMap_cons,length_append,ai,length_cons] at*;omega
theorem j8(l:List Dg)(k:Nat)(a:k<l.length):flat l=flat (l.take k)++(dc l[k]++flat (l.drop (k+1))):=by
 have e:l=l.take k++(l[k]::l.drop (k+1)):=by rw[<-drop_eq_getElem_cons a,take_append_drop]
 calc flat l=flat (l.take k++(l[k]::l.drop (k+1))):=by rw[<-e]
  _=_:=by simp only[flat,flatMap_append,flatMap_cons]
theorem xz{T:TypeId}(h:aG w b (.cells (pre++(flat l++post)).toArray T)){k:Nat}(a:k<l.length):Row w b (pre.length+k*8) (dc l[k]):=by
 refine Row.of h (pre++flat (l.take k)) (flat (l.drop (k+1))++post) ?_ ?_
 ·rw[j8 l k a];simp
 ·simp[ew];omega
theorem oA(l:List Dg)(k:Nat)(a:k<l.length)(x:Dg)(pre post:List Value):jT (pre++(flat l++post)) (pre.length+k*8) (dc x)=pre++(flat (l.set k x)++post):=by
 have b:pre++(flat l++post)=(pre++flat (l.take k))++(dc l[k]++(flat (l.drop (k+1))++post)):=by rw[j8 l k a];simp
 have c:(pre++flat (l.take k)).length=pre.length+k*8:=by simp[ew];omega
 rw[b,<-c,nL (by simp[ai])]
 rw[set_eq_take_append_cons_drop,if_pos a]
 simp[flat]
def F4(l:List Dg)(i:Nat)(cur:List Dg):Prop:=cur.length=l.length/\∀k,k<l.length->cur[k]?=if k<i\/l.length<=k+i then l.reverse[k]? else l[k]?
theorem Bh(h:F4 l i cur)(b:l.length<=2*i+1):cur=l.reverse:=by
 apply ext_getElem?
 intro k
 by_cases a:k<l.length
 ·rw[h.2 k a]
  split
  ·rfl
  ·have:l.length-1-k=k:=by omega
   rw[getElem?_reverse a,this]
 ·rw[getElem?_eq_none (by rw[h.1];omega),getElem?_eq_none (by simp;omega)]
theorem Bg{j:Nat}(h:F4 l i cur)(n:i<j)(o:i+j+1=l.length)(e:i<cur.length)(f:j<cur.length):F4 l (i+1) ((cur.set i cur[j]).set j cur[i]):=by
 refine⟨by simp[h.1],fun k a=>?_⟩
 have g:cur[i]?=l[i]?:=by rw[h.2 i (by omega),if_neg (by omega)]
 have m:cur[j]?=l[j]?:=by rw[h.2 j (by omega),if_neg (by omega)]
 rw[getElem?_set,getElem?_set]
 by_cases b:j=k
 ·subst b
  rw[if_pos rfl,if_pos (by simpa using f),if_pos (by omega),getElem?_reverse a]
  have:l.length-1-j=i:=by omega
  rw[this,<-g,getElem?_eq_getElem e]
 ·rw[if_neg b]
  by_cases c:i=k
  ·subst c
   rw[if_pos rfl,if_pos e,if_pos (by omega),getElem?_reverse a]
   have:l.length-1-i=j:=by omega
   rw[this,<-m,getElem?_eq_getElem f]
  ·rw[if_neg c,h.2 k a]
   by_cases d:k<i\/l.length<=k+i
   ·rw[if_pos d,if_pos (by omega)]
   ·rw[if_neg d,if_neg (by omega)]
theorem pO{o:Nat}{cs:Array Value}{x:Dg}(h:aG w b (.cells cs 47))(a:o+8<=cs.size):(Instr.storeAt 47 (.pointer (some ⟨b,o,none⟩)) (dv x)).run prog w= .ok () {w with heap:=w.heap.setIfInBounds b (.cells (jT cs.toList o (dc x)).toArray 47)}:=by
 have:=fO (P:=prog) (T:=47) (off:=o) (v:=dv x) h (ai x) (by simp[Value.cells,ai];exact a) (bj x)
 exact this
attribute [local irreducible] CG NG SG aP aM Row aG aF
theorem nR{c:Nat}(u:aG w b (.cells (pre++(flat l++post)).toArray 47))(E:l.length<=100000):
  Calls prog 141 #[.slice (some ⟨b,pre.length,none⟩) l.length c] w (fun e d=>e= .returned (.tuple #[])/\aG d b (.cells (pre++(flat l.reverse++post)).toArray 47)/\Kp [b] w d):=by
 refine bC func141 rfl ntmps141 rfl ?_
 repeat (first|apply ar|(apply au;rfl;(first|apply aB|apply aE|apply dg|apply td)<;>first|rfl|exact zc))
 refine CG.loop (X:=Nat×List Dg) (fun f=>[(0,.slice (some ⟨b,pre.length,none⟩) l.length c),(2,.int .i64 (f.1:Int)),(3,.int .i64 ((l.length:Int)-1-f.1))])
  (fun f d=>F4 l f.1 f.2/\2*f.1<=l.length+1/\aG d b (.cells (pre++(flat f.2++post)).toArray 47)/\Kp [b] w d)
  (fun f=>l.length+1-f.1) (0,l) ⟨⟨rfl,fun k j=>by rw[if_neg (by omega)]⟩,by omega,u,Kp.refl _ _⟩ (by refine⟨rfl,rfl,?_,True.intro⟩;rw[show((l.length:Int)-1-((0:Nat):Int))=(l.length:Int)-1 from by omega];exact rfl) ?_
 rintro⟨i,a⟩ F ⟨g,z,m,s⟩
 simp only at g z m
 by_cases D:2*i+1<l.length
 ·have t:(i:Int)<(l.length:Int)-1-i:=by omega
  repeat (first|apply ar|(apply au;rfl;(first|apply aB|apply cg)<;>first|rfl|exact qf))
  refine bO rfl ?_
  repeat apply ar
  have p:(l.length-1-i)<a.length:=by rw[g.1];omega
  have n:i<a.length:=by rw[g.1];omega
  have y:((l.length:Int)-1-i)=((l.length-1-i:Nat):Int):=by omega
  refine CG.to [(0,.slice (some ⟨b,pre.length,none⟩) l.length c),(2,.int .i64 (i:Int)),(3,.int .i64 ((l.length-1-i:Nat):Int))] (by refine⟨rfl,rfl,?_,True.intro⟩;rw[<-y];exact rfl) ?_
  refine CG.draw mixed [0,1,2,3,4,5,6,8,9,10,12,14,7,11,13,15] [13,15,1007,1011] [] [b] (fun d=>aG d b (.cells (pre++(flat a++post)).toArray 47)) (by kernel_rfl) (by simpa using m.lt) (by simp) m (fun w d j h=>h.az j) (Or.inl rfl) ?_
  have B:l.length-1-i<l.length:=by omega
  have C:i<l.length:=by omega
  repeat (apply bW;rfl;rfl;(first|apply aB|apply fa)<;>first|rfl|exact zc)
  refine aM.HC (l:=dc a[l.length-1-i]) rfl rfl rfl rfl (ag rfl) rfl (fun w h=>xz h p) (ai _) ?_
  refine aM.HC (l:=dc a[i]) rfl rfl rfl rfl (ag rfl) rfl (fun w h=>xz h n) (ai _) ?_
  refine aM.Dd (fun d=>aG d b (.cells (pre++(flat (a.set i a[l.length-1-i])++post)).toArray 47)) rfl rfl rfl rfl (ag rfl) (ag rfl) (fun _ _ _ h=>h) (fun w d j h=>h.az j) (fun w h=>?_) ?_
  ·have q:=pO (o:=pre.length+i*8) (x:=a[l.length-1-i]) h (by simp[ew,g.1];omega)
   refine⟨_,q,?_,Kp.set w h rfl rfl⟩
   have:=h.set (.cells (jT (pre++(flat a++post)) (pre.length+i*8) (dc a[l.length-1-i])).toArray 47)
   rw[oA a i n] at this
   rw[oA a i n]
   exact this
  refine aM.Dd (fun d=>aG d b (.cells (pre++(flat ((a.set i a[l.length-1-i]).set (l.length-1-i) a[i])++post)).toArray 47)) rfl rfl rfl rfl (ag rfl) (ag rfl) (fun _ _ _ h=>h) (fun w d j h=>h.az j) (fun w h=>?_) ?_
  ·have r:l.length-1-i<(a.set i a[l.length-1-i]).length:=by simpa using p
   have q:=pO (o:=pre.length+(l.length-1-i)*8) (x:=a[i]) h (by simp[ew,g.1];omega)
   refine⟨_,q,?_,Kp.set w h rfl rfl⟩
   have:=h.set (.cells (jT (pre++(flat (a.set i a[l.length-1-i])++post)) (pre.length+(l.length-1-i)*8) (dc a[i])).toArray 47)
   rw[oA _ _ r] at this
   rw[oA _ _ r]
   exact this
  refine aM.fin (fun G A _ v=>?_)
  repeat (first|apply ar|(apply au;rfl;(first|apply aB|apply aE|apply dp|apply td)<;>first|rfl|exact zc))
  refine NG.round (i+1,(a.set i a[l.length-1-i]).set (l.length-1-i) a[i]) ?_ ⟨Bg g (by omega) (by omega) n p,by omega,v,s.trans A⟩ (by simp only;omega)
  refine⟨rfl,?_,?_,True.intro⟩
  ·rw[show(((i+1:Nat):Int))=(i:Int)+1 from by omega];exact rfl
  ·rw[show((l.length:Int)-1-((i+1:Nat):Int))=((l.length-1-i:Nat):Int)-1 from by omega];exact rfl
 ·have t:¬(i:Int)<(l.length:Int)-1-i:=by omega
  repeat (first|apply ar|(apply au;rfl;(first|apply aB|apply cg)<;>first|rfl|exact qr))
  refine bA rfl ?_
  repeat apply ar
  refine oY (Or.inr rfl) results141 ?_
  exact⟨rfl,by rw[<-Bh g (by omega)];exact m,s⟩
end
section
variable{l:List Dg}{base:Nat}{w:World}
theorem K0(w:World)(a0 a b c d e f g:UInt8):(Instr.buildSlice 93 1 #[(0,.agg #[bv a0,bv a,bv b,bv c,bv d,bv e,bv f,bv g])]).run prog w= .ok (.slice (some ⟨w.heap.size,0,none⟩) 1 1) {w with heap:=w.heap.push (.cells #[bv a0,bv a,bv b,bv c,bv d,bv e,bv f,bv g] 47)}:=by kernel_rfl
theorem I5(x:Dg)(w:World):(Instr.buildSlice 93 1 #[(0,dv x)]).run prog w= .ok (.slice (some ⟨w.heap.size,0,none⟩) 1 1) {w with heap:=w.heap.push (.cells (dc x).toArray 47)}:=by
 obtain⟨l,i⟩:=x
 match l,i with
 |[a,b,c,d,e,f,g,h],_=>exact K0 w a b c d e f g h
def Tr.anc(t:Tr):Nat->Dg->Dg
 |0,x=>x
 |k+1,x=>t.anc k (t.par x)
def Tr.eF(t:Tr):Nat->Dg->List Dg
 |0,x=>[x]
 |k+1,x=>x::t.eF k (t.par x)
theorem Tr.cy(t:Tr):∀(k:Nat) (x:Dg),(t.eF k x).length=k+1
 |0,_=>rfl
 |k+1,x=>by simp[Tr.eF,Tr.cy t k]
theorem Tr.sj(t:Tr):∀(k:Nat) (x:Dg),t.anc (k+1) x=t.par (t.anc k x)
 |0,_=>rfl
 |k+1,x=>by rw[Tr.anc,Tr.sj t k];rfl
theorem Tr.kh(t:Tr):∀(k:Nat) (x:Dg),t.eF (k+1) x=t.eF k x++[t.anc (k+1) x]
 |0,_=>rfl
 |k+1,x=>by rw[Tr.eF,Tr.kh t k];rfl
theorem pX(a b:List Dg):flat (a++b)=flat a++flat b:=by simp[flat]
theorem jo(x:Dg):flat [x]=dc x:=by simp[flat]
theorem yJ{b:Nat}(h:aG w b (.cells (flat l).toArray 47))(a:base<=b)(c:l.length<=1000000):w.ownsRow base 47 8 (.slice (some ⟨b,0,none⟩) l.length l.length) l.length (flat l):=by
 refine⟨ew l,Or.inr ⟨b,l.length,(flat l).toArray,rfl,a,h,Nat.le_refl _,by simp only[maxLen];omega,by simp[ew],?_⟩⟩
 rw[<-ew l]
 simp
theorem Gi{n:Nat}{v:Value}(h:w.ownsRow base 47 8 v n (flat l))(e:0<n):∃g a c,v= .slice (some ⟨g,0,none⟩) n a/\base<=g/\n<=a/\aG w g (.cells (flat l++c).toArray 47):=by
 obtain⟨d,b⟩:=h
 rcases b with⟨_,rfl⟩|⟨g,a,cur,rfl,hg,hh,hnc,hcm,hcs,ht⟩
 ·omega
 ·refine⟨g,a,cur.toList.drop (n*8),rfl,hg,hnc,?_⟩
  have:cur=(flat l++cur.toList.drop (n*8)).toArray:=by
   rw[<-ht,take_append_drop]
  rw[<-this]
  exact hh
attribute [local irreducible] CG NG SG aP aM Row aG aF
theorem pW{C M:Nat}{t:Tr}(H:cO w C M t)(x y:Dg)(m:Nat)(n:m<=5000)(hy:t.anc m x=y)(aw:∀j,j<m->t.anc j x≠y)(hh:∀j,j<m->t.has (t.anc j x)=true):
  Calls prog 107 #[.pointer (some ⟨C,0,none⟩),dv x,dv y] w (fun e d=>∃b N E,e= .returned (.slice (some ⟨b,0,none⟩) (m+1) N)/\w.heap.size<=b/\m+1<=N/\aG d b (.cells (flat (t.eF m x).reverse++E).toArray 47)/\Kp [] w d):=by
 refine dG func107 rfl ntmps107 rfl ?_
 repeat apply ar
 refine SG.box rfl rfl rfl (ag rfl) (fun p w1 ap aJ a=>?_)
 refine SG.box rfl rfl rfl (ag rfl) (fun F o S aK r=>?_)
 have e4:=a.lt
 have e5:=r.lt
 have eT:=H.blk.lt
 have eM:=H.map.lt
 have K:=ap.trans S
 have a:=a.az S
 have Q:Row o p 0 (dc x):=Row.all a rfl
 repeat (first|apply ar|(apply au;rfl;(first|apply aE|apply bf)<;>first|rfl|assumption|exact wn|apply ai))
 refine SG.buildSlice rfl rfl rfl rfl (I5 x) (fun Z w3 D ak P=>?_)
 repeat (first|apply ar|refine wt ?_)
 have R:=K.trans D
 refine CG.loop (X:=Nat×Value) (fun q=>[(0,.pointer (some ⟨C,0,none⟩)),(4,.pointer (some ⟨p,0,none⟩)),(5,.pointer (some ⟨F,0,none⟩)),(7,q.2)])
  (fun q d=>q.1<=m/\Kp [] w d/\o.heap.size<=d.heap.size/\cO d C M t/\aG d p (.cells (dc (t.anc q.1 x)).toArray 47)/\aG d F (.cells (dc y).toArray 47)/\d.ownsRow o.heap.size 47 8 q.2 (q.1+1) (flat (t.eF q.1 x)))
  (fun q=>m-q.1) (0,.slice (some ⟨Z,0,none⟩) 1 1) ⟨Nat.zero_le _,R,D.size,H.az R,a.az D,r.az D,?_⟩ (aS.of rfl) ?_
 ·have h0:flat [x]=dc x:=jo x
  rw[<-h0] at P
  exact yJ (l:=[x]) P ak (by simp)
 rintro⟨k,v⟩ L ⟨aq,T,aY,I,a,r,B⟩
 simp only at aq a B
 have Q:Row L p 0 (dc (t.anc k x)):=Row.all a rfl
 have aH:Row L F 0 (dc y):=Row.all r rfl
 by_cases U:k<m
 ·have aI:=aw k U
  have af:=hh k U
  repeat (first|apply ar|(apply au;rfl;(first|apply bf|apply Cp)<;>first|rfl|assumption|exact qr|exact wn|apply ai))
  refine bO rfl ?_
  repeat apply ar
  have aT:=I.Hv
  have aQ:=I.map
  have aX:=Tr.fF af
  refine CG.tail mixed 7 [0,1,2,3,4,5,6] (by kernel_rfl) ?_
  repeat (apply bW;rfl;rfl;(first|apply U9|apply aB|apply aZ|apply bf|apply aU|apply bR|apply oQ)<;>first|rfl|assumption|exact wn|apply ai|exact iX (by assumption)|fail)
  refine aM.tl (fun w5 f _ _=>?_)
  refine SG.aN rfl rfl (ag rfl) (ag rfl) (a.az f) (ai _) (ai _) (bj _) (fun w6 s G=>?_)
  have ah:(t.nd (t.anc k x)).parent=t.anc (k+1) x:=(Tr.sj t k x).symm
  rw[ah] at G
  have an:=(T.trans f).aj s (by first|exact aW (by omega)|exact kZ (by omega) (by omega))
  have ae:=(I.az f).kp s (by first|exact bQ (by omega)|exact gG (by omega) (by omega)) (by first|exact bQ (by omega)|exact gG (by omega) (by omega))
  have aa:=(r.az f).kp s (by first|exact bQ (by omega)|exact gG (by omega) (by omega))
  have ay:=dM (aV B f) s (fun g J=>bQ (by have:=(B.lt g J).1;omega))
  have aF:Row w6 p 0 (dc (t.anc (k+1) x)):=Row.all G rfl
  have s5:=f.size
  have s6:=s.size
  repeat (first|apply ar|refine qa5 ?_)
  refine SG.buildSlice rfl rfl rfl rfl (I5 _) (fun Y w7 i aL ac=>?_)
  have aA:=aV ay i
  have s7:=i.size
  have ad:Row w7 Y 0 (dc (t.anc (k+1) x)):=Row.all ac rfl
  refine SG.append rfl rfl rfl (ag rfl) (ag rfl) rfl rfl rfl aA ad (ai _) (bj _) (by simp only[maxLen];omega) (by show(k+1+1)*8<=_;omega) (by omega) (fun v' w8 u aC=>?_)
  repeat (first|apply ar|refine wt ?_)
  have ax:∀g,v.ownBlock=some g->o.heap.size<=g:=fun g J=>(B.lt g J).1
  have A:∀z,z<o.heap.size->z∉aR v:=by
   intro z W n
   unfold aR at n
   cases hv:v.ownBlock with
   |none=>rw[hv] at n;simp at n
   |some g=>rw[hv] at n;simp at n;have:=ax g hv;omega
  have a0:=K.size
  have ao:Kp [] w w8:=(an.trans i).aj u (fun z W=>Or.inr (by
   by_cases h:z<o.heap.size
   ·exact absurd W (A z h)
   ·omega))
  refine NG.round (k+1,v') (aS.of rfl) ⟨by omega,ao,by have:=u.size;omega,(ae.az i).kp u (A _ (by omega)) (A _ (by omega)),(G.az i).kp u (A _ (by omega)),(aa.az i).kp u (A _ (by omega)),?_⟩ (by simp only;omega)
  rw[Tr.kh,pX,jo]
  exact aC
 ·have av:k=m:=by omega
  subst av
  rw[hy] at a Q
  repeat (first|apply ar|(apply au;rfl;(first|apply bf|apply Cp)<;>first|rfl|assumption|exact wn|apply ai|exact bM rfl))
  refine bA rfl ?_
  obtain⟨gb,O,E,rfl,aP,al,ab⟩:=Gi B (by omega)
  have am:(t.eF k x).length=k+1:=Tr.cy t k x
  have V:=nR (w:=L) (c:=O) (pre:=[]) (l:=t.eF k x) (post:=E) ab (by omega)
  rw[am] at V
  repeat (first|apply ar|refine qa0 ?_)
  refine SG.call rfl rfl rfl (by repeat' (first|exact True.intro|exact ag rfl|refine And.intro ?_ ?_)) (V.mono (fun e w5 h=>?_))
  obtain⟨h1,h2,h3⟩:=h
  refine⟨_,h1,?_⟩
  repeat (first|apply ar|refine ww ?_)
  refine aO (Or.inl rfl) results107 (aD.tmp rfl) ?_
  have:=K.size
  exact⟨gb,O,E,rfl,by omega,al,h2,T.aj h3 (by first|exact aW (by omega)|exact kZ (by omega) (by omega))⟩
end
section
variable{n n0:Nat}{T:TypeId}{w:World}
abbrev vi(z:Int):List Value:=[.int .i64 z]
structure Bl where
 par:Dg
 ht:Int
 mkr:Dg
 txs:List Tx
structure Bm where
 par:Dg
 ht:Int
 mkr:Dg
 a:Option Addr
 c:Nat
 xs:List Tm
def Bm.b(x:Bm):Bl:=⟨x.par,x.ht,x.mkr,x.xs.map (·.t)⟩
def cR(x:Bm):List Value:=dc x.par++(.int .i64 x.ht::(dc x.mkr++[.slice x.a x.xs.length x.c]))
def eL(x:Bm):Value:= .agg (cR x).toArray
theorem aH(x:Bm):(cR x).length=18:=by simp[cR,ai]
theorem dB(x:Bm):bI (cR x)=true:=by simp[cR,bI,dc,kY]
structure Bm.In(x:Bm)(n:Nat)(w:World):Prop where
 tx:lh w n x.a x.xs
 len:x.xs.length<=1000000
theorem Bm.In.az{x:Bm}{a:World}(h:x.In n w)(b:Kp [] w a):x.In n a:=⟨h.tx.az b,h.len⟩
theorem pA{b off:Nat}{x:Bm}(h:Row w b off (cR x)):Row w b off (dc x.par)/\Row w b (off+8) [.int .i64 x.ht]/\Row w b (off+9) (dc x.mkr)/\Row w b (off+17) [.slice x.a x.xs.length x.c]:=by
 have d:=h.part [] (dc x.par) (.int .i64 x.ht::(dc x.mkr++[.slice x.a x.xs.length x.c])) (by simp[cR])
 have e:=h.part (dc x.par) [.int .i64 x.ht] (dc x.mkr++[.slice x.a x.xs.length x.c]) (by simp[cR])
 have f:=h.part (dc x.par++[.int .i64 x.ht]) (dc x.mkr) [.slice x.a x.xs.length x.c] (by simp[cR])
 have g:=h.part (dc x.par++(.int .i64 x.ht::dc x.mkr)) [.slice x.a x.xs.length x.c] [] (by simp[cR])
 simp only[length_append,ai,length_cons,length_nil,Nat.add_zero] at d e f g
 exact⟨d,e,f,g⟩
theorem bJ{b:Nat}{x:Bm}(h:aG w b (.cells (cR x).toArray T)):Row w b 0 (cR x)/\Row w b 0 (dc x.par)/\Row w b 8 [.int .i64 x.ht]/\Row w b 9 (dc x.mkr)/\Row w b 17 [.slice x.a x.xs.length x.c]:=by
 have d:Row w b 0 (cR x):=Row.all h rfl
 have e:=pA d
 simp only[Nat.zero_add] at e
 exact⟨d,e⟩
theorem wo{base m sz:Nat}{v:Value}{xs:List Value}(e:n=m)(h:w.ownsRow base T sz v n xs):w.ownsRow base T sz v m xs:=e▸h
theorem B8(x:Dg)(w:World):(Instr.buildSlice 93 1 #[(0,dv x)]).run prog w= .ok (.slice (some ⟨w.heap.size,0,none⟩) 1 1) {w with heap:=w.heap.push (.cells (dc x).toArray 47)}:=I5 x w
theorem take_one{a b:Type}(f:a->b){l:List a}{i:Nat}(h:i<l.length):((l.map f).take (i+1))=(l.map f).take i++[f l[i]]:=by
 rw[take_add_one,getElem?_map,getElem?_eq_getElem h]
 rfl
attribute [local irreducible] CG NG SG aP aM Row aG aF aQ num dy dH cV cL sF cU bu dX mB eK bG de aJ
theorem qa6{P n o Q r L w d b t p f g v}(c:SG P n o Q r ((d,v)::L) w)(a:(Nat.blt d n&&(!fm b&&(want o L ⟨some d,b,t,p,f,g⟩==some true&&b.operands.toList.all (known L))))=true:=by rfl)(e:aP P [] w (fun _=>True) L ⟨some d,b,t,p,f,g⟩ v:=by (first|apply aB|apply aE|apply aZ|apply aU|apply dg)<;>first|rfl|assumption|exact wn):SG P n o Q (⟨some d,b,t,p,f,g⟩::r) L w:=au a e c
theorem BU{x:Bm}(p:x.In n0 w):kr prog 3 vi 1 140 #[eL x] w (x.xs.map (·.t.fee)):=by
 refine bC func140 rfl ntmps140 rfl ?_
 have O:=p.len
 have u:=p.tx.sl
 clear p
 repeat apply ar
 refine SG.box rfl rfl rfl (ag rfl) (fun E T y Y m=>?_)
 have m:aG T E (.cells (cR x).toArray 50):=m
 obtain⟨-,-,-,-,r⟩:=bJ m
 obtain⟨ae,ht,ac,a,s,d⟩:=x
 simp only at O u r⊢
 repeat (first|apply ar|(apply au;rfl;(first|apply aE|apply aZ|apply aU|apply dg)<;>first|rfl|assumption|exact wn))
 refine SG.qx (e:=3) (c:=d.length) rfl rfl rfl (ag rfl) (ag rfl) rfl rfl (by show 8*_<=_;omega) (by simp only[maxLen];omega) (fun b w2 z Z P=>?_)
 have R:=y.trans z
 have r:=r.az z
 repeat (first|apply ar|refine qa6 ?_)
 refine CG.loop (X:=Nat×Value) (fun q=>[(3,q.2),(11,.slice a d.length s),(12,.int .i64 (d.length:Int)),(13,.int .i64 (q.1:Int))])
  (fun q D=>q.1<=d.length/\Kp [] w D/\D.ownsRow w.heap.size 3 1 q.2 q.1 (bX vi ((d.map (·.t.fee)).take q.1)))
  (fun q=>d.length-q.1) (0,.slice (some ⟨b,0,none⟩) 0 d.length) ⟨Nat.zero_le _,R,c9 P y.size⟩ (aS.of rfl) ?_
 rintro⟨i,v⟩ w3 ⟨K,h,f⟩
 simp only at K f
 refine CG.to [(3,v),(11,.slice a d.length s),(12,.int .i64 (d.length:Int)),(13,.int .i64 (i:Int))] (aS.of rfl) ?_
 by_cases n:i<d.length
 ·have F:(i:Int)<(d.length:Int):=by omega
  obtain⟨W,ad,rfl,Q⟩:=(u.az h).at n
  repeat (first|apply ar|refine ul ?_)
  refine bO rfl ?_
  repeat (first|apply ar|refine ut ?_)
  refine SG.alloc rfl rfl rfl (fun U w5 L J G=>?_)
  refine SG.aN (l:=bV d[i]) rfl rfl (ag rfl) (ag rfl) G (ay _) rfl (bY _) (fun w6 M H=>?_)
  have B:=L.aj M (aW J)
  obtain⟨-,-,-,q2,-⟩:=aX H
  clear Q
  repeat (first|apply ar|(apply au;rfl;(first|apply aB|apply aZ|apply aU)<;>first|rfl|assumption|exact wn))
  refine SG.buildSlice rfl rfl rfl rfl (RH _) (fun V w7 A aa I=>?_)
  have s3:=h.size
  have af:=B.size
  have s7:=A.size
  have C:=B.trans A
  have g:=aV f C
  have j:((d.map (·.t.fee)).take i).length=i:=by rw[length_take,length_map];omega
  have g:=wo j.symm g
  refine SG.jN (enc:=vi) (xs:=(d.map (·.t.fee)).take i) (ys:=[d[i].t.fee]) (base:=w.heap.size) rfl rfl rfl (ag rfl) (ag rfl) rfl rfl rfl rfl (fun _=>rfl) (fun _=>rfl) g (gy (enc:=vi) (sz:=1) (x:=d[i].t.fee) (fun _=>rfl) I) (by rw[j];simp only[maxLen,length_singleton];omega) (by rw[j];show(i+1)*8<=_;omega) (by omega) (fun S w8 N o ab=>?_)
  rw[<-take_one (fun x:Tm=>x.t.fee) n] at o
  have k:((d.map (·.t.fee)).take (i+1)).length=i+1:=by rw[length_take,length_map];omega
  rw[k] at o
  repeat (first|apply ar|refine us ?_)
  refine NG.round (i+1,S) (aS.of rfl) ⟨n,(h.trans C).aj N (ff g (Nat.le_refl _)),o⟩ (by simp only;omega)
 ·have F:¬(i:Int)<(d.length:Int):=by omega
  have k:i=d.length:=by omega
  subst k
  rw[take_of_length_le (by rw[length_map];exact Nat.le_refl _)] at f
  repeat (first|apply ar|refine un ?_)
  refine bA rfl ?_
  repeat (first|apply ar|refine ww ?_)
  refine aO (Or.inl rfl) results140 (aD.tmp rfl) ?_
  exact⟨v,rfl,by rw[length_map];exact f,h⟩
theorem qb8{P n o Q r L w d b t p f g v}(c:SG P n o Q r ((d,v)::L) w)(a:(Nat.blt d n&&(!fm b&&(want o L ⟨some d,b,t,p,f,g⟩==some true&&b.operands.toList.all (known L))))=true:=by rfl)(e:aP P [] w (fun _=>True) L ⟨some d,b,t,p,f,g⟩ v:=by (first|apply aB|apply bf)<;>first|rfl|assumption|exact wn|apply ay):SG P n o Q (⟨some d,b,t,p,f,g⟩::r) L w:=au a e c
theorem yR{x:Bm}(m:x.In n0 w):kr prog 47 dc 8 133 #[eL x] w (x.xs.map (fun x=>aJ x.t)):=by
 refine bC func133 rfl ntmps133 rfl ?_
 have Q:=m.len
 have z:=m.tx.sl
 have y:=m.tx.ins
 clear m
 repeat apply ar
 refine SG.box rfl rfl rfl (ag rfl) (fun F V A aa p=>?_)
 have p:aG V F (.cells (cR x).toArray 50):=p
 obtain⟨-,-,-,-,s⟩:=bJ p
 obtain⟨ah,ht,ae,a,u,d⟩:=x
 simp only at Q z y s⊢
 repeat (first|apply ar|(apply au;rfl;(first|apply aE|apply aZ|apply aU|apply dg)<;>first|rfl|assumption|exact wn))
 refine SG.qx (e:=47) (c:=d.length) rfl rfl rfl (ag rfl) (ag rfl) rfl rfl (by show 8*_<=_;omega) (by simp only[maxLen];omega) (fun b w2 B ab R=>?_)
 have T:=A.trans B
 have s:=s.az B
 repeat (first|apply ar|refine qa6 ?_)
 refine CG.loop (X:=Nat×Value) (fun q=>[(3,q.2),(11,.slice a d.length u),(12,.int .i64 (d.length:Int)),(13,.int .i64 (q.1:Int))])
  (fun q E=>q.1<=d.length/\Kp [] w E/\E.ownsRow w.heap.size 47 8 q.2 q.1 (bX dc ((d.map (fun x=>aJ x.t)).take q.1)))
  (fun q=>d.length-q.1) (0,.slice (some ⟨b,0,none⟩) 0 d.length) ⟨Nat.zero_le _,T,c9 R A.size⟩ (aS.of rfl) ?_
 rintro⟨i,v⟩ w3 ⟨L,f,j⟩
 simp only at L j
 refine CG.to [(3,v),(11,.slice a d.length u),(12,.int .i64 (d.length:Int)),(13,.int .i64 (i:Int))] (aS.of rfl) ?_
 by_cases h:i<d.length
 ·have G:(i:Int)<(d.length:Int):=by omega
  obtain⟨Z,af,rfl,S⟩:=(z.az f).at h
  repeat (first|apply ar|refine ul ?_)
  refine bO rfl ?_
  repeat (first|apply ar|refine ut ?_)
  refine SG.alloc rfl rfl rfl (fun W w5 M K H=>?_)
  refine SG.aN (l:=bV d[i]) rfl rfl (ag rfl) (ag rfl) H (ay _) rfl (bY _) (fun w6 N I=>?_)
  have g:=M.aj N (aW K)
  obtain⟨q2,-⟩:=aX I
  clear S
  repeat (first|apply ar|refine qb8 ?_)
  refine SG.ret rfl rfl rfl (vs:=[eG d[i]]) (bg.of rfl) (dV ((y _ (getElem_mem h)).az (f.trans g))) (fun al O=>?_)
  have g:=g.trans O
  refine SG.buildSlice rfl rfl rfl rfl (B8 _) (fun Y w7 C ac J=>?_)
  have s3:=f.size
  have ak:=g.size
  have s7:=C.size
  have D:=g.trans C
  have k:=aV j D
  have n:((d.map (fun x=>aJ x.t)).take i).length=i:=by rw[length_take,length_map];omega
  have k:=wo n.symm k
  refine SG.jN (enc:=dc) (xs:=(d.map (fun x=>aJ x.t)).take i) (ys:=[aJ d[i].t]) (base:=w.heap.size) rfl rfl rfl (ag rfl) (ag rfl) rfl rfl rfl rfl ai bj k (gy (enc:=dc) (sz:=8) (x:=aJ d[i].t) ai J) (by rw[n];simp only[maxLen,length_singleton];omega) (by rw[n];show(i+1)*8<=_;omega) (by omega) (fun U w8 P r ad=>?_)
  rw[<-take_one (fun x:Tm=>aJ x.t) h] at r
  have o:((d.map (fun x=>aJ x.t)).take (i+1)).length=i+1:=by rw[length_take,length_map];omega
  rw[o] at r
  repeat (first|apply ar|refine us ?_)
  refine NG.round (i+1,U) (aS.of rfl) ⟨h,(f.trans D).aj P (ff k (Nat.le_refl _)),r⟩ (by simp only;omega)
 ·have G:¬(i:Int)<(d.length:Int):=by omega
  have o:i=d.length:=by omega
  subst o
  rw[take_of_length_le (by rw[length_map];exact Nat.le_refl _)] at j
  repeat (first|apply ar|refine un ?_)
  refine bA rfl ?_
  repeat (first|apply ar|refine ww ?_)
  refine aO (Or.inl rfl) results133 (aD.tmp rfl) ?_
  exact⟨v,rfl,by rw[length_map];exact j,f⟩
end
section
variable{h room:Int}{s:List En×Int}{t:Tx}
open Go.Proofs
open Classical in
noncomputable def gw(room h:Int)(s:List En×Int)(t:Tx):List En×Int:=if(s.1.find? (kz t.frm t.non)).isSome then s else(pG room s.1 h t,if fD room s.1 h t=0 then s.2+1 else s.2)
noncomputable def qb(room:Int)(l:List En)(h:Int)(ts:List Tx):List En×Int:=ts.foldl (gw room h) (l,0)
theorem Cb(a:df room s.1):df room (gw room h s t).1:=by
 unfold gw
 split
 ·exact a
 ·exact xU a
theorem G9:s.2<=(gw room h s t).2/\(gw room h s t).2<=s.2+1:=by
 unfold gw
 split
 ·omega
 ·simp only
  split<;>omega
theorem pB{room h:Int}:∀(b:List Tx) {s:List En×Int},df room s.1->df room (b.foldl (gw room h) s).1
 |[],_,a=>a
 |t::b,s,a=>pB b (s:=gw room h s t) (Cb a)
theorem AR{room h:Int}:∀(a:List Tx) {s:List En×Int},s.2<=(a.foldl (gw room h) s).2/\(a.foldl (gw room h) s).2<=s.2+a.length
 |[],s=>by simp
 |b::a,s=>by
  have c:=AR (room:=room) (h:=h) a (s:=gw room h s b)
  have d:=G9 (room:=room) (h:=h) (s:=s) (t:=b)
  simp only[foldl_cons,length_cons]
  omega
theorem Cc{l:List En}{a:List Tx}(b:df room l):df room (qb room l h a).1:=pB a b
theorem xB(ms:List Em)(k:Dg)(n:Int):((ms.map Em.en).find? (kz k n)).isSome=true↔ms.findIdx (fun e=>kz k n e.en)<ms.length:=by
 rw[find?_isSome,findIdx_lt_length]
 constructor
 ·rintro⟨x,b,h⟩
  obtain⟨e,a,rfl⟩:=mem_map.1 b
  exact⟨e,a,h⟩
 ·rintro⟨e,a,h⟩
  exact⟨e.en,mem_map.2 ⟨e,a,rfl⟩,h⟩
attribute [local irreducible] CG NG SG aP aM Row aG aF aQ aJ bu
theorem tW{w:World}{base p:Nat}{v:Value}{ms:List Em}(I:Pl w base p v room ms)(hI:df room (ms.map Em.en))(hr:room<=1024){a:Option Addr}{c:Nat}{xs:List Tm}(hX:lh w base a xs)(ap:xs.length<=1000000):
  Calls prog 101 #[.pointer (some ⟨p,0,none⟩),.int .i64 h,.slice a xs.length c] w (fun e u=>e= .returned (.int .i64 (qb room (ms.map Em.en) h (xs.map (·.t))).2)/\∃Y V,Pl u base p Y room V/\V.map Em.en=(qb room (ms.map Em.en) h (xs.map (·.t))).1/\Kp (p::aR v) w u/\∀g,Y.ownBlock=some g->v.ownBlock=some g\/w.heap.size<=g):=by
 refine dG func101 rfl ntmps101 rfl ?_
 have am:=I.blk.lt
 repeat (first|apply ar|refine qa1 ?_)
 refine bA rfl ?_
 repeat (first|apply ar|refine qb1 ?_)
 refine CG.loop (X:=Nat×(Value×List Em)×Int) (fun x=>[(0,.pointer (some ⟨p,0,none⟩)),(1,.int .i64 h),(7,.int .i64 x.2.2),(12,.slice a xs.length c),(13,.int .i64 (xs.length:Int)),(14,.int .i64 (x.1:Int))])
  (fun x u=>x.1<=xs.length/\Kp (p::aR v) w u/\Pl u base p x.2.1.1 room x.2.1.2/\(x.2.1.2.map Em.en,x.2.2)=((xs.map (·.t)).take x.1).foldl (gw room h) (ms.map Em.en,0)/\(∀g,x.2.1.1.ownBlock=some g->v.ownBlock=some g\/w.heap.size<=g)/\lh u base a xs)
  (fun x=>xs.length-x.1) (0,(v,ms),0) ⟨Nat.zero_le _,Kp.refl _ _,I,rfl,fun g E=>Or.inl E,hX⟩ (aS.of rfl) ?_
 rintro⟨i,⟨Z,b⟩,n⟩ w1 ⟨hi,B,k,m,y,z⟩
 simp only at hi k m y
 refine CG.to [(0,.pointer (some ⟨p,0,none⟩)),(1,.int .i64 h),(7,.int .i64 n),(12,.slice a xs.length c),(13,.int .i64 (xs.length:Int)),(14,.int .i64 (i:Int))] (aS.of rfl) ?_
 by_cases C:i<xs.length
 rotate_left
 ·have g1:¬(i:Int)<(xs.length:Int):=by omega
  rw[take_of_length_le (by rw[length_map];omega)] at m
  have e1:b.map Em.en=(qb room (ms.map Em.en) h (xs.map (·.t))).1:=congrArg Prod.fst m
  have e2:n=(qb room (ms.map Em.en) h (xs.map (·.t))).2:=congrArg Prod.snd m
  rw[<-e2]
  repeat (first|apply ar|refine un ?_)
  refine bA rfl ?_
  repeat (first|apply ar|refine ww ?_)
  refine aO (Or.inl rfl) results101 (aD.tmp rfl) ?_
  exact⟨rfl,Z,b,k,e1,B,y⟩
 have g1:(i:Int)<(xs.length:Int):=by omega
 have H:df room (b.map Em.en):=by
  have:=pB (room:=room) (h:=h) ((xs.map (·.t)).take i) (s:=(ms.map Em.en,0)) hI
  rw[<-m] at this
  exact this
 have R:=AR (room:=room) (h:=h) ((xs.map (·.t)).take i) (s:=(ms.map Em.en,0))
 rw[<-m,length_take,length_map,Nat.min_eq_left (by omega)] at R
 simp only at R
 have al:b.length<=1024:=by have:=H.len;rw[length_map] at this;omega
 have o:((xs.map (·.t)).take (i+1)).foldl (gw room h) (ms.map Em.en,0)=gw room h (b.map Em.en,n) xs[i].t:=by
  rw[take_succ_eq_append_getElem (by simpa using C),foldl_append,<-m,getElem_map]
  rfl
 have ao:=z.ins xs[i] (getElem_mem C)
 obtain⟨g,o1,rfl,ae⟩:=z.sl.at C
 have an:=k.mu
 repeat (first|apply ar|refine ul ?_)
 refine bO rfl ?_
 repeat (first|apply ar|refine ut ?_)
 refine SG.alloc rfl rfl rfl (fun b9 w2 ac ak r=>?_)
 refine SG.aN (l:=bV xs[i]) rfl rfl (ag rfl) (ag rfl) r (ay _) rfl (bY _) (fun w3 ad r=>?_)
 have r:aG w3 b9 (.cells (bV xs[i]).toArray 52):=r
 have T:Kp [] w1 w3:=ac.aj ad (aW (by omega))
 obtain⟨q,q0,q1,-⟩:=aX r
 clear ae
 have ab:=k.az T
 clear q
 repeat (first|apply ar|refine qb7 ?_)
 refine SG.ret rfl rfl rfl (vs:=[.pointer (some ⟨p,0,none⟩),dv xs[i].t.frm,.int .i64 xs[i].t.non]) (bg.of rfl) (find_spec ab (by omega) xs[i].t.frm xs[i].t.non) (fun w4 O=>?_)
 have j:=T.trans O
 have N:=xB b xs[i].t.frm xs[i].t.non
 obtain⟨q,-⟩:=aX (r.az O)
 clear q0 q1
 by_cases A:b.findIdx (fun e=>kz xs[i].t.frm xs[i].t.non e.en)<b.length
 ·rw[qA A]
  have G:¬((b.findIdx (fun e=>kz xs[i].t.frm xs[i].t.non e.en):Nat):Int)<0:=by omega
  have D:gw room h (b.map Em.en,n) xs[i].t=(b.map Em.en,n):=by
   unfold gw
   rw[if_pos (N.2 A)]
  rw[D] at o
  generalize ((b.findIdx (fun e=>kz xs[i].t.frm xs[i].t.non e.en):Nat):Int)=zz at G
  repeat (first|apply ar|(apply au;rfl;(first|apply aB|apply cI|apply cg)<;>first|rfl|exact qr)|refine SG.skip rfl rfl ?_)
  refine bA rfl ?_
  repeat (first|apply ar|refine wz ?_)
  refine NG.round (i+1,(Z,b),n) (aS.of rfl) ⟨by simp only;omega,B.trans j.any,k.az j,o.symm,y,z.az j⟩ (by simp only;omega)
 rw[qz A]
 have G:(-1:Int)<0:=by decide
 have D:gw room h (b.map Em.en,n) xs[i].t=(pG room (b.map Em.en) h xs[i].t,if fD room (b.map Em.en) h xs[i].t=0 then n+1 else n):=by
  unfold gw
  rw[if_neg (fun h=>A (N.1 h))]
 rw[D] at o
 have K:=z.az j
 repeat (apply au;rfl;(first|apply aB|apply bf|apply cg)<;>first|rfl|assumption|exact qf|exact wn|apply ay)
 refine SG.call rfl rfl rfl (vs:=[.pointer (some ⟨p,0,none⟩),.int .i64 h,eG xs[i]]) (bg.of rfl) ((sq (h:=h) (k.az j) (K.ins xs[i] (getElem_mem C)) H hr).mono (fun e w5 d=>?_))
 obtain⟨M,F,W,J,Q,P,af⟩:=d
 refine⟨_,M,?_⟩
 clear M q
 have s4:=j.size
 have s1:=B.size
 have U:Kp (p::aR v) w w5:=(B.trans j.any).st P (fun aa f=>by
  rcases mem_cons.1 f with rfl|f
  ·exact Or.inl mem_cons_self
  ·rcases y aa (aL f) with d|d
   ·exact Or.inl (mem_cons_of_mem _ (gQ d))
   ·exact Or.inr d)
 have L:=K.Vn (k.az j) P
 have S:∀g,F.ownBlock=some g->v.ownBlock=some g\/w.heap.size<=g:=fun g E=>by
  rcases af g E with d|d
  ·exact y g d
  ·exact Or.inr (by omega)
 by_cases f:fD room (b.map Em.en) h xs[i].t=0
 ·rw[if_pos f] at o
  rw[f]
  have ah:(0:Int)=0:=rfl
  repeat (first|apply ar|(apply au;rfl;(first|apply cI|apply fE)<;>first|rfl|exact qf))
  refine bO rfl ?_
  repeat (first|apply ar|refine us ?_)
  refine NG.round (i+1,(F,W),n+1) (aS.of rfl) ⟨by simp only;omega,U,J,by simp only;rw[Q];exact o.symm,S,L⟩ (by simp only;omega)
 ·rw[if_neg f] at o
  generalize fD room (b.map Em.en) h xs[i].t=aa at f
  repeat (first|apply ar|(apply au;rfl;(first|apply cI|apply fE)<;>first|rfl|exact qr))
  refine bA rfl ?_
  repeat (first|apply ar|refine wz ?_)
  refine NG.round (i+1,(F,W),n) (aS.of rfl) ⟨by simp only;omega,U,J,by simp only;rw[Q];exact o.symm,S,L⟩ (by simp only;omega)
end
section
open Go.Proofs
open Classical in
noncomputable def Vs(a b:En):Bool:=decide (a=b)
open Classical in
noncomputable def Td(a b:List En):Bool:=decide (a=b)
attribute [local irreducible] CG NG SG aP aM Row aG aF aQ aJ bu
end
section
variable{most:Int}{L m:List (Dg×Int)}{ns:List Dg}{c:Nat}{w:World}
open Go.Proofs
abbrev Jh(b:Bool):Value:= .bool b
def vk(L:List (Dg×Int))(e:En):Bool:=L.any (fun p=>decide (p.1=e.key/\p.2<=e.non))
theorem GO{e:En}(h:oO m L):vk L e=true↔∃n,aC m e.key=some n/\n<=e.non:=by
 rw[h e.key e.non]
 unfold vk
 rw[any_eq_true]
 constructor
 ·rintro⟨p,a,b⟩;exact⟨p,a,of_decide_eq_true b⟩
 ·rintro⟨p,a,b⟩;exact⟨p,a,decide_eq_true b⟩
def lI(l:List En)(ns:List Dg):List (Dg×Int):=(l.filter (fun e=>decide (aJ e.t∈ns))).map wj
theorem Bv{l:List En}{i:Nat}(a:i<l.length):lI (l.take (i+1)) ns=if aJ l[i].t∈ns then lI (l.take i) ns++[wj l[i]] else lI (l.take i) ns:=by
 unfold lI
 rw[take_succ_eq_append_getElem a,filter_append,map_append]
 by_cases g:aJ l[i].t∈ns
 ·rw[if_pos g,filter_cons_of_pos (p:=fun e:En=>decide (aJ e.t∈ns)) (decide_eq_true g)]
  rfl
 ·rw[if_neg g,filter_cons_of_neg (p:=fun e:En=>decide (aJ e.t∈ns)) (by simpa using g)]
  simp
def iR(most:Int)(c:Nat):Int:=if most<=c then(if most<=0 then most else 0) else most-c
theorem Gy(most:Int):iR most 0=most:=by unfold iR;split<;>(try split)<;>omega
theorem Eb:1<=iR most c↔(c:Int)<most:=by unfold iR;split<;>(try split)<;>omega
theorem ze:iR most (c+1)=if(c:Int)<most then iR most c-1 else iR most c:=by
 unfold iR
 split<;>split<;>(try split)<;>(try split)<;>omega
def jf(q:Nat->Bool)(pre:List Nat):Nat:=(pre.filter q).length
def nK(q:Nat->Bool)(most:Int)(pre:List Nat)(j:Nat):Bool:=q j&&decide ((jf q pre:Int)<most)
theorem xJ(q:Nat->Bool)(pre:List Nat)(j:Nat):jf q (pre++[j])=if q j then jf q pre+1 else jf q pre:=by
 unfold jf
 rw[filter_append,length_append]
 by_cases h:q j=true
 ·rw[if_pos h,filter_cons_of_pos h];rfl
 ·rw[if_neg h,filter_cons_of_neg h];rfl
theorem qW(q:Nat->Bool)(most:Int):∀(l pre:List Nat),fP (nK q most) pre l=(l.filter q).take (most-(jf q pre:Int)).toNat
 |[],pre=>by simp[fP]
 |j::l,pre=>by
  simp only[fP]
  rw[qW q most l (pre++[j]),xJ]
  by_cases h:q j=true
  ·rw[filter_cons_of_pos h,if_pos h]
   by_cases a:(jf q pre:Int)<most
   ·have e:(most-(jf q pre:Int)).toNat=(most-((jf q pre+1:Nat):Int)).toNat+1:=by omega
    rw[if_pos (by unfold nK;rw[h,decide_eq_true a];rfl),e,take_succ_cons]
   ·have e:(most-(jf q pre:Int)).toNat=0:=by omega
    have b:(most-((jf q pre+1:Nat):Int)).toNat=0:=by omega
    rw[if_neg (by unfold nK;rw[decide_eq_false a,Bool.and_false];decide),e,b,take_zero,take_zero]
  ·rw[filter_cons_of_neg h,if_neg h,if_neg (by unfold nK;simp[h])]
attribute [local irreducible] CG NG SG aP aM Row aG aF aQ aJ bu
theorem yq{i d q:Nat}{z:Int}(e:Em)(r:Row w i 0 [.map (some q)])(s:aF w q (dv (n:=8)) vj m)(D:oO m L)(a:aG w d (.cells #[.int .i64 z] 3))(E:iS z):
  Calls prog 125 #[ev e,.pointer (some ⟨i,0,none⟩),.pointer (some ⟨d,0,none⟩)] w (fun B v=>B= .returned (.bool (!vk L e.en&&decide (1<=z)))/\Kp [d] w v/\aG v d (.cells #[.int .i64 (if !vk L e.en&&decide (1<=z) then z-1 else z)] 3)):=by
 refine fC (args:=[ev e,.pointer (some ⟨i,0,none⟩),.pointer (some ⟨d,0,none⟩)]) func125 rfl ntmps125 rfl ?_
 obtain⟨M,N⟩:=E
 repeat apply ar
 refine SG.box rfl rfl rfl (ag rfl) (fun A y b I k=>?_)
 have k:aG y A (.cells (ec e).toArray 216):=k
 obtain⟨-,J,F,-⟩:=eO (Row.all k rfl)
 simp only[Nat.zero_add] at F
 have r:=r.az b
 have s:=s.az b
 have a:=a.az b
 have K:Row y d 0 [.int .i64 z]:=Row.all a rfl
 have u:=GO (e:=e.en) D
 have H:vk L e.en=false->∀{x:Int},1<=z->x=z-1->True:=fun _ _ _ _=>trivial
 by_cases o:∃c,aC m e.x.t.frm=some c/\c<=e.x.t.non
 ·obtain⟨c,h,g⟩:=o
  have j:vk L e.en=true:=u.2 ⟨c,h,g⟩
  have f:(!vk L e.en&&decide (1<=z))=false:=by rw[j];rfl
  rw[f]
  by_cases C:z<1
  ·repeat (first|apply ar|(apply au;rfl;(first|apply aB|apply aE|apply aZ|apply bf|apply aU|apply cI|apply cg|apply jz|apply dd)<;>first|rfl|assumption|exact qf|exact wn|apply ai|exact iX (by assumption)|fail)|refine SG.skip rfl rfl ?_)
   refine bO rfl ?_
   repeat (first|apply ar|refine wt ?_)
   refine aO (Or.inl rfl) results125 (aD.tmp rfl) ?_
   exact⟨rfl,b.any,a⟩
  ·repeat (first|apply ar|(apply au;rfl;(first|apply aB|apply aE|apply aZ|apply bf|apply aU|apply cI|apply cg|apply ji|apply jz|apply dd)<;>first|rfl|assumption|exact qf|exact qr|exact wn|apply ai|exact iX (by assumption)|fail))
   refine bO rfl ?_
   repeat (first|apply ar|refine wt ?_)
   refine aO (Or.inl rfl) results125 (aD.tmp rfl) ?_
   exact⟨rfl,b.any,a⟩
 ·have j:vk L e.en=false:=by
   cases hb:vk L e.en with
   |false=>rfl
   |true=>exact absurd (u.1 hb) o
  by_cases C:z<1
  ·have f:(!vk L e.en&&decide (1<=z))=false:=by rw[decide_eq_false (by omega),Bool.and_false]
   rw[f]
   cases h:aC m e.x.t.frm with
   |none=>
    repeat (first|apply ar|(apply au;rfl;(first|apply aB|apply aE|apply aZ|apply bf|apply aU|apply cI|apply cg|apply jz|apply dd)<;>first|rfl|assumption|exact qf|exact wn|apply ai|exact rz (by assumption)|fail)|refine SG.skip rfl rfl ?_)
    refine bO rfl ?_
    repeat (first|apply ar|refine wt ?_)
    refine aO (Or.inl rfl) results125 (aD.tmp rfl) ?_
    exact⟨rfl,b.any,a⟩
   |some c=>
    repeat (first|apply ar|(apply au;rfl;(first|apply aB|apply aE|apply aZ|apply bf|apply aU|apply cI|apply cg|apply jz|apply dd)<;>first|rfl|assumption|exact qf|exact wn|apply ai|exact iX (by assumption)|fail)|refine SG.skip rfl rfl ?_)
    refine bO rfl ?_
    repeat (first|apply ar|refine wt ?_)
    refine aO (Or.inl rfl) results125 (aD.tmp rfl) ?_
    exact⟨rfl,b.any,a⟩
  ·have f:(!vk L e.en&&decide (1<=z))=true:=by rw[j,decide_eq_true (by omega)];rfl
   rw[f]
   cases h:aC m e.x.t.frm with
   |none=>
    repeat (first|apply ar|(apply au;rfl;(first|apply aB|apply aE|apply aZ|apply bf|apply aU|apply cI|apply cg|apply jz|apply dd)<;>first|rfl|assumption|exact qr|exact wn|apply ai|exact rz (by assumption)|fail)|refine SG.skip rfl rfl ?_)
    refine bA rfl ?_
    repeat (first|apply ar|(apply au;rfl;(first|apply aZ|apply td)<;>first|rfl|exact zc|assumption|exact wn))
    refine SG.fe rfl rfl (ag rfl) (ag rfl) a rfl rfl (fun G p l=>?_)
    repeat (first|apply ar|refine wt ?_)
    refine aO (Or.inl rfl) results125 (aD.tmp rfl) ?_
    exact⟨rfl,b.any.trans p,l⟩
   |some c=>
    have g:¬c<=e.x.t.non:=fun g=>o ⟨c,h,g⟩
    repeat (first|apply ar|(apply au;rfl;(first|apply aB|apply aE|apply aZ|apply bf|apply aU|apply cI|apply cg|apply ji|apply jz|apply dd)<;>first|rfl|assumption|exact qr|exact wn|apply ai|exact iX (by assumption)|fail))
    refine bA rfl ?_
    repeat (first|apply ar|(apply au;rfl;(first|apply aZ|apply td)<;>first|rfl|exact zc|assumption|exact wn))
    refine SG.fe rfl rfl (ag rfl) (ag rfl) a rfl rfl (fun G p l=>?_)
    repeat (first|apply ar|refine wt ?_)
    refine aO (Or.inl rfl) results125 (aD.tmp rfl) ?_
    exact⟨rfl,b.any.trans p,l⟩
theorem qb4{P n o Q r L w d b t p f g v}(c:SG P n o Q r ((d,v)::L) w)(a:(Nat.blt d n&&(!fm b&&(want o L ⟨some d,b,t,p,f,g⟩==some true&&b.operands.toList.all (known L))))=true:=by rfl)(e:aP P [] w (fun _=>True) L ⟨some d,b,t,p,f,g⟩ v:=by (first|apply bf|apply fa)<;>first|rfl|exact zc|assumption|exact wn|apply ai):SG P n o Q (⟨some d,b,t,p,f,g⟩::r) L w:=au a e c
theorem qU{base p:Nat}{v:Value}{room:Int}{ms:List Em}(I:Pl w base p v room ms)(hI:df room (ms.map Em.en))(hr:room<=1024)(a9:iS most){a0:Option Addr}{c0:Nat}(hN:Sl dc 8 w a0 ns)(br:ns.length<=10000000):
  Calls prog 80 #[.pointer (some ⟨p,0,none⟩),.int .i64 most,.slice a0 ns.length c0] w (fun e z=>∃v' xs,e= .returned v'/\Kp [] w z/\kq z w.heap.size v' xs/\xs.map (·.t)=(((fU (ms.map Em.en)).filter (fun e=> !vk (lI (ms.map Em.en) ns) e)).take most.toNat).map (·.t)):=by
 refine dG func80 rfl ntmps80 rfl ?_
 have bo:ms.length<=1024:=by have:=hI.len;rw[length_map] at this;omega
 have bp:=I.blk.lt
 have bc:∀b,v.ownBlock=some b->b<w.heap.size:=cK I.own
 repeat (first|apply ar|refine qa1 ?_)
 refine bA rfl ?_
 repeat apply ar
 refine SG.makeMap (dv (n:=8)) Jh rfl rfl (fun D w1 ah bn aM=>?_)
 have s1:=ah.size
 have bv:=aM.lt
 have a1:=hN.az ah
 repeat (first|apply ar|refine qb1 ?_)
 refine CG.loop (X:=Nat×List (Dg×Bool)) (fun f=>[(0,.pointer (some ⟨p,0,none⟩)),(1,.int .i64 most),(7,.map (some D)),(19,.slice a0 ns.length c0),(20,.int .i64 (ns.length:Int)),(21,.int .i64 (f.1:Int))])
  (fun f z=>f.1<=ns.length/\Kp [D] w1 z/\aF z D (dv (n:=8)) Jh f.2/\∀d,aC f.2 d=if d∈ns.take f.1 then some true else none) (fun f=>ns.length-f.1) (0,[]) ⟨Nat.zero_le _,Kp.refl _ _,aM,fun d=>(by simp;rfl)⟩ (aS.of rfl) ?_
 rintro⟨a,mo⟩ w2 ⟨hi,aa,Y,af⟩
 simp only at hi Y af
 refine CG.to [(0,.pointer (some ⟨p,0,none⟩)),(1,.int .i64 most),(7,.map (some D)),(19,.slice a0 ns.length c0),(20,.int .i64 (ns.length:Int)),(21,.int .i64 (a:Int))] (aS.of rfl) ?_
 have k2:Kp [] w w2:=ah.aj aa (aW (by omega))
 have s2:=k2.size
 by_cases R:a<ns.length
 ·have g1:(a:Int)<(ns.length:Int):=by omega
  have a2:Sl dc 8 w2 a0 ns:=a1.LG aa (fun y b bh e=>bQ (by have:=hN.QE y b bh e;omega))
  obtain⟨aY,o1,rfl,ap⟩:=a2.at R
  repeat (first|apply ar|refine ul ?_)
  refine bO rfl ?_
  repeat (first|apply ar|refine qb4 ?_)
  refine SG.alloc rfl rfl rfl (fun b9 w3 ab a5 E=>?_)
  refine SG.aN (l:=dc ns[a]) rfl rfl (ag rfl) (ag rfl) E (ai _) rfl (bj _) (fun w4 ac E=>?_)
  have aR:Kp [] w2 w4:=ab.aj ac (aW (by omega))
  have r9:Row w4 b9 0 (dc ns[a]):=Row.all E rfl
  have a7:=Y.az aR
  clear ap
  repeat (first|apply ar|refine qa5 ?_)
  refine SG.mapUpdate (enc:=dv (n:=8)) (V:=Jh) (kx:=ns[a]) (vy:=true) rfl rfl (ag rfl) (ag rfl) (ag rfl) a7 gJ.key (fun w5 ad ae=>?_)
  repeat (first|apply ar|refine wz ?_)
  refine NG.round (a+1,ca mo ns[a] true) (aS.of rfl) ⟨by simp only;omega,(aa.trans aR.any).trans ad,ae,fun d=>?_⟩ (by simp only;omega)
  simp only
  rw[bK,af d,take_succ_eq_append_getElem R]
  by_cases e:ns[a]=d
  ·rw[if_pos e,if_pos (by simp[e])]
  ·rw[if_neg e]
   have:d∈ns.take a++[ns[a]]↔d∈ns.take a:=by
    rw[mem_append,mem_singleton]
    exact⟨fun h=>h.elim id (fun h=>absurd h.symm e),Or.inl⟩
   by_cases s:d∈ns.take a
   ·rw[if_pos s,if_pos (this.2 s)]
   ·rw[if_neg s,if_neg (fun h=>s (this.1 h))]
 have g1:¬(a:Int)<(ns.length:Int):=by omega
 rw[take_of_length_le (by omega)] at af
 repeat (first|apply ar|refine un ?_)
 refine bA rfl ?_
 repeat apply ar
 refine SG.makeMap (dv (n:=8)) vj rfl rfl (fun K w3 ab bm u=>?_)
 refine SG.alloc rfl rfl rfl (fun G w4 ac bk N=>?_)
 have s3:=ab.size
 have bx:=aa.size
 have bu:=u.lt
 have u:=u.az ac
 refine SG.fe rfl rfl (ag rfl) (ag rfl) N rfl rfl (fun w5 ad N=>?_)
 have aV:Kp [] w2 w5:=(ab.trans ac).aj ad (aW (by omega))
 have ae:aF w5 K (dv (n:=8)) vj []:=u.kp ad (bQ (by omega))
 have aP:=Y.az aV
 have r7:Row w5 G 0 [.map (some K)]:=Row.all N rfl
 have bt:=N.lt
 have k5:=k2.trans aV
 have ay:=I.az k5
 obtain⟨av,aw,rfl,hc,hS⟩:=ay.sl
 obtain⟨-,q1⟩:=ay.rows
 have s5:=k5.size
 have bw:=Y.lt
 clear N u g1
 repeat (first|apply ar|(apply au;rfl;(first|apply aB|apply aZ|apply aU|apply bR|apply dg)<;>first|rfl|assumption|exact wn))
 refine CG.loop (X:=Nat×List (Dg×Int)) (fun f=>[(0,.pointer (some ⟨p,0,none⟩)),(1,.int .i64 most),(7,.map (some D)),(10,.pointer (some ⟨G,0,none⟩)),(32,.slice av ms.length aw),(33,.int .i64 (ms.length:Int)),(34,.int .i64 (f.1:Int))])
  (fun f z=>f.1<=ms.length/\Kp [K] w5 z/\aF z K (dv (n:=8)) vj f.2/\oO f.2 (lI ((ms.map Em.en).take f.1) ns)) (fun f=>ms.length-f.1) (0,[]) ⟨Nat.zero_le _,Kp.refl _ _,ae,oO.nil⟩ (aS.of rfl) ?_
 clear q1
 rintro⟨a,m⟩ w6 ⟨hi,A,U,H⟩
 simp only at hi U H
 refine CG.to [(0,.pointer (some ⟨p,0,none⟩)),(1,.int .i64 most),(7,.map (some D)),(10,.pointer (some ⟨G,0,none⟩)),(32,.slice av ms.length aw),(33,.int .i64 (ms.length:Int)),(34,.int .i64 (a:Int))] (aS.of rfl) ?_
 have k6:Kp [] w w6:=k5.aj A (aW (by omega))
 have a3:=I.az k6
 have aq:Row w6 G 0 [.map (some K)]:=r7.kp A (bQ (by omega))
 have an:aF w6 D (dv (n:=8)) Jh mo:=aP.kp A (bQ (by omega))
 have s6:=A.size
 by_cases R:a<ms.length
 rotate_left
 ·have g1:¬(a:Int)<(ms.length:Int):=by omega
  rw[take_of_length_le (by rw[length_map];omega)] at H
  clear an
  repeat (first|apply ar|refine un ?_)
  refine bA rfl ?_
  repeat (first|apply ar|refine qa0 ?_)
  refine SG.alloc rfl rfl rfl (fun C w7 ak bi M=>?_)
  refine SG.fe rfl rfl (ag rfl) (ag rfl) M rfl rfl (fun F al M=>?_)
  have r:Kp [] w6 F:=ak.aj al (aW (by omega))
  have k8:=k6.trans r
  have aA:=I.az k8
  have r8:=aq.az r
  have J:=U.az r
  have be:=M.lt
  have bq:=U.lt
  have bl:=I.mu
  obtain⟨q,hq⟩:∃q:Nat->Bool,q=fun j=> !vk (lI (ms.map Em.en) ns) (sG (ms.map Em.en) j):=⟨_,rfl⟩
  repeat (first|apply ar|refine qa0 ?_)
  refine SG.val rfl rfl rfl rfl (Hz (vs:=[.pointer (some ⟨G,0,none⟩),.pointer (some ⟨C,0,none⟩)]) rfl) ?_
  refine SG.call rfl rfl rfl (vs:=[.pointer (some ⟨p,0,none⟩),lf 125 [.pointer (some ⟨G,0,none⟩),.pointer (some ⟨C,0,none⟩)]]) (bg.of rfl) ((tj (Fn:=by infer_instance) (g:=nK q most) (S:=[C]) aA hI hr (fun o W=>aG W C (.cells #[.int .i64 (iR most (jf q o))] 3)/\∃T,(∀b∈T,F.heap.size<=b)/\Kp (C::T) F W)
   ⟨by
    have e:iR most (jf q [])=most:=Gy most
    rw[e]
    exact M,[],fun b k=>(by cases k),Kp.refl _ _⟩
   (fun o W W' T hT P ⟨h1,T2,s,L⟩=>⟨h1.kp P (fun u=>by have:=hT _ u;omega),T2++T,fun b k=>(by rcases mem_append.1 k with h|h;exact s b h;exact hT b h),(L.mono (fun b k=>by
    rcases mem_cons.1 k with h|h
    ·exact mem_cons.2 (Or.inl h)
    ·exact mem_cons.2 (Or.inr (mem_append_left _ h)))).trans (P.mono (fun b k=>mem_cons.2 (Or.inr (mem_append_right _ k))))⟩)
   (fun W P=>aA.kp P (bQ (by omega)) (fun b k=>bQ (by have:=bc b k;omega)) (dD.cons (by omega) (dD.cells M (by decide)) dD.nil))
   (fun b k=>by rw[mem_singleton] at k;rw[k];exact be)
   (fun o W hJ=>dD.cons (Nat.zero_le _) (dD.cells hJ.1 (by decide)) dD.nil)
   (fun o j hj W bs P ⟨h1,T,s,L⟩=>?_)).mono (fun e w9 O=>?_))
  rotate_left
  ·obtain⟨v',xs,he,Q,hX,bd,-⟩:=O
   refine⟨_,he,?_⟩
   repeat (first|apply ar|refine wt ?_)
   refine aO (Or.inl rfl) results80 (aD.tmp rfl) ?_
   refine⟨v',xs,rfl,k8.aj Q (aW (by omega)),⟨c9 hX.own k8.size,hX.ins⟩,?_⟩
   rw[bd,qW]
   have e0:(most-((jf q []:Nat):Int)).toNat=most.toNat:=by
    have:jf q []=0:=rfl
    omega
   rw[e0,hq,<-rv,<-map_take,map_map]
   rfl
  ·have aQ:∀b,b<F.heap.size->b≠C->b∉C::T:=fun b k ba u=>by
    rcases mem_cons.1 u with h|h
    ·exact ba h
    ·have:=s b h
     omega
   have s8:=r.size
   refine(yq ms[j] (r8.kp L (aQ _ (by omega) (by omega))) (J.kp L (aQ _ (by omega) (by omega))) H h1 (by
    obtain⟨g3,g4⟩:=a9
    unfold iS iR
    split
    ·split<;>omega
    ·omega)).mono (fun e' z O=>?_)
   obtain⟨he,aI,ax⟩:=O
   have bb:q j= !vk (lI (ms.map Em.en) ns) ms[j].en:=by
    rw[hq]
    simp only
    rw[pr (by simpa using hj),getElem_map]
   have aL:=Eb (most:=most) (c:=jf q o)
   have hg:(!vk (lI (ms.map Em.en) ns) ms[j].en&&decide (1<=iR most (jf q o)))=nK q most o j:=by
    unfold nK
    rw[bb]
    congr 1
    by_cases h:(jf q o:Int)<most
    ·rw[decide_eq_true h,decide_eq_true (aL.2 h)]
    ·rw[decide_eq_false h,decide_eq_false (fun O=>h (aL.1 O))]
   rw[hg] at he ax
   refine⟨he,aI,?_,T,s,L.trans (aI.mono (fun b k=>by rw[mem_singleton] at k;rw[k];exact mem_cons_self))⟩
   have e4:iR most (jf q (o++[j]))=if nK q most o j then iR most (jf q o)-1 else iR most (jf q o):=by
    rw[xJ]
    unfold nK
    cases hqq:q j with
    |false=>rw[Bool.false_and];rfl
    |true=>
     rw[Bool.true_and,if_pos rfl,ze]
     by_cases h:(jf q o:Int)<most
     ·rw[if_pos h,decide_eq_true h,if_pos rfl]
     ·rw[if_neg h,decide_eq_false h,if_neg (by decide)]
   rw[e4]
   exact ax
 have g1:(a:Int)<(ms.length:Int):=by omega
 obtain⟨a',c',e',-,a4⟩:=a3.sl
 cases e'
 obtain⟨aY,o1,rfl,ap⟩:=a4.at R
 have B:=Bv (l:=ms.map Em.en) (ns:=ns) (i:=a) (by simpa using R)
 rw[getElem_map] at B
 have B:lI ((ms.map Em.en).take (a+1)) ns=if aJ ms[a].x.t∈ns then lI ((ms.map Em.en).take a) ns++[(ms[a].x.t.frm,ms[a].x.t.non)] else lI ((ms.map Em.en).take a) ns:=B
 have ho:=af (aJ ms[a].x.t)
 repeat (first|apply ar|refine ul ?_)
 refine bO rfl ?_
 repeat (first|apply ar|(apply au;rfl;(first|apply bf|apply fa)<;>first|rfl|exact zc|assumption|exact wn|apply aT))
 refine SG.alloc rfl rfl rfl (fun b9 w7 ak a5 E=>?_)
 refine SG.aN (l:=ec ms[a]) rfl rfl (ag rfl) (ag rfl) E (aT _) rfl (lN _) (fun F al E=>?_)
 have r:Kp [] w6 F:=ak.aj al (aW (by omega))
 have r9:Row F b9 0 (ec ms[a]):=Row.all E rfl
 obtain⟨-,q0,q1,-,q4,-⟩:=eO r9
 simp only[Nat.zero_add] at q0 q1 q4
 have aq:=aq.az r
 have J:=U.az r
 have a8:=an.az r
 clear ap r9 an U aP Y ae
 by_cases aH:aJ ms[a].x.t∈ns
 rotate_left
 ·rw[if_neg aH] at ho B
  repeat (first|apply ar|(apply au;rfl;(first|apply aB|apply bf|apply aU|apply oQ)<;>first|rfl|assumption|exact wn|apply ai|exact rz (by assumption)|fail))
  refine bA rfl ?_
  repeat (first|apply ar|refine wz ?_)
  refine NG.round (a+1,m) (aS.of rfl) ⟨by simp only;omega,A.trans r.any,J,by simp only;rw[B];exact H⟩ (by simp only;omega)
 rw[if_pos aH] at ho B
 have aX:(∀Z,aC m ms[a].x.t.frm=some Z->ms[a].x.t.non<Z)->oO (ca m ms[a].x.t.frm ms[a].x.t.non) (lI ((ms.map Em.en).take (a+1)) ns):=fun y=>by rw[B];exact H.put y
 repeat (first|apply ar|(apply au;rfl;(first|apply aB|apply bf|apply aU|apply oQ)<;>first|rfl|assumption|exact wn|apply ai|exact iX (by assumption)|fail))
 refine bO rfl ?_
 clear a8
 cases hlk:aC m ms[a].x.t.frm with
 |none=>
  have ao:=aX (fun Z y=>by rw[hlk] at y;cases y)
  repeat (first|apply ar|refine qb3 ?_|refine SG.skip rfl rfl ?_)
  refine bO rfl ?_
  repeat (first|apply ar|refine qa3 ?_)
  refine SG.mapUpdate (enc:=dv (n:=8)) (V:=vj) (kx:=ms[a].x.t.frm) (vy:=ms[a].x.t.non) rfl rfl (ag rfl) (ag rfl) (ag rfl) J gJ.key (fun w9 Q am=>?_)
  repeat (first|apply ar|refine wz ?_)
  refine NG.round (a+1,_) (aS.of rfl) ⟨by simp only;omega,(A.trans r.any).trans Q,am,ao⟩ (by simp only;omega)
 |some Z=>
  by_cases aK:ms[a].x.t.non<Z
  ·have ao:=aX (fun n' y=>by rw[hlk] at y;cases y;exact aK)
   repeat (first|apply ar|(apply au;rfl;(first|apply aB|apply aE|apply aZ|apply bf|apply aU|apply cI|apply ij|apply jz|apply dd|apply ig)<;>first|rfl|assumption|exact qf|exact wn|apply ai|exact iX (by assumption)|fail))
   refine bO rfl ?_
   repeat (first|apply ar|refine qa3 ?_)
   refine SG.mapUpdate (enc:=dv (n:=8)) (V:=vj) (kx:=ms[a].x.t.frm) (vy:=ms[a].x.t.non) rfl rfl (ag rfl) (ag rfl) (ag rfl) J gJ.key (fun w9 Q am=>?_)
   repeat (first|apply ar|refine wz ?_)
   refine NG.round (a+1,_) (aS.of rfl) ⟨by simp only;omega,(A.trans r.any).trans Q,am,ao⟩ (by simp only;omega)
  ·have a6:oO m (lI ((ms.map Em.en).take (a+1)) ns):=by rw[B];exact H.xq hlk aK
   repeat (first|apply ar|(apply au;rfl;(first|apply aB|apply aE|apply aZ|apply bf|apply aU|apply cI|apply ij|apply jz|apply dd|apply ig)<;>first|rfl|assumption|exact qr|exact wn|apply ai|exact iX (by assumption)|fail))
   refine bA rfl ?_
   repeat (first|apply ar|refine wz ?_)
   refine NG.round (a+1,m) (aS.of rfl) ⟨by simp only;omega,A.trans r.any,J,a6⟩ (by simp only;omega)
end
section
variable{w:World}
noncomputable def iI:List Tx->List (Dg×Int)->Int
 |[],_=>0
 |t::l,seen=>if bu t≠0 then bu t else if(t.frm,t.non)∈seen then 7 else iI l ((t.frm,t.non)::seen)
noncomputable def bz(b:Bl):Int:=if b.ht<0\/1099511627776<b.ht then 2 else if 64<b.txs.length then 8 else if iI b.txs []≠0 then iI b.txs [] else if(oW (b.txs.map (·.fee)) 0).isSome then 0 else 2
def FQ(t:Tx)(h:bu t=0):Dg×Nn:=(t.frm,⟨t.non,(uc h).n0,(uc h).n1⟩)
theorem RG(w:World)(a0 a b c d e f g:UInt8)(n:Int):(Instr.build 242 #[(0,.agg #[bv a0,bv a,bv b,bv c,bv d,bv e,bv f,bv g]),(1,.int .i64 n)]).run prog w= .ok (.agg #[bv a0,bv a,bv b,bv c,bv d,bv e,bv f,bv g,.int .i64 n]) w:=by kernel_rfl
theorem VM(w:World)(d:Dg)(n:Int):(Instr.build 242 #[(0,dv d),(1,.int .i64 n)]).run prog w= .ok (.agg (dc d++[Value.int .i64 n]).toArray) w:=by
 obtain⟨l,h⟩:=d
 match l,h with
 |[a,b,c,e,f,g,i,j],_=>exact RG w a b c e f g i j n
attribute [local irreducible] CG NG SG aP aM Row aG aF aQ num dy dH cV cL sF cU bu dX mB eK bG de aJ lF
theorem Da{a:Option Addr}{l:List Int}(c:Nat)(m:Sl vi 1 w a l)(v:l.length<=1000000):
  dq prog 139 #[.slice a l.length c] w (match oW l 0 with|some s=> .tuple #[.int .i64 s,.int .i64 0]|none=> .tuple #[.int .i64 0,.int .i64 2]):=by
 refine bC func139 rfl ntmps139 rfl ?_
 repeat (first|apply ar|refine qb1 ?_)
 refine CG.loop (X:=Nat×Int) (fun q=>[(4,.int .i64 q.2),(9,.slice a l.length c),(10,.int .i64 (l.length:Int)),(11,.int .i64 (q.1:Int))])
  (fun q r=>q.1<=l.length/\Kp [] w r/\oW (l.drop q.1) q.2=oW l 0)
  (fun q=>l.length-q.1) (0,0) ⟨Nat.zero_le _,Kp.refl _ _,rfl⟩ (aS.of rfl) ?_
 rintro⟨i,s⟩ t ⟨o,f,b⟩
 simp only at o b
 refine CG.to [(4,.int .i64 s),(9,.slice a l.length c),(10,.int .i64 (l.length:Int)),(11,.int .i64 (i:Int))] (aS.of rfl) ?_
 by_cases e:i<l.length
 ·have k:(i:Int)<(l.length:Int):=by omega
  obtain⟨u,x,rfl,g⟩:=(m.az f).at e
  rw[drop_eq_getElem_cons e] at b
  generalize l[i]=n at b g
  repeat (first|apply ar|refine ul ?_)
  refine bO rfl ?_
  repeat (first|apply ar|(apply au;rfl;(first|apply aB|apply aE|apply aZ|apply fa)<;>first|rfl|exact zc|assumption|exact wn))
  refine SG.ret rfl rfl rfl (vs:=[.int .i64 s,.int .i64 n]) (bg.of rfl) (zw s n t) (fun y p=>?_)
  have h:=f.trans p
  clear g
  by_cases d:lF s/\lF n/\lF (s+n)
  ·rw[if_pos d]
   rw[oW,if_pos d] at b
   repeat (first|apply ar|refine qb5 ?_)
   refine bA rfl ?_
   repeat (first|apply ar|refine us ?_)
   refine NG.round (i+1,s+n) (aS.of rfl) ⟨e,h,b⟩ (by simp only;omega)
  ·rw[if_neg d]
   rw[oW,if_neg d] at b
   rw[<-b]
   repeat (first|apply ar|(apply au;rfl;(first|apply aB|apply aE|apply du|apply dd)<;>first|rfl|exact qr))
   refine bO rfl ?_
   repeat (first|apply ar|refine ww ?_)
   refine dT (Or.inl rfl) results139 (aD.tmp rfl) (aD.tmp rfl) ?_
   exact⟨rfl,h⟩
 ·have k:¬(i:Int)<(l.length:Int):=by omega
  have j:i=l.length:=by omega
  subst j
  rw[drop_length,oW] at b
  rw[<-b]
  repeat (first|apply ar|refine un ?_)
  refine bA rfl ?_
  repeat (first|apply ar|refine ww ?_)
  refine dT (Or.inl rfl) results139 (aD.tmp rfl) (aD.tmp rfl) ?_
  exact⟨rfl,f⟩
theorem qa9{P n o Q r L w d b t p f g v}(c:SG P n o Q r ((d,v)::L) w)(a:(Nat.blt d n&&(!fm b&&(want o L ⟨some d,b,t,p,f,g⟩==some true&&b.operands.toList.all (known L))))=true:=by rfl)(e:aP P [] w (fun _=>True) L ⟨some d,b,t,p,f,g⟩ v:=by apply bf<;>first|rfl|assumption|exact wn|apply aH):SG P n o Q (⟨some d,b,t,p,f,g⟩::r) L w:=au a e c
theorem lQ{n0:Nat}{x:Bm}(E:x.In n0 w):dq prog 98 #[eL x] w (.int .i64 (bz x.b)):=by
 refine bC func98 rfl ntmps98 rfl ?_
 have hl:=E.len
 repeat apply ar
 refine SG.box rfl rfl rfl (ag rfl) (fun A w1 r aT m=>?_)
 have m:aG w1 A (.cells (cR x).toArray 50):=m
 have a0:=m.lt
 obtain⟨-,-,r1,-,r3⟩:=bJ m
 have el:x.b.txs.length=x.xs.length:=length_map _
 have p:∀{L:Env} {o:World} {z:Int},bz x.b=z->Kp [] w o->look L 2=some (.int .i64 z)->NG 54 .ret (bodyPost prog Tryz.f98 (fun e o=>e= .returned (.int .i64 (bz x.b))/\Kp [] w o)) L o:=
  fun hb N hL=>aO (Or.inl rfl) results98 (aD.tmp hL) ⟨by rw[hb],N⟩
 by_cases H:x.ht<0
 ·have G:bz x.b=2:=by unfold bz;rw[if_pos (show x.b.ht<0\/_ from Or.inl H)]
  repeat (first|apply ar|(apply au;rfl;(first|apply aB|apply aE|apply aZ|apply aU|apply cI|apply cg)<;>first|rfl|assumption|exact qf|exact wn)|refine SG.skip rfl rfl ?_)
  refine bO rfl ?_
  repeat (first|apply ar|refine wt ?_)
  exact p G r rfl
 by_cases I:1099511627776<x.ht
 ·have G:bz x.b=2:=by unfold bz;rw[if_pos (show _\/1099511627776<x.b.ht from Or.inr I)]
  repeat (first|apply ar|(apply au;rfl;(first|apply aB|apply aE|apply aZ|apply aU|apply cI|apply cg|apply ij)<;>first|rfl|assumption|exact qf|exact qr|exact wn))
  refine bO rfl ?_
  repeat (first|apply ar|refine wt ?_)
  exact p G r rfl
 have g:bz x.b=if 64<x.b.txs.length then 8 else if iI x.b.txs []≠0 then iI x.b.txs [] else if(oW (x.b.txs.map (·.fee)) 0).isSome then 0 else 2:=by
  unfold bz
  rw[if_neg (show ¬(x.b.ht<0\/1099511627776<x.b.ht) from fun h=>h.elim H I)]
 repeat (first|apply ar|(apply au;rfl;(first|apply aB|apply aE|apply aZ|apply aU|apply cI|apply cg|apply ij)<;>first|rfl|assumption|exact qr|exact wn))
 refine bA rfl ?_
 by_cases h3:(64:Int)<(x.xs.length:Int)
 ·rw[if_pos (by omega)] at g
  repeat (first|apply ar|(apply au;rfl;(first|apply aZ|apply aU|apply dg|apply ij)<;>first|rfl|assumption|exact qf|exact wn))
  refine bO rfl ?_
  repeat (first|apply ar|refine wt ?_)
  exact p g r rfl
 rw[if_neg (by omega)] at g
 repeat (first|apply ar|(apply au;rfl;(first|apply aZ|apply aU|apply dg|apply ij)<;>first|rfl|assumption|exact qr|exact wn))
 refine bA rfl ?_
 repeat apply ar
 refine SG.makeMap JV Jh rfl rfl (fun F w2 O aY hm=>?_)
 have k2:=r.trans O
 have r3:=r3.az O
 have m:=m.az O
 have K:=E
 clear r1 H I
 have hS:=K.tx.sl
 have hI:=K.tx.ins
 have aJ:=E
 have aM:=hm.lt
 have a1:=m.lt
 clear E K
 generalize d:iI x.b.txs []=sc at g
 have d:iI (x.xs.map (·.t)) []=sc:=d
 generalize s:oW (x.b.txs.map (·.fee)) 0=T at g
 have s:oW ((x.xs.map (·.t)).map (·.fee)) 0=T:=s
 repeat (first|apply ar|refine qa6 ?_)
 refine CG.loop (X:=Nat×List (Dg×Int)×List ((Dg×Nn)×Bool)) (fun q=>[(1,.pointer (some ⟨A,0,none⟩)),(3,.map (some F)),(24,.slice x.a x.xs.length x.c),(25,.int .i64 (x.xs.length:Int)),(26,.int .i64 (q.1:Int))])
  (fun q o=>q.1<=x.xs.length/\Kp [] w o/\aG o A (.cells (cR x).toArray 50)/\aF o F JV Jh q.2.2/\iI ((x.xs.map (·.t)).drop q.1) q.2.1=sc/\∀k:Dg×Nn,aC q.2.2 k=if(k.1,k.2.1)∈q.2.1 then some true else none)
  (fun q=>x.xs.length-q.1) (0,[],[]) ⟨Nat.zero_le _,k2,m,hm,d,fun k=>rfl⟩ (aS.of rfl) ?_
 rintro⟨i,v,ah⟩ w3 ⟨hi,n,J,Q,d,R⟩
 simp only at hi Q d R
 refine CG.to [(1,.pointer (some ⟨A,0,none⟩)),(3,.map (some F)),(24,.slice x.a x.xs.length x.c),(25,.int .i64 (x.xs.length:Int)),(26,.int .i64 (i:Int))] (aS.of rfl) ?_
 have aM:=Q.lt
 have a2:=J.lt
 by_cases C:i<x.xs.length
 ·have g1:(i:Int)<(x.xs.length:Int):=by omega
  obtain⟨ba,a5,aL,ae⟩:=(hS.az n).at C
  have Y:=(hI _ (getElem_mem C)).az n
  have aa:(x.xs.map (·.t)).drop i=x.xs[i].t::(x.xs.map (·.t)).drop (i+1):=by
   rw[drop_eq_getElem_cons (by rw[length_map];exact C),getElem_map]
  rw[aa] at d
  clear aa
  generalize x.xs[i]=y at ae Y d
  rw[aL]
  repeat (first|apply ar|refine ul ?_)
  refine bO rfl ?_
  repeat (first|apply ar|refine ut ?_)
  refine SG.alloc rfl rfl rfl (fun b5 w5 P ao al=>?_)
  refine SG.aN (l:=bV y) rfl rfl (ag rfl) (ag rfl) al (ay _) rfl (bY _) (fun w6 aq B=>?_)
  have B:aG w6 b5 (.cells (bV y).toArray 52):=B
  have af:=P.aj aq (aW ao)
  obtain⟨q,-⟩:=aX B
  clear ae
  repeat (first|apply ar|refine qa2 ?_)
  refine SG.ret rfl rfl rfl (vs:=[eG y]) (bg.of rfl) (ki (Y.az af)) (fun w7 ac=>?_)
  have S:=af.trans ac
  clear q
  by_cases j:bu y.t=0
  rotate_left
  ·rw[iI,if_pos j] at d
   rw[d] at j⊢
   rw[if_pos j] at g
   repeat (first|apply ar|refine vr ?_)
   refine bO rfl ?_
   repeat (first|apply ar|refine ww ?_)
   exact p g (n.trans S) rfl
  rw[iI,if_neg (fun h=>h j)] at d
  rw[j]
  have aR:(0:Int)=0:=rfl
  repeat (first|apply ar|refine vp ?_)
  refine bA rfl ?_
  obtain⟨-,q0,q1,-⟩:=aX (B.az ac)
  repeat (first|apply ar|refine qa3 ?_)
  refine SG.val rfl rfl rfl rfl (aK rfl (fun ak=>VM ak y.t.frm y.t.non)) ?_
  refine SG.alloc rfl rfl rfl (fun b7 w8 av aV am=>?_)
  clear q0 q1
  refine SG.aN (l:=Fq (FQ y.t j)) rfl rfl (ag rfl) (ag rfl) am (iH _) rfl (FR _) (fun w9 aw W=>?_)
  have u:=(S.trans av).aj aw (aW (by have:=S.size;omega))
  have qk:Row w9 b7 0 (Fq (FQ y.t j)):=Row.all W rfl
  have ax:=Q.az u
  have Z:aC ah (FQ y.t j)=if(y.t.frm,y.t.non)∈v then some true else none:=R (FQ y.t j)
  have a6:=u.size
  have a3:=W.lt
  by_cases ab:(y.t.frm,y.t.non)∈v
  ·rw[if_pos ab] at d Z
   subst d
   rw[if_pos (by decide)] at g
   repeat (first|apply ar|(apply au;rfl;(first|apply aB|apply bf|apply oQ)<;>first|rfl|assumption|exact wn|apply iH|exact iX (by assumption)|fail))
   refine bO rfl ?_
   repeat (first|apply ar|refine wt ?_)
   exact p g (n.trans u) rfl
  rw[if_neg ab] at d Z
  repeat (first|apply ar|(apply au;rfl;(first|apply aB|apply bf|apply oQ)<;>first|rfl|assumption|exact wn|apply iH|exact rz (by assumption)|fail))
  refine bA rfl ?_
  repeat (first|apply ar|(apply au;rfl;(first|apply aB|apply bf)<;>first|rfl|assumption|exact wn|apply iH))
  refine SG.mapUpdate (enc:=JV) (V:=Jh) (kx:=FQ y.t j) (vy:=true) rfl rfl (ag rfl) (ag rfl) (ag rfl) ax C7 (fun wa ad aA=>?_)
  repeat (first|apply ar|refine wz ?_)
  refine NG.round (i+1,(y.t.frm,y.t.non)::v,ca ah (FQ y.t j) true) (aS.of rfl) ⟨C,(n.trans u).aj ad (aW (by have:=r.size;omega)),(J.az u).kp ad (bQ (by omega)),aA,d,fun k=>?_⟩ (by simp only;omega)
  simp only
  rw[bK,R k]
  by_cases M:FQ y.t j=k
  ·subst M
   rw[if_pos rfl,if_pos (show((FQ y.t j).1,(FQ y.t j).2.1)∈(y.t.frm,y.t.non)::v from mem_cons.2 (Or.inl rfl))]
  ·rw[if_neg M]
   have N:¬(k.1,k.2.1)=(y.t.frm,y.t.non):=fun e=>M (by
    obtain⟨k1,k2,n⟩:=k
    simp only[Prod.mk.injEq] at e
    obtain⟨rfl,rfl⟩:=e
    rfl)
   by_cases D:(k.1,k.2.1)∈v
   ·rw[if_pos D,if_pos (mem_cons.2 (Or.inr D))]
   ·rw[if_neg D,if_neg (fun h=>(mem_cons.1 h).elim N D)]
 ·have g1:¬(i:Int)<(x.xs.length:Int):=by omega
  have e8:i=x.xs.length:=by omega
  rw[e8,<-length_map (f:=fun x:Tm=>x.t),drop_length,iI] at d
  subst d
  rw[if_neg (fun h=>h rfl)] at g
  obtain⟨aP,-⟩:=bJ J
  repeat (first|apply ar|refine un ?_)
  refine bA rfl ?_
  repeat (first|apply ar|refine qa9 ?_)
  refine SG.call rfl rfl rfl (vs:=[eL x]) (bg.of rfl) ((BU (aJ.az n)).mono (fun e w4 hh=>?_))
  obtain⟨v4,he,aI,ap⟩:=hh
  refine⟨_,he,?_⟩
  clear aP he
  obtain⟨a4,U,rfl,-,an⟩:=Sl.own (enc:=vi) (l:=x.xs.map (·.t.fee)) (fun _=>rfl) aI rfl
  refine SG.ret rfl rfl rfl (vs:=[.slice a4 (x.xs.map (·.t.fee)).length U]) (bg.of rfl) (Da U an (by rw[length_map];omega)) (fun w5 P=>?_)
  have k5:=(n.trans ap).trans P
  have s:oW (x.xs.map (·.t.fee)) 0=T:=by rw[<-s,map_map];rfl
  rw[s]
  cases T with
  |some aQ=>
   rw[if_pos (show(some aQ).isSome=true from rfl)] at g
   repeat (first|apply ar|refine qb5 ?_)
   refine bA rfl ?_
   repeat (first|apply ar|refine wt ?_)
   exact p g k5 rfl
  |none=>
   rw[if_neg (by decide)] at g
   repeat (first|apply ar|(apply au;rfl;(first|apply aB|apply aE|apply du|apply dd)<;>first|rfl|exact qr))
   refine bO rfl ?_
   repeat (first|apply ar|refine wt ?_)
   exact p g k5 rfl
end
section
variable{s:ByteArray}{z:Int}{k:IntKind}{x y:Operand}{T:TypeId}
section
variable {P:Program} {S:List Nat} {w0:World} {F:World->Prop} {L:Env} {d:Option Nat} {ty:TypeId} {pos:String} {af:Array Edge} {g:Option (Nat×Bool)}
def vL(s:ByteArray)(z:Int):UInt8:=(s[z.toNat]?).getD 0
theorem U1[u:Ut P T .string](f:ro L y=some (.int k z))(h:Ar (0<=z/\z<s.size)):aP P S w0 F L ⟨d,.index T (.const (.string s)) y,ty,pos,af,g⟩ (bv (vL s z)):=fun w _ _=>by
 have b:bH L (.const (.string s))= .string s:=rfl
 obtain⟨a,i⟩:=h.h
 have c:z.toNat<s.size:=by omega
 have e:s[z.toNat]?=some s[z.toNat]:=getElem?_pos s z.toNat c
 simp only[execOp,ag f,b,Instr.index,Sem.run_bind,Result.andThen]
 simp[asIntOf,run_underlying u.eq,a,e,vL,Result.andThen]
theorem Qo[u:Ut P T .string](m:Nat)(a:Nat.ble m s.size=true)(b:ro L y=some (.int k z))(h:Ar (0<=z/\z<m)):aP P S w0 F L ⟨d,.index T (.const (.string s)) y,ty,pos,af,g⟩ (bv (vL s z)):=U1 b (Ar.mk (by
 have:=Nat.le_of_ble_eq_true a
 have:=h.h
 omega))
theorem U2[u:Ut P T .string]{k':IntKind}{l h:Int}(j:ro L x=some (.int k l))(m:ro L y=some (.int k' h))(f:Ar (0<=l/\l<=h/\h<=s.size)):aP P S w0 F L ⟨d,.slice T (.const (.string s)) (some x) (some y) none,ty,pos,af,g⟩ (.string (s.extract l.toNat h.toNat)):=fun w _ _=>by
 have i:bH L (.const (.string s))= .string s:=rfl
 obtain⟨c,n,e⟩:=f.h
 have a:(0:Int)<=h/\h<=(s.size:Int):=⟨by omega,e⟩
 have b:(0:Int)<=l/\l<=(h.toNat:Int):=⟨c,by omega⟩
 simp only[execOp,ag j,ag m,i,Option.map_some,Option.map_none,Instr.sliceAt,Sem.run_bind,run_underlying u.eq,Result.andThen,Instr.slice,Instr.sliceBounds,Instr.sliceBound,asIntOf,Sem.run_pure]
 simp only[if_pos a,Sem.run_pure,Sem.run_bind,Result.andThen,if_pos b,Option.isSome_none,Bool.false_eq_true,if_false]
theorem U3{T':TypeId}[u:Ut P T .string]{a b:List UInt8}(i:ro L x=some (sv a))(j:ro L y=some (sv b))(f:Ar (a.length+b.length<=1000000)):aP P S w0 F L ⟨d,.binOp .add T x y T',ty,pos,af,g⟩ (sv (a++b)):=fun w _ _=>by
 have e:(⟨a.toArray⟩:ByteArray)++⟨b.toArray⟩=⟨(a++b).toArray⟩:=by
  apply ByteArray.ext
  simp
 simp only[execOp,ag i,ag j,eqGuard,binOp,sv,Sem.run_bind,Sem.run_pure,Result.andThen]
 have k:=f.h
 have c:¬(9223372036854775807:Int)<((⟨a.toArray⟩:ByteArray).size:Int)+((⟨b.toArray⟩:ByteArray).size:Int):=by
  show ¬(9223372036854775807:Int)<((a.toArray.size:Nat):Int)+((b.toArray.size:Nat):Int)
  simp only[size_toArray]
  omega
 simp[Op.stringOp,e,c]
end
end
section
variable{s:ByteArray}{x:Nat}
def nD(x:Nat):Nat:=if x=0 then 0 else Nat.log2 x+1
def qg(d:Dg):Dg:=dX d [108,101,97,102]
def lq(d:Dg)(h:Nat):Dg:=dX d ([114,111,111,116]++[UInt8.ofNat (48+h)])
theorem Qi(a:x<64)(h:∀y:_root_.Fin 64,vL s ((y.val:Nat):Int)=UInt8.ofNat (nD y.val)):vL s (x:Int)=UInt8.ofNat (nD x):=h ⟨x,a⟩
theorem IG(a:x<64):nD x<=6:=by
 have b:∀y:_root_.Fin 64,nD y.val<=6:=by decide+kernel
 exact b ⟨x,a⟩
theorem KP{h:Nat}(d:h<10)(c:∀y:_root_.Fin 10,(s.extract y.val (y.val+1)).data.toList=[UInt8.ofNat (48+y.val)]):Value.string (s.extract (h:Int).toNat ((h:Int)+1).toNat)=sv [UInt8.ofNat (48+h)]:=by
 have e:=c ⟨h,d⟩
 simp only at e
 have a:(h:Int).toNat=h:=by omega
 have b:((h:Int)+1).toNat=h+1:=by omega
 rw[a,b]
 unfold sv
 congr 1
 apply ByteArray.ext
 rw[<-e,Array.toArray_toList]
attribute [local irreducible] CG NG SG aP aM Row aG aF aQ num dy dH cV cL sF cU bu dX mB eK bG de aJ lF
theorem D4(d:Dg)(w:World):dq prog 183 #[dv d] w (dv (qg d)):=by
 refine bC func183 rfl ntmps183 rfl ?_
 repeat apply ar
 refine SG.box rfl rfl rfl (ag rfl) (fun f s a n h=>?_)
 refine SG.alloc rfl rfl rfl (fun g e b o i=>?_)
 have p:Row e f 0 (dc d):=(Row.all h rfl).az b
 have r:=a.size
 repeat (first|apply ar|(apply au;rfl;apply bf<;>first|rfl|assumption|exact wn|apply ai))
 refine SG.ret rfl rfl rfl (vs:=[dv d,sv [108,101,97,102]]) (bg.of rfl) (iA d [108,101,97,102] (by decide) e) (fun t c=>?_)
 refine SG.aN (old:=dc zd) (l:=dc (qg d)) rfl rfl (ag rfl) (ag rfl) (i.az c) (ai _) (ai _) (bj _) (fun m k j=>?_)
 have q:Row m g 0 (dc (qg d)):=Row.all j rfl
 repeat apply ar
 refine aO (Or.inl rfl) results183 (by exact aD.agg rfl rfl (by assumption) (by first|exact ai _|exact nc_length _|exact rc_length _ _ _|exact aT _|exact dl_length _ _ _ _|exact bh _|exact bB _|exact bE _|exact ay _|rfl)) ?_
 exact⟨rfl,((a.trans b).trans c).aj k (aW (by omega))⟩
theorem yv(h:Nat)(a:h<10)(w:World):dq prog 213 #[.int .i64 (h:Int)] w (sv [UInt8.ofNat (48+h)]):=by
 refine bC func213 rfl ntmps213 rfl ?_
 have b:(h:Int)<10:=by omega
 repeat (first|apply ar|(apply au;rfl;(first|apply aB|apply aE|apply cg)<;>first|rfl|exact qf))
 refine bO rfl ?_
 repeat (first|apply ar|refine wz ?_)
 refine SG.val rfl rfl rfl rfl (U2 (l:=(h:Int)) (h:=(h:Int)+1) rfl rfl (Ar.mk ⟨by omega,by omega,by show(h:Int)+1<=((36:Nat):Int);omega⟩)) ?_
 rw[KP a ?_]
 rotate_left
 ·decide+kernel
 repeat (first|apply ar|refine wt ?_)
 refine aO (Or.inl rfl) results213 (aD.tmp rfl) ?_
 exact⟨rfl,Kp.refl _ _⟩
theorem BQ(h:Nat)(e:h<10)(w:World):dq prog 198 #[.int .i64 (h:Int)] w (sv [UInt8.ofNat (48+h)]):=by
 have c:∀w,dq prog 209 #[.int .i64 (h:Int),.int .i64 10] w (sv [UInt8.ofNat (48+h)]):=fun w=>by
  refine bN func209 rfl ntmps209 rfl ?_
  have f:(0:Int)<=(h:Int):=by omega
  have g:(h:Int)<100:=by omega
  repeat (first|apply ar|(apply au;rfl;(first|apply aB|apply aE|apply fE)<;>first|rfl|exact qf))
  refine bO rfl ?_
  repeat (first|apply ar|(apply au;rfl;(first|apply aB|apply cI|apply cg|apply Cq)<;>first|rfl|exact qf))
  refine bO rfl ?_
  repeat (first|apply ar|refine qa0 ?_)
  refine SG.ret rfl rfl rfl (by repeat' (first|exact True.intro|exact ag rfl|refine And.intro ?_ ?_)) (yv h e w) (fun b a=>?_)
  repeat (first|apply ar|refine wt ?_)
  refine aO (Or.inl rfl) results209 (aD.tmp rfl) ?_
  exact⟨rfl,a⟩
 have d:∀w,dq prog 200 #[.int .i64 (h:Int)] w (sv [UInt8.ofNat (48+h)]):=fun w=>by
  refine bC func200 rfl ntmps200 rfl ?_
  repeat (first|apply ar|refine ww ?_)
  refine SG.ret rfl rfl rfl (vs:=[.int .i64 (h:Int),.int .i64 10]) (bg.of rfl) (c w) (fun b a=>?_)
  repeat (first|apply ar|refine wt ?_)
  refine aO (Or.inl rfl) results200 (aD.tmp rfl) ?_
  exact⟨rfl,a⟩
 refine bC func198 rfl ntmps198 rfl ?_
 repeat (first|apply ar|refine ww ?_)
 refine SG.ret rfl rfl rfl (vs:=[.int .i64 (h:Int)]) (bg.of rfl) (d w) (fun b a=>?_)
 repeat (first|apply ar|refine wt ?_)
 refine aO (Or.inl rfl) results198 (aD.tmp rfl) ?_
 exact⟨rfl,a⟩
theorem C4(d:Dg)(h:Nat)(o:h<10)(w:World):dq prog 186 #[dv d,.int .i64 (h:Int)] w (dv (lq d h)):=by
 refine bN func186 rfl ntmps186 rfl ?_
 repeat apply ar
 refine SG.box rfl rfl rfl (ag rfl) (fun i A c t k=>?_)
 refine SG.alloc rfl rfl rfl (fun j q e u m=>?_)
 have x:Row q i 0 (dc d):=(Row.all k rfl).az e
 have z:=c.size
 repeat apply ar
 refine CG.tail mixed 4 [0,1,2,3] (by kernel_rfl) ?_
 repeat (apply bW;rfl;rfl;(first|apply aB|apply bf)<;>first|rfl|assumption|exact wn|apply ai)
 refine aM.call rfl rfl rfl (vs:=[.int .i64 (h:Int)]) (bg.of rfl) (fun W v _=>BQ h o W) ?_
 refine aM.val rfl rfl rfl (U3 (a:=[114,111,111,116]) (b:=[UInt8.ofNat (48+h)]) rfl rfl (Ar.mk (by simp))) ?_
 refine aM.tl (fun r f _ _=>?_)
 refine SG.ret rfl rfl rfl (vs:=[dv d,sv ([114,111,111,116]++[UInt8.ofNat (48+h)])]) (bg.of rfl) (iA d _ (by simp) r) (fun B g=>?_)
 refine SG.aN (old:=dc zd) (l:=dc (lq d h)) rfl rfl (ag rfl) (ag rfl) ((m.az f).az g) (ai _) (ai _) (bj _) (fun s p n=>?_)
 have y:Row s j 0 (dc (lq d h)):=Row.all n rfl
 repeat apply ar
 refine aO (Or.inl rfl) results186 (by exact aD.agg rfl rfl (by assumption) (by first|exact ai _|exact nc_length _|exact rc_length _ _ _|exact aT _|exact dl_length _ _ _ _|exact bh _|exact bB _|exact bE _|exact ay _|rfl)) ?_
 exact⟨rfl,(((c.trans e).trans f).trans g).aj p (aW (by omega))⟩
theorem zb(x:Nat)(a:x<64)(w:World):dq prog 157 #[.int .u64 (x:Int)] w (.int .i64 (nD x:Int)):=by
 refine bC func157 rfl ntmps157 rfl ?_
 have d:¬(4294967296:Int)<=(x:Int):=by omega
 have e:¬(65536:Int)<=(x:Int):=by omega
 have f:¬(256:Int)<=(x:Int):=by omega
 repeat (first|apply ar|(apply au;rfl;(first|apply aB|apply aE|apply ji)<;>first|rfl|exact qr))
 refine bA rfl ?_
 repeat (first|apply ar|(apply au;rfl;(first|apply aB|apply ji)<;>first|rfl|exact qr))
 refine bA rfl ?_
 repeat (first|apply ar|(apply au;rfl;(first|apply aB|apply ji)<;>first|rfl|exact qr))
 refine bA rfl ?_
 repeat (first|apply ar|(apply au;rfl;first|apply Dw<;>rfl|apply aB<;>rfl))
 rw[yo]
 have c:(UInt8.ofNat x).toNat=x:=by rw[UInt8.toNat_ofNat'];omega
 refine SG.val rfl rfl rfl rfl (Qo (z:=(x:Int)) 256 (by kernel_rfl) (by show _=some (Value.int .u8 (x:Int));exact congrArg (fun n:Nat=>some (Value.int .u8 (n:Int))) c) (Ar.mk ⟨by omega,by omega⟩)) ?_
 rw[Qi a ?_]
 rotate_left
 ·decide+kernel
 have g:=IG a
 have b:(UInt8.ofNat (nD x)).toNat=nD x:=by rw[UInt8.toNat_ofNat'];omega
 refine SG.val rfl rfl rfl rfl (Fw rfl) ?_
 rw[b]
 repeat (first|apply ar|(apply au;rfl;(first|apply aE|apply dp)<;>first|rfl|exact zc))
 refine aO (Or.inl rfl) results157 (aD.tmp rfl) ?_
 exact⟨by rw[Int.zero_add],Kp.refl _ _⟩
theorem Ea(x:Nat)(b:x<64)(w:World):dq prog 114 #[.int .u64 (x:Int)] w (.int .i64 (nD x:Int)):=by
 refine bC func114 rfl ntmps114 rfl ?_
 repeat (first|apply ar|refine wt ?_)
 refine bA rfl ?_
 repeat (first|apply ar|refine qa0 ?_)
 refine SG.ret rfl rfl rfl (vs:=[.int .u64 (x:Int)]) (bg.of rfl) (zb x b w) (fun c a=>?_)
 repeat (first|apply ar|refine wt ?_)
 refine aO (Or.inl rfl) results114 (aD.tmp rfl) ?_
 exact⟨rfl,a⟩
theorem xu(n:Nat)(d:1<=n)(e:n<=64)(w:World):dq prog 181 #[.int .i64 (n:Int)] w (.int .i64 (nD (n-1):Int)):=by
 refine bC func181 rfl ntmps181 rfl ?_
 have b:¬(n:Int)<1:=by omega
 have c:¬(4096:Int)<(n:Int):=by omega
 repeat (first|apply ar|(apply au;rfl;(first|apply aB|apply aE|apply cI|apply cg|apply ij)<;>first|rfl|exact qr))
 refine bA rfl ?_
 repeat (first|apply ar|(apply au;rfl;(first|apply aB|apply td|apply xX)<;>first|rfl|exact zc))
 rw[show IntKind.wrap .u64 ((n:Int)-1)=((n-1:Nat):Int) by simp only[IntKind.wrap,IntKind.signed,IntKind.bits];simp;omega]
 refine SG.ret rfl rfl rfl (vs:=[.int .u64 ((n-1:Nat):Int)]) (bg.of rfl) (Ea (n-1) (by omega) w) (fun f a=>?_)
 repeat (first|apply ar|refine wt ?_)
 refine aO (Or.inl rfl) results181 (aD.tmp rfl) ?_
 exact⟨rfl,a⟩
end
section
theorem Tr.WF.anc{t:Tr}(b:t.WF):∀(j:Nat) {x:Dg},t.has x=true->j<=t.ht x->t.has (t.anc j x)=true/\t.ht (t.anc j x)+j=t.ht x
 |0,x,a,_=>⟨a,rfl⟩
 |j+1,x,a,f=>by
  have g:x≠t.first:=fun e=>by rw[e,b.h0] at f;omega
  obtain⟨c,h⟩:=b.up x a g
  obtain⟨d,i⟩:=b.anc j c (by omega)
  exact⟨d,by rw[Tr.anc];omega⟩
theorem tu{t:Tr}(m:t.WF):∀(n:Nat) {a b:Dg},t.has a=true->t.has b=true->t.ht a+t.ht b<n->∃i j,i<=t.ht a/\j<=t.ht b/\t.fQ n a b=t.anc i a/\t.fQ n a b=t.anc j b
 |0,a,b,_,_,h=>by omega
 |n+1,a,b,c,d,h=>by
  simp only[Tr.fQ]
  by_cases e:a=b
  ·rw[if_pos e]
   exact⟨0,0,Nat.zero_le _,Nat.zero_le _,rfl,e⟩
  ·rw[if_neg e]
   obtain⟨u,s,y,_⟩:=m.round c d e
   have q:∀{a b:Dg},t.has a=true->t.has b=true->a≠b->t.ht b<=t.ht a->t.ht a=t.ht (t.par a)+1:=by
    intro a b c d v z
    refine(m.up a c (fun e=>v ?_)).2
    have u:t.ht a=0:=by rw[e];exact m.h0
    have s:=m.oB d (by omega)
    rw[e,s]
   obtain⟨i,j,o,p,f,g⟩:=tu m n u s (by omega)
   by_cases k:t.ht b<=t.ht a<;>by_cases l:t.ht a<=t.ht b
   ·have w:=q c d e k
    have x:=q d c (fun r=>e r.symm) l
    simp only[k,l,if_true] at o p f g⊢
    exact⟨i+1,j+1,by omega,by omega,f,g⟩
   ·have w:=q c d e k
    simp only[k,l,if_true,if_false] at o p f g⊢
    exact⟨i+1,j,by omega,p,f,g⟩
   ·have x:=q d c (fun r=>e r.symm) l
    simp only[k,l,if_true,if_false] at o p f g⊢
    exact⟨i,j+1,o,by omega,f,g⟩
   ·omega
theorem DD{t:Tr}(f:t.WF){a b:Dg}(e:t.has a=true)(g:t.has b=true):∃i,i<=t.ht a/\t.part a b=t.anc i a/\t.ht (t.part a b)+i=t.ht a:=by
 obtain⟨i,j,c,h,d,k⟩:=tu f (t.ht a+t.ht b+1) e g (by omega)
 have:=(f.anc i e c).2
 refine⟨i,c,d,?_⟩
 unfold Tr.part
 rw[d]
 exact this
theorem Tr.zA(t:Tr)(m:Nat)(x:Dg):t.eF m x=(t.eF m x).take m++[t.anc m x]:=by
 cases m with
 |zero=>rfl
 |succ m=>
  rw[Tr.kh]
  have:(t.eF m x).length=m+1:=Tr.cy t m x
  rw[take_append_of_le_length (by omega),take_of_length_le (by omega)]
def Tr.sD(t:Tr)(a b:Dg):Nat:=t.ht a-t.ht (t.part a b)
def Tr.fv(t:Tr)(a b:Dg):List Dg:=(t.eF (t.sD a b) a).take (t.sD a b)
attribute [local irreducible] CG NG SG aP aM Row aG aF
theorem iu{w:World}{u U:Nat}{t:Tr}(z:cO w u U t)(n:t.WF){x y:Dg}(g:t.has x=true)(E:t.has y=true):
  Calls prog 100 #[.pointer (some ⟨u,0,none⟩),dv x,dv y] w (fun e k=>∃b a o d i,e= .returned (.slice (some ⟨b,a,none⟩) (t.sD x y) o)/\w.heap.size<=b/\aG k b (.cells (d++(flat (t.fv x y)++i)).toArray 47)/\(d.length=a/\t.sD x y<=o)/\Kp [] w k):=by
 refine dG func100 rfl ntmps100 rfl ?_
 repeat apply ar
 refine SG.box rfl rfl rfl (ag rfl) (fun S w1 ae ap Y=>?_)
 refine SG.box rfl rfl rfl (ag rfl) (fun T R N aq Z=>?_)
 have L:=ae.trans N
 have aa:=z.az L
 have r:Row R S 0 (dc x):=Row.all (Y.az N) rfl
 have s:Row R T 0 (dc y):=Row.all Z rfl
 have aw:¬t.height x<0:=by rw[Tr.height,Tr.fF g];simp only;omega
 have ax:¬t.height y<0:=by rw[Tr.height,Tr.fF E];simp only;omega
 repeat (first|apply ar|(apply au;rfl;(first|apply aB|apply aE|apply bf)<;>first|rfl|assumption|exact wn|apply ai))
 refine SG.ret rfl rfl rfl (by repeat' (first|exact True.intro|exact ag rfl|refine And.intro ?_ ?_)) (dZ aa x) (fun w3 B=>?_)
 have M:=L.trans B
 have ab:=z.az M
 have r:=r.az B
 have s:=s.az B
 repeat (apply au;rfl;(first|apply aB|apply bf|apply cg)<;>first|rfl|assumption|exact qr|exact wn|apply ai)
 refine SG.ret rfl rfl rfl (by repeat' (first|exact True.intro|exact ag rfl|refine And.intro ?_ ?_)) (dZ ab y) (fun w4 C=>?_)
 have A:=M.trans C
 have J:=z.az A
 have r:=r.az C
 have s:=s.az C
 repeat (first|apply ar|(apply au;rfl;(first|apply cI|apply cg)<;>first|rfl|exact qr))
 refine bA rfl ?_
 repeat apply ar
 obtain⟨m,ay,ak,aA⟩:=DD n g E
 have av:=n.bound g
 have Q:t.sD x y=m:=by unfold Tr.sD;omega
 refine CG.fh mixed [0,1,2,3,4,5,6,7,8] [6] (by kernel_rfl) ?_
 repeat (apply bW;rfl;rfl;(first|apply aB|apply bf)<;>first|rfl|assumption|exact wn|apply ai)
 refine aM.call rfl rfl rfl (by repeat' (first|exact True.intro|exact ag rfl|refine And.intro ?_ ?_)) (fun w f _=>rC (J.az f) n g E) ?_
 refine aM.kQ (X:=Nat×Nat×List Value) (vs:=[.pointer (some ⟨u,0,none⟩),dv x,dv (t.part x y)]) (fun q=> .slice (some ⟨q.1,0,none⟩) (m+1) q.2.1) (fun q k=>w4.heap.size<=q.1/\m+1<=q.2.1/\aG k q.1 (.cells (flat (t.eF m x).reverse++q.2.2).toArray 47)) rfl rfl rfl rfl (bg.of rfl) (fun q w k f h=>⟨h.1,h.2.1,h.2.2.az f⟩) (fun _ _ _ h=>h) (fun w f _=>?_) (fun q=>?_)
 ·refine(pW (J.az f) x (t.part x y) m (by omega) ak.symm (fun F hj e=>?_) (fun F hj=>(n.anc F g (by omega)).1)).mono (fun e k h=>?_)
  ·have l:=(n.anc F g (by omega)).2
   rw[e] at l
   omega
  ·obtain⟨b,o,i,l,I,v,V,W⟩:=h
   exact⟨(b,o,i),l,⟨by have:=f.size;omega,v,V⟩,W⟩
 obtain⟨H,p,i⟩:=q
 simp only
 refine aM.val rfl rfl rfl (oT (j:=1) (ag rfl) rfl (by omega)) ?_
 repeat (apply bW;rfl;rfl;apply aE<;>rfl)
 refine aM.fin (fun w5 af hF _=>?_)
 obtain⟨_,aC,aF,D⟩:=hF
 have ad:=A.trans af
 have ao:t.fv x y=(t.eF m x).take m:=by unfold Tr.fv;rw[Q]
 have an:((t.eF m x).take m).reverse.length=m:=by simp[Tr.cy]
 have al:m+1-1=m:=by omega
 obtain⟨a,d,G,am,O,ac⟩:∃a d G,(if p=1 then 0 else 0+1*8)=a/\d.length=a/\aG w5 H (.cells (d++(flat ((t.eF m x).take m).reverse++G)).toArray 47):=by
  by_cases K:p=1
  ·have ah:m=0:=by omega
   subst ah
   exact⟨0,[],flat (t.eF 0 x).reverse++i,by simp[K],rfl,D⟩
  ·refine⟨8,dc (t.anc m x),i,by simp[K],ai _,?_⟩
   rw[Tr.zA,reverse_append,pX] at D
   simpa[jo] using D
 rw[am,al]
 have P:=nR (c:=p-1) ac (by omega)
 rw[an,O,reverse_reverse] at P
 repeat (first|apply ar|refine qa0 ?_)
 refine SG.call rfl rfl rfl (by repeat' (first|exact True.intro|exact ag rfl|refine And.intro ?_ ?_)) (P.mono (fun e w6 h=>?_))
 obtain⟨l,I,v⟩:=h
 refine⟨_,l,?_⟩
 repeat (first|apply ar|refine ww ?_)
 refine aO (Or.inl rfl) results100 (aD.tmp rfl) ?_
 rw[Q,ao]
 have:=A.size
 exact⟨H,a,p-1,d,G,rfl,by omega,I,⟨O,by omega⟩,ad.aj v (by first|exact aW (by omega)|exact kZ (by omega) (by omega))⟩
end
section
variable{a b p x z:Dg}{t:Tr}
theorem yO(f x:Dg)(d:Nat):aC (Tr.new f d).nodes x=if f=x then some Cu else none:=by
 simp[Tr.new,aC]
theorem o7(f:Dg)(d:Nat):(Tr.new f d).WF:=by
 have g:∀x,(Tr.new f d).has x=true->x=f:=by
  intro x a
  unfold Tr.has at a
  rw[yO] at a
  by_cases e:f=x
  ·exact e.symm
  ·simp[e] at a
 have b:(Tr.new f d).has f=true:=by unfold Tr.has;rw[yO];simp
 have c:(Tr.new f d).ht f=0:=by unfold Tr.ht Tr.nd;rw[yO];simp[Cu]
 refine⟨b,c,b,fun x a h=>absurd (g x a) h,fun x a=>?_,by simp[Tr.new],?_⟩
 ·rw[g x a];exact Nat.le_refl _
 ·show(Tr.new f d).ht f<1
  rw[c];omega
theorem lH(t:Tr)(x p z:Dg):aC (t.put x p).nodes z=if x=z then some ⟨p,t.ht p+1⟩ else aC t.nodes z:=bK _ _ _ _
theorem gF(t:Tr)(x p:Dg):(t.put x p).ht x=t.ht p+1:=by unfold Tr.ht Tr.nd;rw[lH];simp[Tr.ht,Tr.nd]
theorem cT(t:Tr)(h:x≠z):(t.put x p).ht z=t.ht z:=by
 have:(t.put x p).nd z=t.nd z:=by unfold Tr.nd;rw[lH,if_neg h]
 unfold Tr.ht;rw[this]
theorem jk(t:Tr)(h:x≠z):(t.put x p).par z=t.par z:=by
 have:(t.put x p).nd z=t.nd z:=by unfold Tr.nd;rw[lH,if_neg h]
 unfold Tr.par;rw[this]
theorem jl(t:Tr)(x p:Dg):(t.put x p).par x=p:=by unfold Tr.par Tr.nd;rw[lH];simp
theorem fH(t:Tr)(x p z:Dg):(t.put x p).has z=(decide (x=z)||t.has z):=by
 unfold Tr.has;rw[lH];by_cases e:x=z<;>simp[e]
theorem qt(t:Tr)(x p:Dg):(t.put x p).tip=if t.ht t.tip<t.ht p+1 then x else t.tip:=rfl
theorem Dx(a:t.WF)(f:t.has x=false)(d:t.has p=true)(m:t.nodes.length<4096):(t.put x p).WF:=by
 have c:∀{z:Dg},t.has z=true->x≠z:=fun b e=>by rw[e,b] at f;cases f
 have n:=a.top p d
 have j:(t.put x p).ht (t.put x p).tip=if t.ht t.tip<t.ht p+1 then t.ht p+1 else t.ht t.tip:=by
  rw[qt]
  split
  ·exact gF t x p
  ·exact cT t (c a.tip)
 have i:(t.put x p).nodes.length=t.nodes.length+1:=by
  have:aC t.nodes x=none:=Tr.oz (by rw[f];simp)
  show(ca t.nodes x _).length=_
  rw[lU _ this];simp
 refine⟨?_,?_,?_,fun z b l=>?_,fun z b=>?_,by rw[i];omega,?_⟩
 ·show(t.put x p).has t.first=true
  rw[fH,a.first];simp
 ·show(t.put x p).ht t.first=0
  rw[cT t (c a.first)];exact a.h0
 ·rw[qt]
  split
  ·rw[fH];simp
  ·rw[fH,a.tip];simp
 ·by_cases e:x=z
  ·subst e
   rw[jl,gF,fH,d,cT t (c d)]
   simp
  ·have g:t.has z=true:=by rw[fH] at b;simpa[e] using b
   obtain⟨h,k⟩:=a.up z g l
   rw[jk t e,fH,h,cT t e,cT t (c h)]
   exact⟨by simp,k⟩
 ·rw[j]
  by_cases e:x=z
  ·subst e
   rw[gF]
   split<;>omega
  ·have g:t.has z=true:=by rw[fH] at b;simpa[e] using b
   rw[cT t e]
   have:=a.top z g
   split<;>omega
 ·rw[j,i]
  have:=a.low
  split<;>omega
theorem qZ{t:Tr}(c:t.WF):∀(n:Nat) {a b:Dg},t.has a=true->t.has b=true->t.ht a+t.ht b<n->t.fQ n a b=t.fQ n b a
 |0,a,b,_,_,h=>by omega
 |n+1,a,b,j,k,h=>by
  simp only[Tr.fQ]
  by_cases e:a=b
  ·subst e;rfl
  ·have d:¬b=a:=fun f=>e f.symm
   rw[if_neg e,if_neg d]
   obtain⟨g,i,l,_⟩:=c.round j k e
   exact qZ c n g i (by omega)
theorem Br(e:t.WF)(c:t.has a=true)(d:t.has b=true):t.part a b=t.part b a:=by
 unfold Tr.part
 rw[qZ e _ c d (by omega),Nat.add_comm (t.ht a)]
theorem te{t:Tr}(h:t.WF){x p:Dg}(g:t.has x=false):∀(n:Nat) {a b:Dg},t.has a=true->t.has b=true->(t.put x p).fQ n a b=t.fQ n a b
 |0,a,b,_,_=>rfl
 |n+1,a,b,d,f=>by
  have c:∀{z:Dg},t.has z=true->x≠z:=fun k e=>by rw[e,k] at g;cases g
  simp only[Tr.fQ]
  by_cases e:a=b
  ·rw[if_pos e,if_pos e]
  ·rw[if_neg e,if_neg e,cT t (c d),cT t (c f),jk t (c d),jk t (c f)]
   obtain⟨i,j,_,_⟩:=h.round d f e
   exact te h g n i j
theorem Dy(i:t.WF)(c:t.has x=false)(d:t.has a=true)(f:t.has b=true):(t.put x p).part a b=t.part a b:=by
 have g:∀{z:Dg},t.has z=true->x≠z:=fun h e=>by rw[e,h] at c;cases c
 unfold Tr.part
 rw[te i c _ d f,cT t (g d),cT t (g f)]
theorem uu(a:t.WF)(b:t.has x=false)(c:t.has p=true)(k:t.nodes.length<4096)(o:t.ht t.tip<t.ht p+1):(t.put x p).part t.tip x=t.part p t.tip:=by
 have n:=Dx a b c k
 have f:∀{z:Dg},t.has z=true->x≠z:=fun m e=>by rw[e,m] at b;cases b
 have l:t.tip≠x:=fun e=>f a.tip e.symm
 have i:(t.put x p).has t.tip=true:=by rw[fH,a.tip];simp
 have j:(t.put x p).has x=true:=by rw[fH];simp
 obtain⟨_,_,_,d⟩:=n.round i j l
 have g:¬(t.put x p).ht x<=(t.put x p).ht t.tip:=by rw[gF,cT t (f a.tip)];omega
 have h:(t.put x p).ht t.tip<=(t.put x p).ht x:=by omega
 rw[if_neg g,if_pos h,jl] at d
 rw[<-d,Dy a b a.tip c,Br a a.tip c]
theorem vG(t:Tr)(a:Dg):t.sD a a=0:=by unfold Tr.sD;rw[Tr.tq];omega
theorem oK(a:t.WF)(x p:Dg):(t.add x p).WF/\(t.add x p).depth=t.depth/\(t.add x p).first=t.first/\(t.add x p).has t.tip=true/\(t.add x p).ht t.tip=t.ht t.tip/\(t.add x p).sD t.tip (t.add x p).tip<=t.depth/\
  ((t.add x p).tip=t.tip\/((t.add x p).tip≠t.tip/\(t.add x p).ht (t.add x p).tip=t.ht t.tip+1)):=by
 unfold Tr.add
 by_cases c:t.addE x p=0
 ·rw[if_pos c]
  have b:t.has x=false:=by
   cases h:t.has x with
   |false=>rfl
   |true=>simp[Tr.addE,h] at c
  have d:t.has p=true:=by
   cases h:t.has p with
   |true=>rfl
   |false=>simp[Tr.addE,b,h] at c
  have j:t.nodes.length<4096:=by
   by_cases h:4096<=t.nodes.length
   ·simp[Tr.addE,b,d,h] at c
   ·omega
  have o:¬t.depth+t.ht (t.part p t.tip)<t.ht t.tip:=by
   intro h
   have k:¬4096<=t.nodes.length:=by omega
   simp[Tr.addE,b,d,k,Tr.deep,h] at c
  have g:∀{z:Dg},t.has z=true->x≠z:=fun n e=>by rw[e,n] at b;cases b
  have l:(t.put x p).has t.tip=true:=by rw[fH,a.tip];simp
  have i:=cT t (p:=p) (g a.tip)
  refine⟨Dx a b d j,rfl,rfl,l,i,?_,?_⟩
  ·rw[qt]
   by_cases f:t.ht t.tip<t.ht p+1
   ·rw[if_pos f]
    unfold Tr.sD
    rw[uu a b d j f,i]
    have m:=wi a d a.tip
    rw[cT t (g m)]
    omega
   ·rw[if_neg f,vG];omega
  ·rw[qt]
   by_cases f:t.ht t.tip<t.ht p+1
   ·rw[if_pos f]
    refine Or.inr ⟨fun e=>g a.tip e,?_⟩
    rw[gF]
    have:=a.top p d
    omega
   ·rw[if_neg f];exact Or.inl rfl
 ·rw[if_neg c]
  exact⟨a,rfl,rfl,a.tip,rfl,by rw[vG];omega,Or.inl rfl⟩
end
section
variable{x:Dg}
abbrev Xe(w:World)(a:Option Addr)(l:List Dg):Prop:=Sl dc 8 w a l
abbrev Sa(f:FuncId)(args:Array Value)(w:World)(l:List Dg):Prop:=Hn prog dc 8 f args w l
def Tr.line(t:Tr)(x:Dg):List Dg:=if t.has x then(t.eF (t.ht x) x).reverse else[]
theorem Tr.fl{t:Tr}(h:t.has x=true):(t.line x).length=t.ht x+1:=by simp[Tr.line,h,Tr.cy]
theorem Tr.BL{t:Tr}(h:t.has x=false):t.line x=[]:=by simp[Tr.line,h]
theorem Tr.WF.yZ{t:Tr}(a:t.WF):t.line t.first=[t.first]:=by simp[Tr.line,a.first,a.h0,Tr.eF]
theorem Tr.WF.Gx{t:Tr}(e:t.WF)(a:t.has x=true)(d:x≠t.first):t.line x=t.line (t.par x)++[x]:=by
 obtain⟨b,c⟩:=e.up x a d
 simp only[Tr.line,a,b,if_true]
 rw[c,Tr.eF,reverse_cons]
theorem Tr.WF.Hh{t:Tr}(a:t.WF)(c:t.has x=true):t.anc (t.ht x) x=t.first:=by
 obtain⟨b,d⟩:=a.anc (t.ht x) c (Nat.le_refl _)
 exact a.oB b (by omega)
attribute [local irreducible] CG NG SG aP aM Row aG aF
theorem j4{w:World}{k y:Nat}{t:Tr}(o:cO w k y t)(f:t.WF)(x:Dg):Sa 55 #[.pointer (some ⟨k,0,none⟩),dv x] w (t.line x):=by
 refine bN func55 rfl ntmps55 rfl ?_
 repeat apply ar
 refine SG.box rfl rfl rfl (ag rfl) (fun v L r N E=>?_)
 have G:=o.az r
 have n:Row L v 0 (dc x):=Row.all E rfl
 repeat (first|apply ar|(apply au;rfl;(first|apply aB|apply aE|apply bf)<;>first|rfl|assumption|exact wn|apply ai))
 refine SG.ret rfl rfl rfl (by repeat' (first|exact True.intro|exact ag rfl|refine And.intro ?_ ?_)) (dZ G x) (fun M s=>?_)
 have i:=r.trans s
 have p:=o.az i
 have n:=n.az s
 by_cases a:t.has x=true
 ·have H:¬t.height x<0:=by rw[Tr.height,Tr.fF a];simp only;omega
  repeat (first|apply ar|refine un ?_)
  refine bA rfl ?_
  repeat apply ar
  have P:=p.r0
  have O:=f.bound a
  refine CG.fh mixed [0,1,2,3,4,5,6,7] [6] (by kernel_rfl) ?_
  repeat (apply bW;rfl;rfl;(first|apply aB|apply bf|apply aU|apply bR)<;>first|rfl|assumption|exact wn|apply ai)
  refine aM.kQ (X:=Nat×Nat×List Value) (vs:=[.pointer (some ⟨k,0,none⟩),dv x,dv t.first]) (fun q=> .slice (some ⟨q.1,0,none⟩) (t.ht x+1) q.2.1) (fun q l=>(t.ht x+1<=q.2.1/\M.heap.size<=q.1)/\aG l q.1 (.cells (flat (t.eF (t.ht x) x).reverse++q.2.2).toArray 47)) rfl rfl rfl rfl (bg.of rfl) (fun q w l g h=>⟨h.1,h.2.az g⟩) (fun _ _ _ h=>h) (fun w g _=>?_) (fun q=>?_)
  ·refine(pW (p.az g) x t.first (t.ht x) (by omega) (f.Hh a) (fun j I e=>?_) (fun j I=>(f.anc j a (by omega)).1)).mono (fun e l h=>?_)
   ·have d:=(f.anc j a (by omega)).2
    rw[e,f.h0] at d
    omega
   ·obtain⟨b,c,u,d,m,B,C,D⟩:=h
    exact⟨(b,c,u),d,⟨⟨B,by have:=g.size;omega⟩,C⟩,D⟩
  obtain⟨z,A,u⟩:=q
  simp only
  repeat (apply bW;rfl;rfl;apply aE<;>rfl)
  refine aM.fin (fun S J F _=>?_)
  obtain⟨_,d,m⟩:=F
  repeat apply ar
  refine aO (Or.inl rfl) results55 (aD.tmp rfl) ?_
  have R:=i.size
  refine⟨some ⟨z,0,none⟩,A,by rw[Tr.fl a],⟨by rw[Tr.fl a];exact d.1,fun b Q e=>by simp only[Option.some.injEq,Addr.mk.injEq] at e;omega,?_⟩,i.trans J⟩
  simp only[Tr.line,a,if_true]
  exact Sl.iL ai (pre:=[]) m
 ·have H:t.height x<0:=by rw[Tr.height,Tr.oz a];simp only;omega
  have K:t.has x=false:=by simpa using a
  repeat (first|apply ar|refine ul ?_)
  refine bO rfl ?_
  repeat (first|apply ar|refine wt ?_)
  refine aO (Or.inl rfl) results55 (aD.tmp rfl) ?_
  rw[Tr.BL K]
  exact⟨none,0,rfl,sr.nil,i⟩
theorem fM(t:Tr)(x y:Dg):(t.fv x y).length=t.sD x y:=by simp[Tr.fv,Tr.cy]
end
end Go.Proofs.YtpnjgjddabeapaaGreatDoor
