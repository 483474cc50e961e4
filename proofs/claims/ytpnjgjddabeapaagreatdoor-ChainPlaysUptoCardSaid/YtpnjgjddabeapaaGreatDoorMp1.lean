import Derived.Test.YtpnjgjddabeapaaGreatDoorCards
import Derived.Test.YtpnjgjddabeapaaGreatDoorTie
import Derived.Deep.DeepHandedRow
import Derived.Test.YtpnjgjddabeapaaGreatDoorProg
import Derived.Tactics
import Derived.Orders
import Derived.Scope
import Derived.KernelRfl
import Derived.Laws.Entries
import Derived.ChangeKeysEq
import Derived.DeepKeys4
import Derived.WideKeyArr
import Derived.IntWalk
import Derived.Maps.Keyed
import Derived.Laws.OwnMore
import Derived.ProofKit
import Derived.OpenShut
import Derived.Carry
import Derived.Deep.Slices
import Derived.Maps.RangeRun
import Derived.Laws.IdiomStrings
import Derived.Laws.Strings
import Derived.Lib.AppendStr
import Derived.Laws.MakeOwn
import Derived.WideKeyEntry
import Derived.Shelf.SlSortCmp.NoneTotal
import Derived.Lib.BytesEntry
import Derived.RangeFuncSeq
import Derived.TacticsIn
import Derived.RangeFuncLeaves
import Derived.Below
import Derived.OrdersIn
namespace Go.Proofs.YtpnjgjddabeapaaGreatDoor
set_option linter.all false
set_option maxHeartbeats 400000000
open List Or Go.Proofs.Tryz
section
variable{S T:List Nat}{a b n t x:Nat}{ρ:Operand->Value}{P:Program}{v:Value}{R:Value->World->Prop}{c w w':World}
structure Kp(S:List Nat)(w w':World):Prop where
 size:w.heap.size<=w'.heap.size
 blk:∀b,b<w.heap.size->b∉S->w'.heap[b]?=w.heap[b]?
 os:w'.os=w.os
 tape:w'.tape=w.tape
 output:w'.output=w.output
 fz:∀a,a.block<w.heap.size->w'.frozen? a=w.frozen? a
 drawn:w.drawn<=w'.drawn
theorem Kp.refl(S:List Nat)(w:World):Kp S w w:=⟨Nat.le_refl _,fun _ _ _=>rfl,rfl,rfl,rfl,fun _ _=>rfl,Nat.le_refl _⟩
theorem Kp.trans{a b:World}(h:Kp S a b)(k:Kp S b c):Kp S a c:=
 ⟨Nat.le_trans h.size k.size,fun i e f=>(k.blk i (Nat.lt_of_lt_of_le e h.size) f).trans (h.blk i e f),k.os.trans h.os,k.tape.trans h.tape,k.output.trans h.output,fun a d=>(k.fz a (Nat.lt_of_lt_of_le d h.size)).trans (h.fz a d),Nat.le_trans h.drawn k.drawn⟩
theorem Kp.mono(h:Kp S w w')(e:∀x∈S,x∈T):Kp T w w':=
 ⟨h.size,fun b a d=>h.blk b a (fun c=>d (e b c)),h.os,h.tape,h.output,h.fz,h.drawn⟩
theorem Kp.any(h:Kp [] w w'):Kp S w w':=h.mono (fun _ h=>by cases h)
theorem Kp.aj{a b:World}(h:Kp S a b)(k:Kp T b c)(g:∀x∈T,x∈S\/a.heap.size<=x):Kp S a c:=
 ⟨Nat.le_trans h.size k.size,fun i e f=>(k.blk i (Nat.lt_of_lt_of_le e h.size) (fun j=>(g i j).elim f (fun l=>by omega))).trans (h.blk i e f),k.os.trans h.os,k.tape.trans h.tape,k.output.trans h.output,fun a d=>(k.fz a (Nat.lt_of_lt_of_le d h.size)).trans (h.fz a d),Nat.le_trans h.drawn k.drawn⟩
theorem Kp.drew{a:World}(h:Kp S a w):Kp S a {w with drawn:=w.drawn+1}:=⟨h.size,h.blk,h.os,h.tape,h.output,h.fz,Nat.le_succ_of_le h.drawn⟩
def aG(w:World)(b:Nat)(o:Obj):Prop:=w.heap[b]?=some o
theorem aG.lt{o:Obj}(h:aG w b o):b<w.heap.size:=(Array.getElem?_eq_some_iff.1 h).1
theorem aG.kp{o:Obj}(h:aG w b o)(k:Kp S w w')(a:b∉S):aG w' b o:=(k.blk b h.lt a).trans h
theorem aG.az{o:Obj}(h:aG w b o)(k:Kp [] w w'):aG w' b o:=h.kp k (by simp)
theorem aG.uniq{o o':Obj}(h:aG w b o)(a:aG w b o'):o=o':=Option.some.inj (h.symm.trans a)
def Obj.soft:Obj->Bool
 | .cells _ _ (lo,hi)=>Nat.ble hi lo
 |_=>true
theorem ia{a:Addr}{o:Obj}(h:w.heap[a.block]?=some o)(b:Obj.soft o=true):w.frozen? a=false:=by
 unfold World.frozen?
 rw[h]
 cases o<;>try rfl
 rename_i c e f
 obtain⟨g,d⟩:=f
 simp only[Obj.soft,Nat.ble_eq] at b
 simp
 omega
theorem xx{a:Addr}(h:w.heap[a.block]?=none):w.frozen? a=false:=by
 unfold World.frozen?
 rw[h]
theorem jn{a:Addr}(h:w'.heap[a.block]?=w.heap[a.block]?):w'.frozen? a=w.frozen? a:=by
 unfold World.frozen?
 rw[h]
theorem Kp.push(w:World)(o:Obj)(c:Obj.soft o=true):Kp [] w {w with heap:=w.heap.push o}:=by
 refine⟨by simp,fun b d _=>?_,rfl,rfl,rfl,fun a _=>?_,Nat.le_refl _⟩
 ·show(w.heap.push o)[b]?=_
  rw[Array.getElem?_push,if_neg (by omega)]
 ·by_cases h:a.block=w.heap.size
  ·rw[ia (o:=o) (by show(w.heap.push o)[a.block]?=_;rw[h];simp) c,xx (by rw[h];simp)]
  ·refine jn ?_
   show(w.heap.push o)[a.block]?=_
   rw[Array.getElem?_push,if_neg h]
theorem aG.push(w:World)(o:Obj):aG {w with heap:=w.heap.push o} w.heap.size o:=by simp[aG]
theorem Kp.set(w:World){o o':Obj}(h:aG w b o)(f:Obj.soft o=true)(g:Obj.soft o'=true):Kp [b] w {w with heap:=w.heap.setIfInBounds b o'}:=by
 refine⟨by simp,fun i j d=>?_,rfl,rfl,rfl,fun a _=>?_,Nat.le_refl _⟩
 ·show(w.heap.setIfInBounds b o')[i]?=_
  rw[Array.getElem?_setIfInBounds_ne (fun e=>d (by simp[e]))]
 ·by_cases e:a.block=b
  ·rw[ia (o:=o') (by show(w.heap.setIfInBounds b o')[a.block]?=_;rw[e];simp[h.lt]) g,ia (o:=o) (by rw[e];exact h) f]
  ·refine jn ?_
   show(w.heap.setIfInBounds b o')[a.block]?=_
   rw[Array.getElem?_setIfInBounds_ne (fun c=>e c.symm)]
theorem aG.set{o:Obj}(h:aG w b o)(o':Obj):aG {w with heap:=w.heap.setIfInBounds b o'} b o':=by simp[aG,h.lt]
theorem bQ(h:x≠a):x∉[a]:=by simp[h]
theorem gG(h:x≠a)(c:x≠b):x∉[a,b]:=by simp[h,c]
theorem aW(h:n<=a):∀x∈[a],x∈S\/n<=x:=by intro x b;simp at b;right;omega
theorem kZ(h:n<=a)(d:n<=b):∀x∈[a,b],x∈S\/n<=x:=by intro x c;simp at c;right;omega
abbrev Env:=List (Nat×Value)
def look:Env->Nat->Option Value
 |[],_=>none
 |(s,v)::L,t=>bif Nat.beq s t then some v else look L t
theorem jI(t:Nat)(v:Value)(L:Env):look ((t,v)::L) t=some v:=by simp[look]
theorem oq{s:Nat}{u:Value}{L:Env}(h:s≠t):look ((s,u)::L) t=look L t:=by
 have:Nat.beq s t=false:=by rw[<-Bool.not_eq_true,Nat.beq_eq];exact h
 simp[look,this]
structure Fits(n:Nat)(a:Act)(L:Env):Prop where
 slot:∀t v,look L t=some v->a.tmps[t]?=some v
 size:a.tmps.size=n
 defers:a.defers=[]
def bH(L:Env):Operand->Value
 | .tmp t=>(look L t).getD undef
 | .const v=>v
 | .global g=> .pointer (some ⟨g,0,none⟩)
 | .func f=> .func (.func f) #[] #[]
theorem F3{L:Env}(h:look L t=some v):bH L (.tmp t)=v:=by simp[bH,h]
theorem Bf{L:Env}:bH L (.const v)=v:=rfl
def known(L:Env):Operand->Bool
 | .tmp t=>(look L t).isSome
 |_=>true
theorem Fits.eval{a:Act}{L:Env}(h:Fits n a L){x:Operand}(c:known L x=true):a.eval x=bH L x:=by
 cases x with
 |tmp t=>
  simp only[known,Option.isSome_iff_exists] at c
  obtain⟨v,b⟩:=c
  have:=h.slot t v b
  simp[Act.eval,bH,b,Array.getD_eq_getD_getElem?,this]
 |_=>rfl
theorem Fits.sub{a:Act}{L b:Env}(h:Fits n a L)(c:∀t v,look b t=some v->look L t=some v):Fits n a b:=
 ⟨fun t v d=>h.slot t v (c t v d),h.size,h.defers⟩
def kept(ks:List Nat):Env->Env
 |[]=>[]
 |(s,v)::L=>bif ks.elem s then(s,v)::kept ks L else kept ks L
theorem Fits.put{a:Act}{L:Env}(h:Fits n a L)(d:Nat)(v:Value)(c:d<n):Fits n (a.put (some d) v) ((d,v)::L):=by
 refine⟨fun t u b=>?_,by simp[Act.put,h.size],h.defers⟩
 by_cases e:d=t
 ·subst e
  rw[jI] at b
  cases b
  simp[Act.put,h.size,c]
 ·rw[oq e] at b
  simp only[Act.put]
  rw[Array.getElem?_setIfInBounds_ne e]
  exact h.slot t u b
def bD(P:Program)(ρ:Operand->Value)(o:Oper)(w:World)(R:Value->World->Prop):Prop:=
 match(execOp ρ o).run P w with
 | .ok (.value v) w'=>R v w'
 | .ok .skip w'=>R undef w'
 | .ok (.enter f args) w'=>Calls P f args w' fun e w''=>∃v,e= .returned v/\R v w''
 |_=>False
theorem bD.mono{o:Oper}{c:Value->World->Prop}(h:bD P ρ o w R)(b:∀v a,R v a->c v a):bD P ρ o w c:=by
 unfold bD at*
 generalize (execOp ρ o).run P w=r at*
 cases r with
 |ok n a=>
  cases n<;>simp only at h⊢
  case value v=>exact b _ _ h
  case skip=>exact b _ _ h
  case enter f args=>exact Calls.mono h (fun e i ⟨v,g,d⟩=>⟨v,g,b _ _ d⟩)
 |halt x a=>exact h
theorem bD.wp{o:Oper}{a:Act}{K:Act->World->Prop}{Q:Exit->Act->World->Prop}
  (h:bD P a.eval o w R) (c:∀v b,R v b->K (a.put o.dst v) b):o.wp P a w K Q:=by
 unfold bD at h
 unfold Oper.wp
 generalize (execOp a.eval o).run P w=r at*
 cases r with
 |ok n b=>
  cases n<;>simp only[Oper.upon] at h⊢
  case value v=>exact c _ _ h
  case skip=>exact c _ _ h
  case enter f args=>exact Calls.mono h (fun e i ⟨v,g,d⟩=>by subst g;exact c _ _ d)
 |halt x b=>exact h.elim
def fm:Op->Bool
 | .select .. =>true
 |_=>false
theorem bD.congr{c:Operand->Value}{o:Oper}(a:fm o.op=false)
  (h:∀x∈o.op.operands,ρ x=c x) (d:bD P ρ o w R):bD P c o w R:=by
 unfold bD at*
 rw[<-execOp_congr o (fun f b e=>by rw[e] at a;cases a) h]
 exact d
end
section
variable{i j:Nat}{D:Nat->Bool}
def eE(o:Oper):List Nat:=(o.after.toList.filter (Region.binds .any)).map (·.on)
def E4(acc:List Nat)(l:List Nat):Nat:=l.foldl (fun s j=>s|||2^j|||acc.getD j 0) 0
def uT:List Oper->List Nat->List Nat
 |[],acc=>acc
 |o::r,acc=>uT r (acc++[E4 acc (eE o)])
def kR(ops:List Oper)(i j:Nat):Bool:=((uT ops []).getD i 0).testBit j
theorem xy(a:List Nat)(j:Nat):∀(l:List Nat) (s:Nat),(l.foldl (fun s j=>s|||2^j|||a.getD j 0) s).testBit j=true->s.testBit j=true\/∃e∈l,e=j\/(a.getD e 0).testBit j=true
 |[],s,h=>Or.inl h
 |e::l,s,h=>by
  rcases xy a j l _ h with h|⟨b,d,c⟩
  ·simp only[Nat.testBit_or,Bool.or_eq_true,Nat.testBit_two_pow,decide_eq_true_eq] at h
   rcases h with(h|h)|h
   ·exact Or.inl h
   ·exact Or.inr ⟨e,by simp,Or.inl h⟩
   ·exact Or.inr ⟨e,by simp,Or.inr h⟩
  ·exact Or.inr ⟨b,by simp[d],c⟩
theorem rV:∀(r:List Oper) (a:List Nat) (i:Nat),i<a.length->(uT r a).getD i 0=a.getD i 0
 |[],_,_,_=>rfl
 |o::r,a,i,h=>by
  simp only[uT]
  rw[rV r _ i (by simp;omega)]
  simp[getD_eq_getElem?_getD,getElem?_append_left h]
theorem xO:∀(r:List Oper) (a:List Nat) (k:Nat) (o:Oper),r[k]?=some o->∃b:List Nat,b.length=a.length+k/\(∀i,i<b.length->b.getD i 0=(uT r a).getD i 0)/\(uT r a).getD (a.length+k) 0=E4 b (eE o)
 |[],_,_,_,h=>by simp at h
 |e::r,a,0,o,h=>by
  simp at h
  subst h
  refine⟨a,rfl,fun i c=>(rV _ _ i c).symm,?_⟩
  simp only[uT,Nat.add_zero]
  rw[rV r _ a.length (by simp)]
  simp[getD_eq_getElem?_getD]
 |e::r,a,k+1,o,h=>by
  simp only[getElem?_cons_succ] at h
  obtain⟨b,f,g,d⟩:=xO r (a++[E4 a (eE e)]) k o h
  simp only[length_append,length_singleton] at f d
  refine⟨b,by omega,fun i c=>?_,?_⟩
  ·simp only[uT];exact g i c
  ·simp only[uT]
   rw[show a.length+(k+1)=a.length+1+k from by omega]
   exact d
theorem fp{a:List Oper}(p:∀i o,a[i]?=some o->D i=true->∀e∈eE o,D e=true):
  ∀(i:Nat) (o:Oper),a[i]?=some o->(∀e∈eE o,D e=true)->∀j,kR a i j=true->D j=true:=by
 intro i
 induction i using Nat.strongRecOn with
 |_ i r=>
  intro o k d j b
  obtain⟨l,m,n,c⟩:=xO a [] i o k
  simp only[length_nil,Nat.zero_add] at m c
  unfold kR at b
  rw[c] at b
  rcases xy l j _ 0 b with h|⟨e,f,h⟩
  ·simp at h
  ·rcases h with rfl|h
   ·exact d _ f
   ·by_cases q:e<i
    ·have s:i<a.length:=(List.getElem?_eq_some_iff.1 k).1
     have g:a[e]?=some a[e]:=by simp
     refine r e q _ g (p e _ g (d e f)) j ?_
     unfold kR
     rw[<-n e (by omega)]
     exact h
    ·rw[getD_eq_getElem?_getD,getElem?_eq_none (by omega)] at h
     simp at h
def im(d:Option Nat)(v:Value)(L:Env):Env:=
 match d with
 |some d=>(d,v)::L
 |none=>L
def want(ops:List Oper)(L:Env)(o:Oper):Option Bool:=
 match o.guard with
 |none=>some true
 |some (j,b)=>match(ops[j]?).bind (·.dst) with
  |none=>none
  |some d=>match look L d with
   |some (.bool c)=>some (c==b)
   |some _=>some false
   |none=>none
def Plain(P:Program)(S:List Nat)(w0:World)(F:World->Prop)(L:Env)(o:Oper)(v:Value):Prop:=
 o.op.operands.toList.all (known L)=true/\∀w,Kp S w0 w->F w->bD P (bH L) o w (fun v' w'=>v'=v/\Kp [] w w')
def Fm(P:Program)(S:List Nat)(w0:World)(F R:World->Prop)(L:Env)(o:Oper)(v:Value):Prop:=
 o.op.operands.toList.all (known L)=true/\∀w,Kp S w0 w->F w->R w->bD P (bH L) o w (fun v' w'=>v'=v/\Kp [] w w')
def cH(S:List Nat)(F:World->Prop):Prop:=∀w w',Kp S w w'->F w->F w'
def HT(P:Program)(S:List Nat)(w0:World)(F R:World->Prop)(L:Env)(o:Oper)(X:Type)(val:X->Value)(F' R':X->World->Prop):Prop:=
 o.op.operands.toList.all (known L)=true/\(∀x,cH [] (F' x))/\(∀x,cH [] (R' x))/\
  ∀w,Kp S w0 w->F w->R w->bD P (bH L) o w (fun v w'=>∃x,v=val x/\(F w'/\F' x w')/\R' x w'/\Kp S w0 w')
def aM(P:Program)(S:List Nat)(w0:World)(ops:List Oper)(gh:List Nat)(K:Env->(World->Prop)->(World->Prop)->Prop):List Nat->Env->(World->Prop)->(World->Prop)->Prop
 |[],L,F,R=>K L F R
 |i::ord,L,F,R=>∃o,ops[i]?=some o/\
   ((want ops L o=some false/\aM P S w0 ops gh K ord (im o.dst undef L) F R)\/
    (want ops L o=some true/\∃v,Plain P S w0 F L o v/\aM P S w0 ops gh K ord (im o.dst v L) F R)\/
    (want ops L o=some true/\(i+1000)∈gh/\∃v,Fm P S w0 F R L o v/\aM P S w0 ops gh K ord (im o.dst v L) F R)\/
    (want ops L o=some true/\i∈gh/\∃(X:Type) (val:X->Value) (F' R':X->World->Prop),HT P S w0 F R L o X val F' R'/\
     ∀x,aM P S w0 ops gh K ord (im o.dst (val x) L) (fun w=>F w/\F' x w) (R' x)))
structure qc where
 i:Nat
 o:Oper
 v:Value
def env(L0:Env):List qc->Env
 |[]=>L0
 |e::r=>im e.o.dst e.v (env L0 r)
def kd(L0:Env)(D:Nat->Bool):List qc->Nat->Option Value
 |[],t=>look L0 t
 |e::r,t=>if e.o.dst=some t then(if D e.i=true then some e.v else look L0 t) else kd L0 D r t
theorem pd{d:Option Nat}{v:Value}{L:Env}{t:Nat}:look (im d v L) t=if d=some t then some v else look L t:=by
 cases d with
 |none=>simp[im]
 |some d=>
  by_cases h:d=t
  ·subst h;simp[im,jI]
  ·simp[im,oq h,h]
theorem rN{L0:Env}{t:Nat}:∀(l:List qc),(∀e∈l,e.o.dst≠some t)->look (env L0 l) t=look L0 t
 |[],_=>rfl
 |e::r,h=>by
  simp only[env]
  rw[pd,if_neg (h e (by simp)),rN r (fun e a=>h e (by simp[a]))]
theorem tP{L0:Env}{D:Nat->Bool}{t:Nat}:∀(l:List qc),(∀e∈l,e.o.dst≠some t)->kd L0 D l t=look L0 t
 |[],_=>rfl
 |e::r,h=>by
  simp only[kd]
  rw[if_neg (h e (by simp)),tP r (fun e a=>h e (by simp[a]))]
theorem ib{L0:Env}{D:Nat->Bool}{t:Nat}:∀(l:List qc),(∀e∈l,e.o.dst=some t->D e.i=true)->kd L0 D l t=look (env L0 l) t
 |[],_=>rfl
 |e::r,h=>by
  simp only[kd,env]
  rw[pd]
  by_cases a:e.o.dst=some t
  ·rw[if_pos a,if_pos a,if_pos (h e (by simp) a)]
  ·rw[if_neg a,if_neg a,ib r (fun e b=>h e (by simp[b]))]
def my(l:List qc):Prop:=l.Pairwise (fun a b=>∀t,a.o.dst=some t->b.o.dst≠some t)
theorem AL{L0:Env}{D:Nat->Bool}{t:Nat}{x:qc}:∀(pre post:List qc),my (pre++x::post)->
  (∀e∈post,e.o.dst=some t->D e.i=true)->(∀e∈pre,e.o.dst=some t->D e.i=false)->(x.o.dst=some t->D x.i=false)->
  kd L0 D (pre++x::post) t=look (env L0 post) t
 |[],post,g,c,d,f=>by
  simp only[nil_append,kd]
  by_cases a:x.o.dst=some t
  ·rw[if_pos a,if_neg (by simp[f a])]
   rw[rN post (fun e b=>(pairwise_cons.1 g).1 e b t a)]
  ·rw[if_neg a]
   exact ib post c
 |p::pre,post,g,c,d,f=>by
  simp only[cons_append,kd]
  have h:=pairwise_cons.1 g
  by_cases a:p.o.dst=some t
  ·rw[if_pos a,if_neg (by simp[d p (by simp) a])]
   rw[rN post (fun e b=>h.1 e (by simp[b]) t a)]
  ·rw[if_neg a]
   exact AL pre post h.2 c (fun e b=>d e (by simp[b])) f
def fw(D:Nat->Bool)(i:Nat)(j:Nat):Bool:=if j=i then true else D j
theorem bL(h:j≠i):fw D i j=D j:=by simp[fw,h]
theorem cW:fw D i i=true:=by simp[fw]
theorem jV(h:D j=true):fw D i j=true:=by unfold fw;split<;>simp[h]
theorem jL{L0:Env}{D:Nat->Bool}{t i:Nat}:∀(m:List qc),(∀a∈m,a.i≠i)->kd L0 (fw D i) m t=kd L0 D m t
 |[],_=>rfl
 |q::m,b=>by simp only[kd,bL (b q (by simp)),jL m (fun a c=>b a (by simp[c]))]
theorem rP{L0:Env}{D:Nat->Bool}{t:Nat}{x:qc}:∀(l:List qc),my l->x∈l->(∀e∈l,e.i=x.i->e=x)->
  kd L0 (fw D x.i) l t=if x.o.dst=some t then some x.v else kd L0 D l t
 |[],_,g,_=>by cases g
 |e::r,q,g,d=>by
  have j:=pairwise_cons.1 q
  simp only[kd]
  by_cases f:e=x
  ·subst f
   by_cases a:e.o.dst=some t
   ·simp[a,cW]
   ·simp only[a,if_false]
    by_cases k:e∈r
    ·have:=rP (L0:=L0) (D:=D) (t:=t) r j.2 k (fun c b=>d c (by simp[b]))
     rw[this,if_neg a]
    ·exact jL r (fun c b n=>k ((d c (by simp[b]) n)▸b))
  ·have p:e.i≠x.i:=fun h=>f (d e (by simp) h)
   have m:x∈r:=by
    rcases mem_cons.1 g with h|h
    ·exact absurd h.symm f
    ·exact h
   by_cases a:e.o.dst=some t
   ·have s:x.o.dst≠some t:=j.1 x m t a
    simp[a,s,bL p]
   ·simp only[a,if_false]
    exact rP r j.2 m (fun c b=>d c (by simp[b]))
end
section
variable{a:Act}{L:Env}{o:Oper}
structure Vr where
 al:Nat
 pt:Nat
 d:Nat
 T:TypeId
 x:Operand
 z:Array Value
 c:Array Value
def xj(ops:List Oper)(o:Oper):List Nat:=o.looksAt ops.toArray
def dA(ops:List Oper)(i:Nat):Option Nat:=(ops[i]?).bind (·.dst)
def jt:List Nat->Bool
 |[]=>true
 |x::l=> !l.elem x&&jt l
theorem fk:∀(l:List Nat),jt l=true->l.Nodup
 |[],_=>nodup_nil
 |x::l,h=>by
  simp only[jt,Bool.and_eq_true,Bool.not_eq_true'] at h
  refine nodup_cons.2 ⟨fun b=>?_,fk l h.2⟩
  have a:=h.1
  rw[elem_eq_mem] at a
  exact absurd b (of_decide_eq_false a)
def pR(ops:List Oper)(gh:List Nat)(vd:List Nat):List Nat->List Nat->Bool
 |_,[]=>true
 |pre,i::rest=>
  ((ops[i]?).map fun o=>(xj ops o).all fun t=>
   pre.all (fun j=> !(dA ops j==some t)||kR ops i j)&&rest.all (fun j=> !(dA ops j==some t)||kR ops j i)&& !vd.elem t).getD false&&
  (!gh.elem i||(rest.all (fun j=>kR ops j i)&&pre.all (fun j=> !gh.elem (j+1000)||kR ops i j)))&&pR ops gh vd (i::pre) rest
def DJ:Operand->List Nat
 | .tmp t=>[t]
 |_=>[]
def HN(n:Nat)(ops:List Oper)(ord gh:List Nat)(vs:List (Nat×Nat×Nat×Operand)):Bool:=
 ops.all (fun o=> !fm o.op)&&ops.all (fun o=>o.dst.all (fun d=>Nat.blt d n))&&jt (ops.filterMap (·.dst))&&
 (range ops.length).all (fun i=>ord.elem i||vs.any (fun v=>Nat.beq v.1 i||Nat.beq v.2.1 i))&&jt ord&&
 pR ops gh (vs.map (·.2.2.1)) [] ord&&ord.all (fun i=>Nat.blt i ops.length)&&
 ((range ops.length).all fun i=>((ops[i]?).map fun o=>(eE o).all (fun e=>Nat.blt e i)).getD false)&&
 jt (vs.map (·.1)++vs.map (·.2.1)++ord)&&
 vs.all (fun v=>kR ops v.2.1 v.1&&(DJ v.2.2.2).all (fun t=> !(vs.map (·.2.2.1)).elem t&&ord.all (fun j=> !(dA ops j==some t)||kR ops v.2.1 j)))&&
 (vs.isEmpty||gh.isEmpty)
theorem tR{p q:Nat->Bool}:∀(l:List Nat) (h:∀x,q x=true->p x=true) (i:Nat),i∈l->p i=true->q i=false->l.countP q<l.countP p
 |[],_,_,a,_,_=>by cases a
 |y::l,h,i,a,c,d=>by
  have f:∀(m:List Nat),m.countP q<=m.countP p:=fun m=>countP_mono_left (fun x _=>h x)
  rw[countP_cons,countP_cons]
  by_cases e:y=i
  ·subst e
   have:=f l
   simp[c,d]
   omega
  ·have g:i∈l:=by
    rcases mem_cons.1 a with h|h
    ·exact absurd h.symm e
    ·exact h
   have:=tR l h i g c d
   by_cases b:q y=true
   ·simp[b,h y b];omega
   ·simp[b];omega
section
variable {P:Program} {n:Nat} {ops:List Oper} {Q:Exit->Act->World->Prop} {S:List Nat} {w0:World} {L0:Env} {ord0 gh:List Nat} {vs:List Vr}
def mz(vs:List Vr):List (Nat×Nat×Nat×Operand):=vs.map (fun v=>(v.al,v.pt,v.d,v.x))
def Lj(P:Program)(S:List Nat)(w0:World)(ops:List Oper)(gh:List Nat)(L0:Env)(F R:World->Prop)(e:qc)(post:List qc):Prop:=
 (want ops (env L0 post) e.o=some true/\Plain P S w0 F (env L0 post) e.o e.v)\/(want ops (env L0 post) e.o=some false/\e.v=undef)\/(want ops (env L0 post) e.o=some true/\(e.i+1000)∈gh/\Fm P S w0 F R (env L0 post) e.o e.v)
theorem Lj.mono{F a R b:World->Prop}{e:qc}{post:List qc}(h:Lj P S w0 ops gh L0 F R e post)(c:∀w,a w->F w)(d:(e.i+1000)∉gh):Lj P S w0 ops gh L0 a b e post:=by
 rcases h with⟨h1,h2,h3⟩|h|⟨_,h,_⟩
 ·exact Or.inl ⟨h1,h2,fun w g f=>h3 w g (c w f)⟩
 ·exact Or.inr (Or.inl h)
 ·exact absurd h d
structure fq(P:Program)(ops:List Oper)(L:Env)(v:Vr):Prop where
 al:∃oa,ops[v.al]?=some oa/\oa.op= .alloc v.T/\oa.dst=some v.d/\oa.guard=none
 pt:∃op,ops[v.pt]?=some op/\op.op= .store v.T (.tmp v.d) v.x/\op.dst=none/\op.guard=none
 kn:known L v.x=true
 runAl:∀w:World,(Instr.alloc v.T true (.tuple #[])).run P w= .ok (.pointer (some ⟨w.heap.size,0,none⟩)) {w with heap:=w.heap.push (.cells v.z v.T)}
 runPt:∀(w:World) (b:Nat),aG w b (.cells v.z v.T)->(Instr.storeAt v.T (.pointer (some ⟨b,0,none⟩)) (bH L v.x)).run P w= .ok () {w with heap:=w.heap.setIfInBounds b (.cells v.c v.T)}
structure Fin(n:Nat)(S:List Nat)(w0:World)(vs:List Vr)(L:Env)(F R:World->Prop)(β:Nat->Nat)(a:Act)(w:World):Prop where
 fits:Fits n a (vs.map (fun v=>(v.d,Value.pointer (some ⟨β v.al,0,none⟩)))++L)
 kp:Kp S w0 w
 hF:F w
 hR:R w
 vw:∀v∈vs,w0.heap.size<=β v.al/\aG w (β v.al) (.cells v.c v.T)
 vd:∀v∈vs,∀v'∈vs,v.al≠v'.al->β v.al≠β v'.al
structure St(P:Program)(n:Nat)(ops:List Oper)(gh:List Nat)(S:List Nat)(w0:World)(L0:Env)(ord0:List Nat)(vs:List Vr)
  (D:Nat->Bool) (Dv:List qc) (ord:List Nat) (F R:World->Prop) (β:Nat->Nat) (a:Act) (w:World):Prop where
 closed:∀(i:Nat) (o:Oper),ops[i]?=some o->D i=true->∀e∈eE o,D e=true
 fresh:∀i∈ord,D i=false
 idx:(Dv.map (·.i)).reverse++ord=ord0
 ent:∀e∈Dv,ops[e.i]?=some e.o
 obl:∀pre e post,Dv=pre++e::post->D e.i=false->Lj P S w0 ops gh L0 F R e post
 size:a.tmps.size=n
 defers:a.defers=[]
 frame:∀t v,kd L0 D Dv t=some v->(∀x∈vs,x.d≠t)->a.tmps[t]?=some v
 vfr:∀x∈vs,D x.al=true->a.tmps[x.d]?=some (.pointer (some ⟨β x.al,0,none⟩))
 kp:Kp S w0 w
 hF:F w
 hR:R w
 vw:∀x∈vs,D x.al=true->w0.heap.size<=β x.al/\aG w (β x.al) (.cells (if D x.pt=true then x.c else x.z) x.T)
 vd:∀x∈vs,∀y∈vs,D x.al=true->D y.al=true->x.al≠y.al->β x.al≠β y.al
theorem dx{r:Bool}(c:∀t∈xj ops o,∀v,look L t=some v->a.tmps[t]?=some v)(h:want ops L o=some r):
  Region.wanted o (yielded ops.toArray a.tmps)=r:=by
 unfold want at h
 unfold Region.wanted
 cases hg:o.guard with
 |none=>simp[hg] at h;simp[h]
 |some g=>
  obtain⟨j,b⟩:=g
  simp only[hg] at h
  cases hd:(ops[j]?).bind (·.dst) with
  |none=>simp[hd] at h
  |some d=>
   simp only[hd] at h
   have e:d∈xj ops o:=by
    unfold xj Oper.looksAt
    simp only[hg,getElem?_toArray,hd]
    simp
   cases hl:look L d with
   |none=>simp[hl] at h
   |some v=>
    have f:=c d e v hl
    simp only[hl] at h
    simp only[yielded,getElem?_toArray,hd,Option.bind_some,f]
    cases v<;>simp at h⊢<;>simp_all
theorem fZ(e:∀t∈xj ops o,∀v,look L t=some v->a.tmps[t]?=some v)(f:o.op.operands.toList.all (known L)=true):
  ∀x∈o.op.operands,bH L x=a.eval x:=by
 intro x d
 have b:known L x=true:=all_eq_true.1 f x (by simpa using d)
 cases x with
 |tmp t=>
  have g:t∈xj ops o:=by
   unfold xj Oper.looksAt
   simp only[mem_append,mem_filterMap]
   exact Or.inl ⟨.tmp t,by simpa using d,rfl⟩
  simp only[known,Option.isSome_iff_exists] at b
  obtain⟨v,c⟩:=b
  have:=e t g v c
  simp[Act.eval,bH,c,Array.getD_eq_getD_getElem?,this]
 |_=>rfl
structure vm(n:Nat)(ops:List Oper)(ord gh:List Nat)(vs:List (Nat×Nat×Nat×Operand)):Prop where
 sel:∀o∈ops,fm o.op=false
 dlt:∀o∈ops,∀d,o.dst=some d->d<n
 one:∀(i j:Nat) (oi oj:Oper) (t:Nat),ops[i]?=some oi->ops[j]?=some oj->oi.dst=some t->oj.dst=some t->i=j
 nodup:ord.Nodup
 ok:pR ops gh (vs.map (·.2.2.1)) [] ord=true
 lt:∀i∈ord,i<ops.length
 ed:∀(i:Nat) (o:Oper),ops[i]?=some o->∀e∈eE o,e<i
 nd:(vs.map (·.1)++vs.map (·.2.1)++ord).Nodup
 va:∀v∈vs,kR ops v.2.1 v.1=true
 vx:∀v∈vs,∀t∈DJ v.2.2.2,(∀u∈vs,u.2.2.1≠t)/\∀j∈ord,dA ops j=some t->kR ops v.2.1 j=true
 ng:vs=[]\/gh=[]
theorem eH:∀(l:List Oper),(l.filterMap (·.dst)).Nodup->∀(i j:Nat) (d e:Oper) (t:Nat),l[i]?=some d->l[j]?=some e->d.dst=some t->e.dst=some t->i=j
 |[],_,_,_,_,_,_,h,_,_,_=>by simp at h
 |o::l,b,i,j,d,e,t,c,a,f,g=>by
  have m:∀(k:Nat) (ok:Oper),l[k]?=some ok->ok.dst=some t->t∈l.filterMap (·.dst):=fun k ok r q=>
   mem_filterMap.2 ⟨ok,mem_of_getElem? r,q⟩
  have s:(l.filterMap (·.dst)).Nodup:=by
   rw[filterMap_cons] at b
   split at b
   ·exact b
   ·exact(nodup_cons.1 b).2
  have p:o.dst=some t->t∉l.filterMap (·.dst):=fun h=>by
   rw[filterMap_cons,h] at b
   exact(nodup_cons.1 b).1
  cases i with
  |zero=>
   simp at c
   subst c
   cases j with
   |zero=>rfl
   |succ j=>
    simp only[getElem?_cons_succ] at a
    exact absurd (m j e a g) (p f)
  |succ i=>
   simp only[getElem?_cons_succ] at c
   cases j with
   |zero=>
    simp at a
    subst a
    exact absurd (m i d c f) (p g)
   |succ j=>
    simp only[getElem?_cons_succ] at a
    rw[eH l s i j d e t c a f g]
theorem vm.of{vs:List (Nat×Nat×Nat×Operand)}(h:HN n ops ord0 gh vs=true):vm n ops ord0 gh vs:=by
 simp only[HN,Bool.and_eq_true] at h
 obtain⟨⟨⟨⟨⟨⟨⟨⟨⟨⟨b,l⟩,m⟩,C⟩,p⟩,q⟩,r⟩,s⟩,w⟩,g⟩,k⟩:=h
 refine⟨fun o a=>?_,fun o a d c=>?_,eH ops (fk _ m),fk _ p,q,fun i y=>?_,fun i o a e x=>?_,fk _ w,fun v f=>?_,fun v f t A=>?_,?_⟩
 ·simpa using all_eq_true.1 b o a
 ·have:=all_eq_true.1 l o a
  rw[c] at this
  simpa[Nat.blt_eq] using this
 ·simpa[Nat.blt_eq] using all_eq_true.1 r i y
 ·have:=all_eq_true.1 s i (by simpa using(List.getElem?_eq_some_iff.1 a).1)
  rw[a] at this
  simp only[Option.map_some,Option.getD_some] at this
  simpa[Nat.blt_eq] using all_eq_true.1 this e x
 ·have:=all_eq_true.1 g v f
  simp only[Bool.and_eq_true] at this
  exact this.1
 ·have:=all_eq_true.1 g v f
  simp only[Bool.and_eq_true] at this
  have:=all_eq_true.1 this.2 t A
  simp only[Bool.and_eq_true,Bool.not_eq_true'] at this
  refine⟨fun u B e=>?_,fun j z c=>?_⟩
  ·have b:=this.1
   rw[elem_eq_mem] at b
   exact absurd (mem_map.2 ⟨u,B,e⟩) (of_decide_eq_false b)
  ·have:=all_eq_true.1 this.2 j z
   simpa[c] using this
 ·simp only[Bool.or_eq_true,isEmpty_iff] at k
  exact k
theorem EJ{vs:List (Nat×Nat×Nat×Operand)}(h:HN n ops ord0 gh vs=true):∀i,i<ops.length->i∈ord0\/∃v∈vs,v.1=i\/v.2.1=i:=by
 simp only[HN,Bool.and_eq_true] at h
 obtain⟨⟨⟨⟨⟨⟨⟨⟨⟨⟨d,g⟩,j⟩,a⟩,k⟩,l⟩,m⟩,o⟩,p⟩,e⟩,f⟩:=h
 intro i b
 have:=all_eq_true.1 a i (by simpa using b)
 simp only[Bool.or_eq_true,any_eq_true] at this
 rcases this with h|⟨v,c,h⟩
 ·left;rw[elem_eq_mem] at h;exact of_decide_eq_true h
 ·right
  refine⟨v,c,?_⟩
  rcases h with h|h
  ·left;exact Nat.eq_of_beq_eq_true h
  ·right;exact Nat.eq_of_beq_eq_true h
theorem iK{u:List Nat}:∀(pre l:List Nat),pR ops gh u pre l=true->∀(e:List Nat) (i:Nat) (c:List Nat),l=e++i::c->∀o,ops[i]?=some o->
  (∀t∈xj ops o,(∀j,j∈pre\/j∈e->dA ops j=some t->kR ops i j=true)/\(∀j∈c,dA ops j=some t->kR ops j i=true)/\t∉u)/\(i∈gh->(∀j∈c,kR ops j i=true)/\∀j,j∈pre\/j∈e->(j+1000)∈gh->kR ops i j=true)
 |pre,[],_,e,i,c,h,_,_=>by simp at h
 |pre,k::l,g,[],i,c,h,o,q=>by
  simp only[nil_append,List.cons.injEq] at h
  obtain⟨rfl,rfl⟩:=h
  simp only[pR,Bool.and_eq_true,q,Option.map_some,Option.getD_some] at g
  obtain⟨⟨d,b⟩,_⟩:=g
  refine⟨fun t s=>?_,fun p=>?_⟩
  ·have:=all_eq_true.1 d t s
   simp only[Bool.and_eq_true,Bool.not_eq_true'] at this
   refine⟨fun j a f=>?_,fun j a f=>?_,fun y=>?_⟩
   ·rcases a with a|a
    ·simpa[f] using all_eq_true.1 this.1.1 j a
    ·cases a
   ·simpa[f] using all_eq_true.1 this.1.2 j a
   ·have d:=this.2
    rw[elem_eq_mem] at d
    exact absurd y (of_decide_eq_false d)
  ·simp only[Bool.or_eq_true,Bool.not_eq_true'] at b
   rcases b with b|b
   ·rw[elem_eq_mem] at b
    exact absurd p (of_decide_eq_false b)
   ·simp only[Bool.and_eq_true] at b
    refine⟨fun j a=>all_eq_true.1 b.1 j a,fun j a r=>?_⟩
    rcases a with a|a
    ·have:=all_eq_true.1 b.2 j a
     have z:gh.elem (j+1000)=true:=by rw[elem_eq_mem];exact decide_eq_true r
     simpa only[z,Bool.not_true,Bool.false_or] using this
    ·cases a
 |pre,k::l,g,m::e,i,c,h,o,q=>by
  simp only[cons_append,List.cons.injEq] at h
  obtain⟨rfl,rfl⟩:=h
  simp only[pR,Bool.and_eq_true] at g
  obtain⟨d,b⟩:=iK (k::pre) _ g.2 e i c rfl o q
  refine⟨fun t s=>?_,fun p=>⟨(b p).1,fun j a r=>(b p).2 j (by
   rcases a with a|a
   ·exact Or.inl (by simp[a])
   ·rcases mem_cons.1 a with rfl|a
    ·exact Or.inl (by simp)
    ·exact Or.inr a) r⟩⟩
  obtain⟨v,w,x⟩:=d t s
  refine⟨fun j a f=>v j ?_ f,w,x⟩
  rcases a with a|a
  ·exact Or.inl (by simp[a])
  ·rcases mem_cons.1 a with rfl|a
   ·exact Or.inl (by simp)
   ·exact Or.inr a
end
end
section
variable{i:Nat}{o:Oper}{v:Value}{w':World}{e:qc}
section
variable {P:Program} {n:Nat} {ops:List Oper} {Q:Exit->Act->World->Prop} {S:List Nat} {w0:World} {L0:Env} {ord0 gh:List Nat} {vs:List Vr}
variable {D:Nat->Bool} {Dv:List qc} {ord:List Nat} {F R:World->Prop} {β:Nat->Nat} {a:Act} {w:World}
def jy(n:Nat)(S:List Nat)(w0:World)(P:Program)(ops:List Oper)(Q:Exit->Act->World->Prop)(vs:List Vr)(L:Env)(F R:World->Prop):Prop:=
 (∀v∈vs,fq P ops L v)/\∀β a w,Fin n S w0 vs L F R β a w->Q .normal a w
theorem St.Ap(h:St P n ops gh S w0 L0 ord0 vs D Dv ord F R β a w)(b:i∈ord0):(∃e∈Dv,e.i=i)\/i∈ord:=by
 rw[<-h.idx,mem_append,mem_reverse,mem_map] at b
 exact b
theorem St.fI(h:St P n ops gh S w0 L0 ord0 vs D Dv ord F R β a w)(b:e∈Dv):e.i∈ord0:=by
 rw[<-h.idx,mem_append,mem_reverse,mem_map]
 exact Or.inl ⟨e,b,rfl⟩
theorem St.uniq(c:vm n ops ord0 gh (mz vs))(h:St P n ops gh S w0 L0 ord0 vs D Dv ord F R β a w):∀e∈Dv,∀b∈Dv,e.i=b.i->e=b:=by
 have f:(Dv.map (·.i)).Nodup:=by
  have:=c.nodup
  rw[<-h.idx] at this
  have:=(nodup_append.1 this).1
  rw[<-reverse_reverse (Dv.map (·.i))]
  exact(pairwise_reverse.2 (this.imp (fun o=>o.symm)))
 have q:∀(l:List qc),(l.map (·.i)).Nodup->∀e∈l,∀b∈l,e.i=b.i->e=b:=by
  intro l
  induction l with
  |nil=>intro _ e j;cases j
  |cons x l p=>
   intro f e j b m k
   rw[map_cons,nodup_cons] at f
   rcases mem_cons.1 j with g|g
   ·rcases mem_cons.1 m with d|d
    ·rw[g,d]
    ·exact absurd (mem_map.2 ⟨b,d,by rw[<-k,g]⟩) f.1
   ·rcases mem_cons.1 m with d|d
    ·exact absurd (mem_map.2 ⟨e,g,by rw[k,d]⟩) f.1
    ·exact p f.2 e g b d k
 exact q Dv f
theorem St.one(c:vm n ops ord0 gh (mz vs))(h:St P n ops gh S w0 L0 ord0 vs D Dv ord F R β a w):my Dv:=by
 have b:(Dv.map (·.i)).Nodup:=by
  have:=c.nodup
  rw[<-h.idx] at this
  have:=(nodup_append.1 this).1
  rw[<-reverse_reverse (Dv.map (·.i))]
  exact(pairwise_reverse.2 (this.imp (fun d=>d.symm)))
 unfold my
 rw[Nodup,pairwise_map] at b
 refine Pairwise.imp_of_mem ?_ b
 intro x y f j e t g k
 exact e (c.one x.i y.i x.o y.o t (h.ent x f) (h.ent y j) g k)
theorem St.looks(c:vm n ops ord0 gh (mz vs))(h:St P n ops gh S w0 L0 ord0 vs D Dv ord F R β a w){pre post:List qc}(b:Dv=pre++e::post)
  (l:D e.i=false) (A:∀j,kR ops e.i j=true->D j=true):∀t∈xj ops e.o,∀v,look (env L0 post) t=some v->a.tmps[t]?=some v:=by
 intro t C v E
 have y:e∈Dv:=by rw[b];simp
 have z:ord0=(post.map (·.i)).reverse++e.i::((pre.map (·.i)).reverse++ord):=by
  rw[<-h.idx,b]
  simp
 obtain⟨B,_⟩:=iK [] ord0 c.ok _ e.i _ z e.o (h.ent e y)
 obtain⟨p,r,s⟩:=B t C
 refine h.frame t v ?_ (fun g G H=>s ?_)
 ·rw[b,AL pre post (by rw[<-b];exact h.one c)]
  ·exact E
  ·intro q f k
   refine A q.i (p q.i (Or.inr ?_) ?_)
   ·rw[mem_reverse];exact mem_map.2 ⟨q,f,rfl⟩
   ·simp[dA,h.ent q (by rw[b];simp[f]),k]
  ·intro q f k
   have u:kR ops q.i e.i=true:=r q.i (by rw[mem_append,mem_reverse];exact Or.inl (mem_map.2 ⟨q,f,rfl⟩)) (by simp[dA,h.ent q (by rw[b];simp[f]),k])
   cases hq':D q.i with
   |false=>rfl
   |true=>
    have m:=h.ent q (by rw[b];simp[f])
    have:=fp h.closed q.i q.o m (h.closed q.i q.o m hq') e.i u
    rw[l] at this
    cases this
  ·intro _;exact l
 ·rw[<-H]
  exact mem_map.2 ⟨(g.al,g.pt,g.d,g.x),mem_map.2 ⟨g,G,rfl⟩,rfl⟩
theorem jh(g:∀(i:Nat) (o:Oper),ops[i]?=some o->D i=true->∀e∈eE o,D e=true)(k:ops[i]?=some o)(h:∀e∈eE o,D e=true):
  ∀(j:Nat) (o:Oper),ops[j]?=some o->fw D i j=true->∀e∈eE o,fw D i e=true:=by
 intro j l b c e d
 by_cases f:j=i
 ·subst f
  rw[k] at b
  cases b
  exact jV (h e d)
 ·rw[bL f] at c
  exact jV (g j l b c e d)
theorem mL(c:vm n ops ord0 gh (mz vs)){x:Vr}(h:x∈vs)(g:i∈ord0):x.al≠i/\x.pt≠i:=by
 have b:=c.nd
 rw[nodup_append] at b
 have f:(x.al,x.pt,x.d,x.x)∈mz vs:=mem_map.2 ⟨x,h,rfl⟩
 exact⟨fun e=>b.2.2 x.al (mem_append.2 (Or.inl (mem_map.2 ⟨_,f,rfl⟩))) i g e,fun e=>b.2.2 x.pt (mem_append.2 (Or.inr (mem_map.2 ⟨_,f,rfl⟩))) i g e⟩
theorem St.did(c:vm n ops ord0 gh (mz vs))(h:St P n ops gh S w0 L0 ord0 vs D Dv ord F R β a w)(L:cH [] F)(M:cH [] R)(U:∀x∈vs,dA ops x.al=some x.d)(g:e∈Dv)(aa:D e.i=false)
  (O:∀j∈eE e.o,D j=true)  (u:Kp [] w w'):St P n ops gh S w0 L0 ord0 vs (fw D e.i) Dv ord F R β (a.put e.o.dst e.v) w':=by
 have z:=h.ent e g
 have N:∀l,e.o.dst=some l->l<n:=c.dlt e.o (mem_of_getElem? z)
 have V:∀x∈vs,e.o.dst≠some x.d:=by
  intro x f b
  have k:=U x f
  unfold dA at k
  cases hx1:ops[x.al]? with
  |none=>rw[hx1] at k;simp at k
  |some W=>
   rw[hx1] at k
   exact(mL c f (h.fI g)).1 (c.one x.al e.i W e.o x.d hx1 z k b)
 refine⟨jh h.closed z O,fun I s=>?_,h.idx,h.ent,fun Y q X K m=>?_,?_,?_,fun t Z r T=>?_,fun x f b=>?_,h.kp.trans u.any,L _ _ u h.hF,M _ _ u h.hR,fun x f b=>?_,fun x f y H B C=>?_⟩
 ·rw[bL]
  ·exact h.fresh I s
  ·intro p
   have E:=c.nodup
   rw[<-h.idx,nodup_append] at E
   exact E.2.2 e.i (by rw[mem_reverse];exact mem_map.2 ⟨e,g,rfl⟩) I s p.symm
 ·by_cases G:q.i=e.i
  ·rw[G,cW] at m;cases m
  ·rw[bL G] at m
   exact h.obl Y q X K m
 ·cases b:e.o.dst<;>simp[Act.put,h.size]
 ·cases b:e.o.dst<;>simp[Act.put,h.defers]
 ·rw[rP Dv (h.one c) g (fun q m s=>h.uniq c q m e g s)] at r
  by_cases b:e.o.dst=some t
  ·rw[if_pos b] at r
   cases r
   rw[b]
   simp[Act.put,h.size,N t b]
  ·rw[if_neg b] at r
   have:=h.frame t Z r T
   cases hd':e.o.dst with
   |none=>exact this
   |some l=>
    have A:l≠t:=fun p=>b (by rw[hd',p])
    simp only[Act.put]
    rw[Array.getElem?_setIfInBounds_ne A]
    exact this
 ·rw[bL (mL c f (h.fI g)).1] at b
  have:=h.vfr x f b
  cases hd':e.o.dst with
  |none=>exact this
  |some l=>
   have A:l≠x.d:=fun p=>V x f (by rw[hd',p])
   simp only[Act.put]
   rw[Array.getElem?_setIfInBounds_ne A]
   exact this
 ·rw[bL (mL c f (h.fI g)).1] at b
  rw[bL (mL c f (h.fI g)).2]
  obtain⟨k,J⟩:=h.vw x f b
  exact⟨k,J.az u⟩
 ·rw[bL (mL c f (h.fI g)).1] at B
  rw[bL (mL c H (h.fI g)).1] at C
  exact h.vd x f y H B C
theorem St.Jl(c:vm n ops ord0 gh (mz vs))(h:St P n ops gh S w0 L0 ord0 vs D Dv (i::ord) F R β a w)(m:ops[i]?=some o)
  (z:Lj P S w0 ops gh L0 F R ⟨i,o,v⟩ Dv):St P n ops gh S w0 L0 ord0 vs D (⟨i,o,v⟩::Dv) ord F R β a w:=by
 have s:D i=false:=h.fresh i (by simp)
 refine⟨h.closed,fun j x=>h.fresh j (by simp[x]),?_,fun e b=>?_,fun k e B f y=>?_,h.size,h.defers,fun t u d A=>?_,h.vfr,h.kp,h.hF,h.hR,h.vw,h.vd⟩
 ·rw[<-h.idx];simp
 ·rcases mem_cons.1 b with rfl|b
  ·exact m
  ·exact h.ent e b
 ·cases k with
  |nil=>
   simp only[nil_append,List.cons.injEq] at f
   obtain⟨rfl,rfl⟩:=f
   exact z
  |cons p k=>
   simp only[cons_append,List.cons.injEq] at f
   exact h.obl k e B f.2 y
 ·refine h.frame t u ?_ A
  simp only[kd] at d
  by_cases g:o.dst=some t
  ·rw[if_pos g,if_neg (by simp[s])] at d
   rw[tP Dv,d]
   intro e b r
   have q:=c.one e.i i e.o o t (h.ent e b) m r g
   have l:=c.nodup
   rw[<-h.idx,nodup_append] at l
   exact l.2.2 e.i (by rw[mem_reverse];exact mem_map.2 ⟨e,b,rfl⟩) i (by simp) q
  ·rw[if_neg g] at d
   exact d
def Norm(P:Program)(S:List Nat)(w0:World)(ops:List Oper)(gh:List Nat)(K:Env->(World->Prop)->(World->Prop)->Prop)(ord:List Nat)(L:Env)(F R:World->Prop):Prop:=
 (ord=[]/\K L F R)\/∃i ord' o,ord=i::ord'/\ops[i]?=some o/\want ops L o=some true/\i∈gh/\∃(X:Type) (val:X->Value) (F' R':X->World->Prop),HT P S w0 F R L o X val F' R'/\
     ∀x,aM P S w0 ops gh K ord' (im o.dst (val x) L) (fun w=>F w/\F' x w) (R' x)
theorem St.Jm(c:vm n ops ord0 gh (mz vs)){K:Env->(World->Prop)->(World->Prop)->Prop}:∀(ord:List Nat) (Dv:List qc),St P n ops gh S w0 L0 ord0 vs D Dv ord F R β a w->aM P S w0 ops gh K ord (env L0 Dv) F R->
  ∃e f,St P n ops gh S w0 L0 ord0 vs D e f F R β a w/\Norm P S w0 ops gh K f (env L0 e) F R
 |[],Dv,h,b=>⟨Dv,[],h,Or.inl ⟨rfl,b⟩⟩
 |i::ord,Dv,h,b=>by
  obtain⟨o,d,b⟩:=b
  rcases b with⟨hw,b⟩|⟨hw,v,hp,b⟩|⟨hw,hr,v,hp,b⟩|⟨hw,hg,X,val,F',R',hgh,b⟩
  ·exact St.Jm c ord (⟨i,o,undef⟩::Dv) (h.Jl c d (Or.inr (Or.inl ⟨hw,rfl⟩))) b
  ·exact St.Jm c ord (⟨i,o,v⟩::Dv) (h.Jl c d (Or.inl ⟨hw,hp⟩)) b
  ·exact St.Jm c ord (⟨i,o,v⟩::Dv) (h.Jl c d (Or.inr (Or.inr ⟨hw,hr,hp⟩))) b
  ·exact⟨Dv,i::ord,h,Or.inr ⟨i,ord,o,rfl,d,hw,hg,X,val,F',R',hgh,b⟩⟩
theorem St.ghost(c:vm n ops ord0 gh (mz vs))(O:vs=[])(h:St P n ops gh S w0 L0 ord0 vs D Dv (i::ord) F R β a w)(V:cH [] F)(m:ops[i]?=some o)
  (A:∀j∈eE o,D j=true) (H:i∈gh)   {x y:World->Prop} (I:Kp S w0 w') (E:F w'/\x w') (G:y w'):
  St P n ops gh S w0 L0 ord0 vs (fw D i) (⟨i,o,v⟩::Dv) ord (fun w=>F w/\x w) y β (a.put o.dst v) w':=by
 subst O
 have W:D i=false:=h.fresh i (by simp)
 have r:=c.nodup
 rw[<-h.idx,nodup_append] at r
 have z:∀e∈Dv,e.i≠i:=fun e l=>r.2.2 e.i (by rw[mem_reverse];exact mem_map.2 ⟨e,l,rfl⟩) i (by simp)
 refine⟨jh h.closed m A,fun j C=>?_,?_,fun e l=>?_,fun s e U k f=>?_,?_,?_,fun t u g N=>?_,(by simp),I,E,G,(by simp),(by simp)⟩
 ·rw[bL]
  ·exact h.fresh j (by simp[C])
  ·intro q
   have:=r.2.1
   rw[nodup_cons] at this
   exact this.1 (q▸C)
 ·rw[<-h.idx];simp
 ·rcases mem_cons.1 l with rfl|l
  ·exact m
  ·exact h.ent e l
 ·cases s with
  |nil=>
   simp only[nil_append,List.cons.injEq] at k
   obtain⟨rfl,rfl⟩:=k
   simp only[cW] at f
   cases f
  |cons p s=>
   simp only[cons_append,List.cons.injEq] at k
   have B:e∈Dv:=by rw[k.2];simp
   rw[bL (z e B)] at f
   refine(h.obl s e U k.2 f).mono (fun w T=>T.1) (fun L=>?_)
   have K:ord0=(Dv.map (·.i)).reverse++i::ord:=h.idx.symm
   have M:=((iK [] ord0 c.ok _ i _ K o m).2 H).2 e.i (Or.inr (by rw[mem_reverse];exact mem_map.2 ⟨e,B,rfl⟩)) L
   have:=fp h.closed i o m A e.i M
   rw[this] at f
   cases f
 ·cases b:o.dst<;>simp[Act.put,h.size]
 ·cases b:o.dst<;>simp[Act.put,h.defers]
 ·simp only[kd,cW,if_true] at g
  rw[jL Dv z] at g
  by_cases b:o.dst=some t
  ·rw[if_pos b] at g
   cases g
   rw[b]
   simp[Act.put,h.size,c.dlt o (mem_of_getElem? m) t b]
  ·rw[if_neg b] at g
   have:=h.frame t u g N
   cases hd':o.dst with
   |none=>exact this
   |some d=>
    have J:d≠t:=fun q=>b (by rw[hd',q])
    simp only[Act.put]
    rw[Array.getElem?_setIfInBounds_ne J]
    exact this
end
end
section
variable{b i:Nat}{o:Oper}{x y:Vr}
section
variable {P:Program} {n:Nat} {ops:List Oper} {Q:Exit->Act->World->Prop} {S:List Nat} {w0:World} {L0:Env} {ord0 gh:List Nat} {vs:List Vr}
variable {D:Nat->Bool} {Dv:List qc} {ord:List Nat} {F R:World->Prop} {β:Nat->Nat} {a:Act} {w:World}
def A2(β:Nat->Nat)(i b:Nat)(j:Nat):Nat:=if j=i then b else β j
theorem lY{β:Nat->Nat}{j:Nat}(h:j≠i):A2 β i b j=β j:=by simp[A2,h]
theorem lX{β:Nat->Nat}:A2 β i b i=b:=by simp[A2]
theorem sR(c:vm n ops ord0 gh (mz vs))(g:x∈vs)(h:y∈vs):x.al≠y.pt:=by
 have b:=c.nd
 rw[nodup_append,nodup_append] at b
 have e:(x.al,x.pt,x.d,x.x)∈mz vs:=mem_map.2 ⟨x,g,rfl⟩
 have f:(y.al,y.pt,y.d,y.x)∈mz vs:=mem_map.2 ⟨y,h,rfl⟩
 exact b.1.2.2 x.al (mem_map.2 ⟨_,e,rfl⟩) y.pt (mem_map.2 ⟨_,f,rfl⟩)
theorem gH{i:Type}(f:i->Nat):∀(l:List i),(l.map f).Nodup->∀x∈l,∀y∈l,f x=f y->x=y
 |[],_,x,e,_,_,_=>by cases e
 |z::l,d,x,e,y,g,h=>by
  rw[map_cons,nodup_cons] at d
  rcases mem_cons.1 e with c|c
  ·rcases mem_cons.1 g with b|b
   ·rw[c,b]
   ·exact absurd (mem_map.2 ⟨y,b,by rw[<-h,c]⟩) d.1
  ·rcases mem_cons.1 g with b|b
   ·exact absurd (mem_map.2 ⟨x,c,by rw[h,b]⟩) d.1
   ·exact gH f l d.2 x c y b h
theorem oS(c:vm n ops ord0 gh (mz vs))(e:x∈vs)(f:y∈vs)(h:x.al=y.al):x=y:=by
 have d:=c.nd
 rw[nodup_append,nodup_append] at d
 have b:=d.1.1
 unfold mz at b
 rw[map_map] at b
 exact gH _ vs b x e y f h
theorem AY(c:vm n ops ord0 gh (mz vs))(e:x∈vs)(f:y∈vs)(h:x.pt=y.pt):x=y:=by
 have d:=c.nd
 rw[nodup_append,nodup_append] at d
 have b:=d.1.2.1
 unfold mz at b
 rw[map_map] at b
 exact gH _ vs b x e y f h
theorem St.made(c:vm n ops ord0 gh (mz vs))(h:St P n ops gh S w0 L0 ord0 vs D Dv ord F R β a w)(N:cH [] F)(O:cH [] R)(Y:∀x∈vs,dA ops x.al=some x.d)
   (k:x∈vs) (ae:D x.al=false) (X:D x.pt=false)  (v:ops[x.al]?=some o) (W:∀j∈eE o,D j=true) (g:o.dst=some x.d):
  St P n ops gh S w0 L0 ord0 vs (fw D x.al) Dv ord F R (A2 β x.al w.heap.size) (a.put o.dst (.pointer (some ⟨w.heap.size,0,none⟩))) {w with heap:=w.heap.push (.cells x.z x.T)}:=by
 have p:Kp [] w {w with heap:=w.heap.push (.cells x.z x.T)}:=Kp.push w _ rfl
 have U:x.d<n:=c.dlt o (mem_of_getElem? v) x.d g
 have B:∀e∈Dv,e.i≠x.al:=fun e V=>(mL c k (h.fI V)).1.symm
 refine⟨jh h.closed v W,fun L C=>?_,h.idx,h.ent,fun ab q aa A G=>?_,?_,?_,fun ac ad I H=>?_,fun y b l=>?_,h.kp.trans p.any,N _ _ p h.hF,O _ _ p h.hR,fun y b l=>?_,fun y b r J u m E=>?_⟩
 ·rw[bL]
  ·exact h.fresh L C
  ·have:L∈ord0:=by rw[<-h.idx];simp[C]
   exact(mL c k this).1.symm
 ·rw[bL (B q (by rw[A];simp))] at G
  exact h.obl ab q aa A G
 ·rw[g];simp[Act.put,h.size]
 ·rw[g];simp[Act.put,h.defers]
 ·rw[jL Dv B] at I
  have:=h.frame ac ad I H
  rw[g]
  simp only[Act.put]
  rw[Array.getElem?_setIfInBounds_ne (H x k)]
  exact this
 ·rw[g]
  simp only[Act.put]
  by_cases e:y.al=x.al
  ·have:=oS c b k e
   subst this
   rw[lX]
   simp[h.size,U]
  ·rw[bL e] at l
   rw[lY e]
   have Z:x.d≠y.d:=by
    intro t
    have f:=Y y b
    unfold dA at f
    cases hy1:ops[y.al]? with
    |none=>rw[hy1] at f;simp at f
    |some oy=>
     rw[hy1] at f
     exact e (c.one y.al x.al oy o y.d hy1 v f (by rw[g,t]))
   rw[Array.getElem?_setIfInBounds_ne Z]
   exact h.vfr y b l
 ·by_cases e:y.al=x.al
  ·have:=oS c b k e
   subst this
   rw[lX,bL (sR c b b).symm,X]
   exact⟨h.kp.size,aG.push w _⟩
  ·rw[bL e] at l
   rw[lY e,bL (sR c k b).symm]
   obtain⟨f,M⟩:=h.vw y b l
   exact⟨f,M.az p⟩
 ·by_cases e:y.al=x.al
  ·have K:r.al≠x.al:=fun t=>E (e.trans t.symm)
   rw[bL K] at m
   rw[e,lX,lY K]
   exact Nat.ne_of_gt (h.vw r J m).2.lt
  ·rw[bL e] at u
   by_cases s:r.al=x.al
   ·rw[s,lX,lY e]
    exact Nat.ne_of_lt (h.vw y b u).2.lt
   ·rw[bL s] at m
    rw[lY e,lY s]
    exact h.vd y b r J u m E
theorem St.filled(c:vm n ops ord0 gh (mz vs))(h:St P n ops gh S w0 L0 ord0 vs D Dv ord F R β a w)(I:∀w,F w)(J:∀w,R w)(hS:∀x∈S,x<w0.heap.size)
   (d:x∈vs) (r:D x.al=true) (U:D x.pt=false)  (V:ops[x.pt]?=some o) (N:∀j∈eE o,D j=true) (L:o.dst=none):
  St P n ops gh S w0 L0 ord0 vs (fw D x.pt) Dv ord F R β (a.put o.dst undef) {w with heap:=w.heap.setIfInBounds (β x.al) (.cells x.c x.T)}:=by
 obtain⟨K,k⟩:=h.vw x d r
 rw[U] at k
 simp only[Bool.false_eq_true,if_false] at k
 have z:Kp [β x.al] w {w with heap:=w.heap.setIfInBounds (β x.al) (.cells x.c x.T)}:=Kp.set w k rfl rfl
 have p:∀e∈Dv,e.i≠x.pt:=fun e M=>(mL c d (h.fI M)).2.symm
 rw[L]
 refine⟨jh h.closed V N,fun l g=>?_,h.idx,h.ent,fun Z q Y m A=>?_,h.size,h.defers,fun t v B X=>?_,fun y b f=>?_,h.kp.aj z ?_,I _,J _,fun y b f=>?_,fun y b aa C s u O=>?_⟩
 ·rw[bL]
  ·exact h.fresh l g
  ·have:l∈ord0:=by rw[<-h.idx];simp[g]
   exact(mL c d this).2.symm
 ·rw[bL (p q (by rw[m];simp))] at A
  exact h.obl Z q Y m A
 ·rw[jL Dv p] at B
  exact h.frame t v B X
 ·rw[bL (sR c b d)] at f
  exact h.vfr y b f
 ·intro l g
  simp only[mem_singleton] at g
  exact Or.inr (g▸K)
 ·rw[bL (sR c b d)] at f
  obtain⟨G,H⟩:=h.vw y b f
  refine⟨G,?_⟩
  by_cases e:y.al=x.al
  ·have:=oS c b d e
   subst this
   rw[cW]
   exact k.set _
  ·have W:y.pt≠x.pt:=fun E=>e (by rw[AY c b d E])
   rw[bL W]
   exact H.kp z (by simp only[mem_singleton];exact h.vd y b x d f r e)
 ·rw[bL (sR c b d)] at s
  rw[bL (sR c C d)] at u
  exact h.vd y b aa C s u O
end
end
section
variable{a:Act}{i:Nat}
theorem dN{l:Array Bool}{j:Nat}(a:i<l.size):(l.setIfInBounds i true).getD j true=fw (fun j=>l.getD j true) i j:=by
 unfold fw
 by_cases h:j=i
 ·subst h
  simp[Array.getD_eq_getD_getElem?,a]
 ·rw[if_neg h]
  simp[Array.getD_eq_getD_getElem?,Array.getElem?_setIfInBounds_ne (fun e=>h e.symm)]
theorem eY{d:List Oper}{c:Array Bool}(n:c.size=d.length):i∈Region.ready .any d.toArray c↔
  ∃o,d[i]?=some o/\c.getD i true=false/\∀e∈eE o,c.getD e false=true:=by
 unfold Region.ready
 simp only[mem_filter,mem_range,size_toArray,Bool.and_eq_true,Bool.not_eq_true',getElem?_toArray]
 constructor
 ·rintro⟨k,f,b⟩
  refine⟨d[i],by simp[k],f,fun e j=>?_⟩
  rw[getElem?_eq_getElem k] at b
  simp only[Option.map_some,Option.getD_some,Array.all_eq_true_iff_forall_mem] at b
  unfold eE at j
  obtain⟨a,h,rfl⟩:=mem_map.1 j
  obtain⟨m,g⟩:=mem_filter.1 h
  have:=b a (by simpa using m)
  simpa[g] using this
 ·rintro⟨o,l,f,b⟩
  refine⟨(List.getElem?_eq_some_iff.1 l).1,f,?_⟩
  rw[l]
  simp only[Option.map_some,Option.getD_some,Array.all_eq_true_iff_forall_mem]
  intro a h
  cases g:Region.binds .any a with
  |false=>rfl
  |true=>
   have:=b a.on (mem_map.2 ⟨a,mem_filter.2 ⟨by simpa using h,g⟩,rfl⟩)
   simp[this]
theorem tE{b:Nat->Nat}{L:Env}{t:Nat}{v:Value}:∀(l:List Vr),look (l.map (fun v=>(v.d,Value.pointer (some ⟨b v.al,0,none⟩)))++L) t=some v->
  (∃x∈l,x.d=t/\v= .pointer (some ⟨b x.al,0,none⟩))\/((∀x∈l,x.d≠t)/\look L t=some v)
 |[],h=>Or.inr ⟨fun _ h=>(by cases h),h⟩
 |x::l,h=>by
  simp only[map_cons,cons_append] at h
  by_cases e:x.d=t
  ·subst e
   rw[jI] at h
   cases h
   exact Or.inl ⟨x,by simp,rfl,rfl⟩
  ·rw[oq e] at h
   rcases tE l h with⟨y,a,h1,h2⟩|⟨h1,h2⟩
   ·exact Or.inl ⟨y,by simp[a],h1,h2⟩
   ·refine Or.inr ⟨fun y a=>?_,h2⟩
    rcases mem_cons.1 a with rfl|a
    ·exact e
    ·exact h1 y a
section
variable {P:Program} {n:Nat} {ops:List Oper} {Q:Exit->Act->World->Prop} {S:List Nat} {w0:World} {L0:Env} {ord0 gh:List Nat} {vs:List Vr}
theorem fu{o:Oper}{K:Act->World->Prop}{w:World}(d:ops[i]?=some o){r:Bool}(e:Region.wanted o (yielded ops.toArray a.tmps)=r)
  (b:r=true->o.wp P a w K Q) (c:r=false->K (a.put o.dst undef) w):wpOp P ops.toArray Q i K a w:=by
 unfold wpOp
 simp only[getElem?_toArray,d,e]
 cases r with
 |true=>exact Or.inl (b rfl)
 |false=>exact c rfl
theorem St.wpAny(c:vm n ops ord0 gh (mz vs))(aQ:∀b,b<ops.length->b∈ord0\/∃m∈mz vs,m.1=b\/m.2.1=b)(hS:∀g∈S,g<w0.heap.size)(aC:∀g∈vs,dA ops g.al=some g.d):∀(N:Nat) (k:Array Bool) (F R:World->Prop) (D:Nat->Nat) (a:Act) (w:World) (Dv:List qc) (ae:List Nat),
  k.size=ops.length->St P n ops gh S w0 L0 ord0 vs (fun j=>k.getD j true) Dv ae F R D a w->aM P S w0 ops gh (jy n S w0 P ops Q vs) ae (env L0 Dv) F R->cH [] F->cH [] R->(vs=[]\/((∀w,F w)/\∀w,R w))->
  (range ops.length).countP (fun b=> !k.getD b true)<=N->Go.wpAny P .any ops.toArray Q N k a w:=by
 intro N
 induction N with
 |zero=>
  intro k F R D a w Dv ae ac aA aw J Y ad aP
  have E:∀b,b<ops.length->k.getD b true=true:=by
   intro b G
   have:(range ops.length).countP (fun b=> !k.getD b true)=0:=by omega
   rw[countP_eq_zero] at this
   simpa using this b (by simpa using G)
  obtain⟨C,ab,f,hn⟩:=St.Jm c ae Dv aA aw
  refine⟨?_,?_⟩
  ·rw[eq_nil_iff_forall_not_mem]
   intro b G
   obtain⟨A,l,s,_⟩:=(eY ac).1 G
   rw[E b (List.getElem?_eq_some_iff.1 l).1] at s
   cases s
  ·rcases hn with⟨rfl,O⟩|⟨b,an,A,rfl,l,_⟩
   ·refine O.2 D a w ⟨⟨fun t m u=>?_,f.size,f.defers⟩,f.kp,f.hF,f.hR,fun m u=>?_,fun m u v' ak aX=>?_⟩
    ·rcases tE vs u with⟨g,y,s,B⟩|⟨s,B⟩
     ·have:=f.vfr g y (E _ (by have:=aC g y;unfold dA at this;cases hh:ops[g.al]? with|none=>rw[hh] at this;simp at this|some A=>exact(List.getElem?_eq_some_iff.1 hh).1))
      rw[<-s,this,B]
     ·refine f.frame t m ?_ s
      rw[ib C (fun e K _=>E e.i (c.lt e.i (f.fI K)))]
      exact B
    ·obtain⟨⟨oa,ah,_⟩,⟨op,ai,_⟩,_⟩:=O.1 m u
     have s:=E m.al (List.getElem?_eq_some_iff.1 ah).1
     have B:=E m.pt (List.getElem?_eq_some_iff.1 ai).1
     have:=f.vw m u s
     rw[if_pos B] at this
     exact this
    ·obtain⟨⟨oa,ah,_⟩,_,_⟩:=O.1 m u
     obtain⟨⟨bd,a0,_⟩,_,_⟩:=O.1 v' ak
     exact f.vd m u v' ak (E m.al (List.getElem?_eq_some_iff.1 ah).1) (E v'.al (List.getElem?_eq_some_iff.1 a0).1) aX
   ·have s:=f.fresh b (by simp)
    rw[E b (List.getElem?_eq_some_iff.1 l).1] at s
    cases s
 |succ N ih=>
  intro k F R D a w Dv ae ac aA aw J Y ad aP
  obtain⟨C,ab,f,hn⟩:=St.Jm c ae Dv aA aw
  have ap:aM P S w0 ops gh (jy n S w0 P ops Q vs) ab (env L0 C) F R:=by
   rcases hn with⟨rfl,O⟩|⟨b,an,A,rfl,l,H,L,X,val,F',R',hgh,hd⟩
   ·exact O
   ·exact⟨A,l,Or.inr (Or.inr (Or.inr ⟨H,L,X,val,F',R',hgh,hd⟩))⟩
  constructor
  ·
   intro V
   have E:∀b,b<ops.length->k.getD b true=true:=by
    intro b
    induction b using Nat.strongRecOn with
    |_ b a7=>
     intro G
     cases hd:k.getD b true with
     |true=>rfl
     |false=>
      exfalso
      have:b∈Region.ready .any ops.toArray k:=by
       refine(eY ac).2 ⟨ops[b],by simp[G],hd,fun e K=>?_⟩
       have aT:=c.ed b ops[b] (by simp[G]) e K
       have:=a7 e aT (by omega)
       simp only[Array.getD_eq_getD_getElem?] at this⊢
       rw[Array.getElem?_eq_getElem (by omega)] at this⊢
       exact this
      rw[V] at this
      cases this
   have:=ih k F R D a w C ab ac f ap J Y ad (by
    have:(range ops.length).countP (fun b=> !k.getD b true)=0:=by
     rw[countP_eq_zero]
     intro b G
     simp[E b (by simpa using G)]
    omega)
   cases N with
   |zero=>exact this.2
   |succ bc=>exact this.1 V
  ·intro b G
   obtain⟨A,l,M,aS⟩:=(eY ac).1 G
   have aF:b<ops.length:=(List.getElem?_eq_some_iff.1 l).1
   have ag:∀e∈eE A,k.getD e true=true:=by
    intro e K
    have:=aS e K
    simp only[Array.getD_eq_getD_getElem?] at this⊢
    cases h:k[e]? with
    |none=>rfl
    |some bb=>rw[h] at this;exact this
   have af:∀j,kR ops b j=true->k.getD j true=true:=fp f.closed b A l ag
   have au:(k.setIfInBounds b true).size=ops.length:=by simp[ac]
   have ar:(fun j=>(k.setIfInBounds b true).getD j true)=fw (fun j=>k.getD j true) b:=funext fun j=>dN (by omega)
   have ao:(range ops.length).countP (fun j=> !(k.setIfInBounds b true).getD j true)<=N:=by
    have:=tR (p:=fun j=> !k.getD j true) (q:=fun j=> !(k.setIfInBounds b true).getD j true) (range ops.length) (fun g y=>by
     rw[dN (by omega)] at y
     by_cases e:g=b
     ·subst e;simp[cW] at y
     ·rw[bL e] at y;exact y) b (by simpa using aF) (by simp[M]) (by rw[dN (by omega),cW];rfl)
    omega
   rcases aQ b aF with aV|⟨m,u,aH⟩
   ·rcases f.Ap aV with⟨e,K,rfl⟩|aq
    ·
     have Z:A=e.o:=Option.some.inj (l.symm.trans (f.ent e K))
     subst Z
     obtain⟨a9,a8,hD⟩:=append_of_mem K
     have U:=f.looks c hD M af
     have aD:∀I,Kp [] w I->Go.wpAny P .any ops.toArray Q N (k.setIfInBounds e.i true) (a.put e.o.dst e.v) I:=by
      intro I hk
      refine ih _ F R D _ I C ab au ?_ ap J Y ad ao
      rw[ar]
      exact f.did c J Y aC K M ag hk
     rcases f.obl a9 e a8 hD M with⟨H,aa,hp⟩|⟨H,u⟩|⟨H,_,aa,hp⟩
     ·refine fu l (dx U H) (fun _=>?_) (fun h=>by cases h)
      have V:=hp w f.kp f.hF
      have aj:=bD.congr (c.sel e.o (mem_of_getElem? l)) (fZ U aa) V
      exact aj.wp (fun m I ⟨s,B⟩=>by rw[s];exact aD I B)
     ·refine fu l (dx U H) (fun h=>by cases h) (fun _=>?_)
      rw[<-u]
      exact aD w (Kp.refl _ _)
     ·refine fu l (dx U H) (fun _=>?_) (fun h=>by cases h)
      have V:=hp w f.kp f.hF f.hR
      have aj:=bD.congr (c.sel e.o (mem_of_getElem? l)) (fZ U aa) V
      exact aj.wp (fun m I ⟨s,B⟩=>by rw[s];exact aD I B)
    ·
     rcases hn with⟨rfl,_⟩|⟨am,an,ok,rfl,ay,H,L,X,val,F',R',hgh,hd⟩
     ·cases aq
     ·have aB:vs=[]:=by
       rcases c.ng with h|h
       ·unfold mz at h;simpa using h
       ·rw[h] at L;cases L
      have aG:ord0=(C.map (·.i)).reverse++am::an:=f.idx.symm
      obtain⟨hs,aW⟩:=iK [] ord0 c.ok _ am _ aG ok ay
      rcases mem_cons.1 aq with rfl|aq
      ·have Z:A=ok:=Option.some.inj (l.symm.trans ay)
       subst Z
       have U:∀t∈xj ops A,∀m,look (env L0 C) t=some m->a.tmps[t]?=some m:=by
        intro t ht m u
        obtain⟨s,B,h3⟩:=hs t ht
        refine f.frame t m ?_ (by rw[aB];simp)
        rw[ib C]
        ·exact u
        ·intro W hq az
         exact af W.i (s W.i (Or.inr (by rw[mem_reverse];exact mem_map.2 ⟨W,hq,rfl⟩)) (by simp[dA,f.ent W hq,az]))
       obtain⟨aa,aJ,aK,a6⟩:=hgh
       refine fu l (dx U H) (fun _=>?_) (fun h=>by cases h)
       have V:=a6 w f.kp f.hF f.hR
       have aj:=bD.congr (c.sel A (mem_of_getElem? l)) (fZ U aa) V
       refine aj.wp (fun m I ⟨g,s,B,h3,h4⟩=>?_)
       subst s
       refine ih _ (fun w=>F w/\F' g w) (R' g) D _ I (⟨b,A,val g⟩::C) an au ?_ (hd g) (fun w1 w2 hk hf=>⟨J _ _ hk hf.1,aJ g _ _ hk hf.2⟩) (aK g) (Or.inl aB) ao
       rw[ar]
       exact f.ghost c aB J l ag L h4 B h3
      ·have s:=af am ((aW L).1 b aq)
       have B:=f.fresh am (by simp)
       rw[s] at B
       cases B
   ·
    obtain⟨g,y,rfl⟩:=mem_map.1 u
    have aY:gh=[]:=by
     rcases c.ng with h|h
     ·unfold mz at h;simp at h;subst h;cases y
     ·exact h
    obtain⟨aG,O⟩:ab=[]/\jy n S w0 P ops Q vs (env L0 C) F R:=by
     rcases hn with h|⟨am,an,ok,rfl,ay,H,L,_⟩
     ·exact h
     ·rw[aY] at L;cases L
    obtain⟨⟨oa,ah,aL,aN,aO⟩,⟨op,ai,a1,a2,a3⟩,aa,a4,a5⟩:=O.1 g y
    have aE:(∀w,F w)/\∀w,R w:=by
     rcases ad with h|h
     ·rw[h] at y;cases y
     ·exact h
    simp only at aH
    rcases aH with rfl|rfl
    ·have Z:A=oa:=Option.some.inj (l.symm.trans ah)
     subst Z
     have aZ:k.getD g.pt true=false:=by
      cases h:k.getD g.pt true with
      |false=>rfl
      |true=>
       have:=fp f.closed g.pt op ai (f.closed g.pt op ai h) g.al (c.va _ u)
       rw[this] at M
       cases M
     refine fu l (r:=true) (by unfold Region.wanted;rw[aO]) (fun _=>?_) (fun h=>by cases h)
     unfold Oper.wp
     have:(execOp a.eval A).run P w= .ok (.value (.pointer (some ⟨w.heap.size,0,none⟩))) {w with heap:=w.heap.push (.cells g.z g.T)}:=by
      simp[execOp,aL,a4,Result.andThen]
     rw[this]
     simp only[Oper.upon]
     refine ih _ F R (A2 D g.al w.heap.size) _ _ C ab au ?_ ap J Y ad ao
     rw[ar]
     exact f.made c J Y aC y M aZ l ag aN
    ·have Z:A=op:=Option.some.inj (l.symm.trans ai)
     subst Z
     have av:k.getD g.al true=true:=af g.al (c.va _ u)
     have aI:=c.vx _ u
     simp only at aI
     have hb:=(f.vw g y av).2
     rw[M] at hb
     simp only[Bool.false_eq_true,if_false] at hb
     have aR:a.eval (.tmp g.d)= .pointer (some ⟨D g.al,0,none⟩):=by
      simp[Act.eval,Array.getD_eq_getD_getElem?,f.vfr g y av]
     have aU:a.eval g.x=bH (env L0 C) g.x:=by
      cases hxx:g.x with
      |tmp t=>
       have ax:=aa
       rw[hxx] at ax
       simp only[known,Option.isSome_iff_exists] at ax
       obtain⟨m,ak⟩:=ax
       obtain⟨g1,g2⟩:=aI t (by rw[hxx];simp[DJ])
       have:=f.frame t m (by
        rw[ib C]
        ·exact ak
        ·intro W hq az
         exact af W.i (g2 W.i (f.fI hq) (by simp[dA,f.ent W hq,az]))) (fun ba hy=>g1 _ (mem_map.2 ⟨ba,hy,rfl⟩))
       simp[Act.eval,bH,ak,Array.getD_eq_getD_getElem?,this]
      |_=>rfl
     refine fu l (r:=true) (by unfold Region.wanted;rw[a3]) (fun _=>?_) (fun h=>by cases h)
     unfold Oper.wp
     have:(execOp a.eval A).run P w= .ok .skip {w with heap:=w.heap.setIfInBounds (D g.al) (.cells g.c g.T)}:=by
      simp[execOp,a1,aR,aU,a5 w _ hb,Result.andThen]
     rw[this]
     simp only[Oper.upon]
     refine ih _ F R D _ _ C ab au ?_ ap J Y ad ao
     rw[ar]
     exact f.filled c aE.1 aE.2 hS y av M l ag a2
theorem yB{D:Nat}(z:P.follows .mixedOrders=true)(g gh:List Nat)(vs:List Vr)(S:List Nat)(R:World->Prop)
  (l:HN n ops g gh (mz vs)=true) (e:Fits n a L0) (r:∀x∈S,x<w0.heap.size) (m:∀x∈vs,dA ops x.al=some x.d) (q:R w0) (k:cH [] R) (C:vs=[]\/∀w,R w)
  (h:aM P S w0 ops gh (jy n S w0 P ops Q vs) g L0 (fun _=>True) R):(Code.region D ops.toArray true).wp P Q a w0:=by
 have c:=vm.of l
 refine wp_region_any z ?_
 have s:∀j,(Array.replicate ops.toArray.size false).getD j true= !decide (j<ops.length):=by
  intro j
  simp[Array.getD_eq_getD_getElem?,Array.getElem?_replicate]
  split<;>simp_all
 refine St.wpAny (L0:=L0) c (EJ l) r m _ _ (fun _=>True) R (fun _=>0) a _ [] g (by simp) ?_ h (fun _ _ _ _=>trivial) k ?_ ?_
 ·have p:(fun j=>(Array.replicate ops.toArray.size false).getD j true)=fun j=> !decide (j<ops.length):=funext s
  rw[p]
  refine⟨fun i o A b=>?_,fun i u=>?_,by simp,by simp,by simp,e.size,e.defers,fun t v B _=>e.slot t v (by simpa[kd] using B),fun x f b=>?_,(Kp.refl S w0).drew,trivial,k _ _ (Kp.refl [] w0).drew q,fun x f b=>?_,fun x f y E b=>?_⟩
  ·simp[(List.getElem?_eq_some_iff.1 A).1] at b
  ·simp[c.lt i u]
  all_goals
   have:=m x f
   unfold dA at this
   cases hh:ops[x.al]? with
   |none=>rw[hh] at this;simp at this
   |some o=>simp[(List.getElem?_eq_some_iff.1 hh).1] at b
 ·rcases C with h|h
  ·exact Or.inl h
  ·exact Or.inr ⟨fun _=>trivial,h⟩
 ·refine Nat.le_trans countP_le_length ?_
  simp
end
end
section
variable{a:Act}{k:Nat}
def uN(n:Nat)(ops:List Oper)(ord gh:List Nat)(k:Nat):Bool:=
 ops.all (fun o=> !fm o.op)&&ops.all (fun o=>o.dst.all (fun d=>Nat.blt d n))&&jt (ops.filterMap (·.dst))&&
 (range k).all (fun i=>ord.elem i)&&jt ord&&pR ops gh [] [] ord&&ord.all (fun i=>Nat.blt i k)&&Nat.ble k ops.length&&
 ((range ops.length).all fun i=>((ops[i]?).map fun o=>(eE o).all (fun e=>Nat.blt e i)).getD false)&&
 ((range ops.length).all fun i=>Nat.blt i k||(range i).all (fun j=>kR ops i j))
section
variable {P:Program} {n:Nat} {ops:List Oper} {Q:Exit->Act->World->Prop} {S:List Nat} {w0:World} {L0:Env} {ord0 gh:List Nat}
structure Cn(n:Nat)(ops:List Oper)(ord gh:List Nat)(k:Nat):Prop where
 sel:∀o∈ops,fm o.op=false
 dlt:∀o∈ops,∀d,o.dst=some d->d<n
 one:∀(i j:Nat) (oi oj:Oper) (t:Nat),ops[i]?=some oi->ops[j]?=some oj->oi.dst=some t->oj.dst=some t->i=j
 cover:∀i,i<k->i∈ord
 nodup:ord.Nodup
 ok:pR ops gh [] [] ord=true
 lt:∀i∈ord,i<k
 le:k<=ops.length
 ed:∀(i:Nat) (o:Oper),ops[i]?=some o->∀e∈eE o,e<i
 tl:∀i,i<ops.length->k<=i->∀j,j<i->kR ops i j=true
theorem Cn.of(h:uN n ops ord0 gh k=true):Cn n ops ord0 gh k:=by
 simp only[uN,Bool.and_eq_true] at h
 obtain⟨⟨⟨⟨⟨⟨⟨⟨⟨c,g⟩,l⟩,m⟩,p⟩,q⟩,r⟩,s⟩,t⟩,f⟩:=h
 refine⟨fun o a=>?_,fun o a d u=>?_,eH ops (fk _ l),fun i b=>?_,fk _ p,q,fun i b=>?_,by simpa[Nat.ble_eq] using s,fun i o a e v=>?_,fun i b x j w=>?_⟩
 ·simpa using all_eq_true.1 c o a
 ·have:=all_eq_true.1 g o a
  rw[u] at this
  simpa[Nat.blt_eq] using this
 ·have:=all_eq_true.1 m i (by simpa using b)
  rw[elem_eq_mem] at this
  exact of_decide_eq_true this
 ·simpa[Nat.blt_eq] using all_eq_true.1 r i b
 ·have:=all_eq_true.1 t i (by simpa using(List.getElem?_eq_some_iff.1 a).1)
  rw[a] at this
  simp only[Option.map_some,Option.getD_some] at this
  simpa[Nat.blt_eq] using all_eq_true.1 this e v
 ·have:=all_eq_true.1 f i (by simpa using b)
  simp only[Bool.or_eq_true,Nat.blt_eq] at this
  rcases this with h|h
  ·omega
  ·exact all_eq_true.1 h j (by simpa using w)
theorem Cn.chk(c:Cn n ops ord0 gh k):vm n ops ord0 gh (mz []):=
 ⟨c.sel,c.dlt,c.one,c.nodup,c.ok,fun i a=>Nat.lt_of_lt_of_le (c.lt i a) c.le,c.ed,by simpa[mz] using c.nodup,by simp[mz],by simp[mz],Or.inl rfl⟩
theorem jO(C:∀(i:Nat) (o:Oper),ops[i]?=some o->∀e∈eE o,e<i):∀(m k:Nat) (c:Array Bool) (a:Act) (w:World),k+m=ops.length->c.size=ops.length->(∀i,i<ops.length->k<=i->∀j,j<i->kR ops i j=true)->
  (∀(i:Nat) (o:Oper),ops[i]?=some o->c.getD i true=true->∀e∈eE o,c.getD e true=true)->(∀i,i<ops.length->c.getD i true=decide (i<k))->wpList P ops.toArray Q (ops.drop k) a w->Go.wpAny P .any ops.toArray Q m c a w:=by
 intro m
 induction m with
 |zero=>
  intro k c a w R s B v d h
  have:ops.drop k=[]:=drop_eq_nil_of_le (by omega)
  rw[this] at h
  refine⟨?_,h⟩
  rw[eq_nil_iff_forall_not_mem]
  intro i y
  obtain⟨o,f,p,_⟩:=(eY s).1 y
  have q:=(List.getElem?_eq_some_iff.1 f).1
  rw[d i q] at p
  simp at p
  omega
 |succ m U=>
  intro k c a w R s B v d h
  have z:k<ops.length:=by omega
  have D:ops[k]?=some ops[k]:=by simp[z]
  have E:k∈Region.ready .any ops.toArray c:=by
   refine(eY s).2 ⟨ops[k],D,?_,fun e l=>?_⟩
   ·rw[d k z];simp
   ·have M:=C k _ D e l
    have:=d e (by omega)
    simp only[Array.getD_eq_getD_getElem?] at this⊢
    rw[Array.getElem?_eq_getElem (by omega)] at this⊢
    simp at this⊢
    rw[this]
    simp[M]
  refine⟨fun T=>(by rw[T] at E;cases E),fun i y=>?_⟩
  obtain⟨o,f,p,I⟩:=(eY s).1 y
  have q:=(List.getElem?_eq_some_iff.1 f).1
  have N:k<=i:=by
   rw[d i q] at p
   simpa using p
  have O:i=k:=by
   by_cases e:i=k
   ·exact e
   ·exfalso
    have J:=B i q N k (by omega)
    have:=fp v i o f (fun e l=>by
     have:=I e l
     simp only[Array.getD_eq_getD_getElem?] at this⊢
     cases h:c[e]? with
     |none=>rfl
     |some b=>rw[h] at this;exact this) k J
    rw[d k z] at this
    simp at this
  subst O
  have K:ops.drop i=o::ops.drop (i+1):=by
   rw[drop_eq_getElem_cons q]
   congr 1
   exact(List.getElem?_eq_some_iff.1 f).2
  rw[K] at h
  have G:∀t u,wpList P ops.toArray Q (ops.drop (i+1)) t u->Go.wpAny P .any ops.toArray Q m (c.setIfInBounds i true) t u:=by
   intro t u H
   refine U (i+1) _ t u (by omega) (by simp[s]) (fun j g W=>B j g (by omega)) ?_ ?_ H
   ·intro j V g x e l
    rw[dN (by omega)] at x⊢
    by_cases r:j=i
    ·subst r
     rw[f] at g
     cases g
     have L:=C j o f e l
     exact jV (by rw[d e (by omega)];simp[L])
    ·rw[bL r] at x
     exact jV (v j V g x e l)
   ·intro j g
    rw[dN (by omega)]
    by_cases r:j=i
    ·subst r;simp[cW]
    ·rw[bL r,d j g]
     by_cases A:j<i
     ·simp[A,Nat.lt_succ_of_lt A]
     ·have:¬j<i+1:=by omega
      simp[A,this]
  unfold wpOp
  simp only[getElem?_toArray,f]
  unfold wpList at h
  by_cases F:Region.wanted o (yielded ops.toArray a.tmps)=true
  ·rw[if_pos F] at h⊢
   rcases h with h|h
   ·exact Or.inl (Oper.wp_mono G h)
   ·exact Or.inr h
  ·rw[if_neg F] at h⊢
   exact G _ _ h
def mU(n:Nat)(S:List Nat)(w0:World)(P:Program)(ops:List Oper)(Q:Exit->Act->World->Prop)(k:Nat)(L:Env)(F R:World->Prop):Prop:=
 ∀w',Kp S w0 w'->F w'->R w'->∀a,Fits n a L->wpList P ops.toArray Q (ops.drop k) a w'
theorem St.HW(p:Cn n ops ord0 gh k):∀(C:Nat) (f:Array Bool) (F R:World->Prop) (a:Act) (w:World) (H:List qc) (K:List Nat),
  f.size=ops.length->St P n ops gh S w0 L0 ord0 [] (fun j=>f.getD j true) H K F R (fun _=>0) a w->aM P S w0 ops gh (mU n S w0 P ops Q k) K (env L0 H) F R->cH [] F->cH [] R->(∀b,b<ops.length->k<=b->f.getD b true=false)->
  (range ops.length).countP (fun b=> !f.getD b true)=C->Go.wpAny P .any ops.toArray Q C f a w:=by
 have c:=p.chk
 intro C
 induction C with
 |zero=>
  intro f F R a w H K J ai ae L ac ab ad
  rw[countP_eq_zero] at ad
  have V:∀b,b<ops.length->f.getD b true=true:=fun b r=>by simpa using ad b (by simpa using r)
  obtain⟨B,ak,d,O⟩:=St.Jm c K H ai ae
  have M:k=ops.length:=by
   have ap:=p.le
   by_cases h:k<ops.length
   ·have:=ab k h (Nat.le_refl _)
    rw[V k h] at this
    cases this
   ·omega
  rcases O with⟨rfl,hK⟩|⟨b,ord'',y,rfl,m,_⟩
  ·refine jO p.ed 0 k f a w (by omega) J p.tl d.closed (fun b r=>by rw[V b r];simp;omega) (hK w d.kp d.hF d.hR a ⟨fun t z G=>?_,d.size,d.defers⟩)
   refine d.frame t z ?_ (by simp)
   rw[ib B (fun e u _=>V e.i (c.lt e.i (d.fI u)))]
   exact G
  ·have g:=d.fresh b (by simp)
   rw[V b (List.getElem?_eq_some_iff.1 m).1] at g
   cases g
 |succ C ih=>
  intro f F R a w H K J ai ae L ac ab ad
  obtain⟨B,ak,d,O⟩:=St.Jm c K H ai ae
  have ax:aM P S w0 ops gh (mU n S w0 P ops Q k) ak (env L0 B) F R:=by
   rcases O with⟨rfl,hK⟩|⟨b,ord'',y,rfl,m,hw,hg,X,val,F',R',hgh,hd⟩
   ·exact hK
   ·exact⟨y,m,Or.inr (Or.inr (Or.inr ⟨hw,hg,X,val,F',R',hgh,hd⟩))⟩
  by_cases T:∀b,b<k->f.getD b true=true
  ·
   have ap:=p.le
   have an:∀b,b<ops.length->f.getD b true=decide (b<k):=by
    intro b r
    by_cases I:b<k
    ·rw[T b I];simp[I]
    ·rw[ab b r (by omega)];simp[I]
   have hm:k+(C+1)=ops.length:=by
    have:(range ops.length).countP (fun b=> !f.getD b true)=ops.length-k:=by
     have e1:(range ops.length).countP (fun b=> !f.getD b true)=(range ops.length).countP (fun b=> !decide (b<k)):=by
      apply countP_congr
      intro b r
      rw[an b (by simpa using r)]
     rw[e1]
     have:ops.length=k+(ops.length-k):=by omega
     rw[this,range_add,countP_append,countP_map]
     have g:(range k).countP (fun b=> !decide (b<k))=0:=by
      rw[countP_eq_zero];intro b r;simp at r;simp[r]
     have s:(range (ops.length-k)).countP ((fun b=> !decide (b<k))∘fun x=>k+x)=(range (ops.length-k)).length:=by
      rw[countP_eq_length];intro b r;simp
     rw[g,s]
     simp
    omega
   rcases O with⟨rfl,hK⟩|⟨b,ord'',y,rfl,m,_⟩
   ·refine jO p.ed (C+1) k f a w hm J p.tl d.closed an (hK w d.kp d.hF d.hR a ⟨fun t z G=>?_,d.size,d.defers⟩)
    refine d.frame t z ?_ (by simp)
    rw[ib B (fun e u _=>T e.i (p.lt e.i (d.fI u)))]
    exact G
   ·have g:=d.fresh b (by simp)
    have aA:b∈ord0:=by rw[<-d.idx];simp
    rw[T b (p.lt b aA)] at g
    cases g
  ·constructor
   ·intro E
    exfalso
    apply T
    intro b
    induction b using Nat.strongRecOn with
    |_ b aJ=>
     intro I
     have ap:=p.le
     cases hd:f.getD b true with
     |true=>rfl
     |false=>
      exfalso
      have:b∈Region.ready .any ops.toArray f:=by
       refine(eY J).2 ⟨ops[b],by simp,hd,fun e u=>?_⟩
       have az:=p.ed b ops[b] (by simp) e u
       have:=aJ e az (by omega)
       simp only[Array.getD_eq_getD_getElem?] at this⊢
       rw[Array.getElem?_eq_getElem (by omega)] at this⊢
       exact this
      rw[E] at this
      cases this
   ·intro b r
    obtain⟨y,m,aa,ay⟩:=(eY J).1 r
    have ao:b<ops.length:=(List.getElem?_eq_some_iff.1 m).1
    have af:∀e∈eE y,f.getD e true=true:=by
     intro e u
     have:=ay e u
     simp only[Array.getD_eq_getD_getElem?] at this⊢
     cases h:f[e]? with
     |none=>rfl
     |some aP=>rw[h] at this;exact this
    have W:∀j,kR ops b j=true->f.getD j true=true:=fp d.closed b y m af
    have ar:(f.setIfInBounds b true).size=ops.length:=by simp[J]
    have aq:(fun j=>(f.setIfInBounds b true).getD j true)=fw (fun j=>f.getD j true) b:=funext fun j=>dN (by omega)
    by_cases I:b<k
    ·have au:∀j,j<ops.length->k<=j->(f.setIfInBounds b true).getD j true=false:=by
      intro j Z aC
      rw[dN (by omega),bL (by omega)]
      exact ab j Z aC
     have am:(range ops.length).countP (fun j=> !(f.setIfInBounds b true).getD j true)=C:=by
      have aL:∀(l:List Nat),l.Nodup->b∈l->l.countP (fun j=> !f.getD j true)=l.countP (fun j=> !(f.setIfInBounds b true).getD j true)+1:=by
       intro l
       induction l with
       |nil=>intro _ h;cases h
       |cons al l aK=>
        intro ah hm
        rw[nodup_cons] at ah
        rw[countP_cons,countP_cons]
        by_cases e:al=b
        ·subst e
         have aI:l.countP (fun j=> !f.getD j true)=l.countP (fun j=> !(f.setIfInBounds al true).getD j true):=by
          apply countP_congr
          intro j Z
          rw[dN (by omega),bL (show j≠al from fun e1=>ah.1 (e1▸Z))]
         rw[aI,dN (by omega),cW,aa]
         simp
        ·have aE:b∈l:=by
          rcases mem_cons.1 hm with h|h
          ·exact absurd h.symm e
          ·exact h
         rw[aK ah.2 aE,dN (by omega),bL e]
         omega
      have:=aL (range ops.length) nodup_range (by simpa using ao)
      omega
     have aB:=p.cover b I
     rcases d.Ap aB with⟨e,u,rfl⟩|Y
     ·have ag:y=e.o:=Option.some.inj (m.symm.trans (d.ent e u))
      subst ag
      obtain⟨aO,aN,hD⟩:=append_of_mem u
      have D:=d.looks c hD aa W
      have aj:∀A,Kp [] w A->Go.wpAny P .any ops.toArray Q C (f.setIfInBounds e.i true) (a.put e.o.dst e.v) A:=by
       intro A M
       refine ih _ F R _ A B ak ar ?_ ax L ac au am
       rw[aq]
       exact d.did c L ac (by simp) u aa af M
      rcases d.obl aO e aN hD aa with⟨hw,N,hp⟩|⟨hw,G⟩|⟨hw,_,N,hp⟩
      ·refine fu m (dx D hw) (fun _=>?_) (fun h=>by cases h)
       have E:=hp w d.kp d.hF
       have U:=bD.congr (c.sel e.o (mem_of_getElem? m)) (fZ D N) E
       exact U.wp (fun z A ⟨g,s⟩=>by rw[g];exact aj A s)
      ·refine fu m (dx D hw) (fun h=>by cases h) (fun _=>?_)
       rw[<-G]
       exact aj w (Kp.refl _ _)
      ·refine fu m (dx D hw) (fun _=>?_) (fun h=>by cases h)
       have E:=hp w d.kp d.hF d.hR
       have U:=bD.congr (c.sel e.o (mem_of_getElem? m)) (fZ D N) E
       exact U.wp (fun z A ⟨g,s⟩=>by rw[g];exact aj A s)
     ·rcases O with⟨rfl,_⟩|⟨q,ord'',ok,rfl,hok,hw,hg,X,val,F',R',hgh,hd⟩
      ·cases Y
      ·have aF:ord0=(B.map (·.i)).reverse++q::ord'':=d.idx.symm
       obtain⟨hs,aD⟩:=iK [] ord0 c.ok _ q _ aF ok hok
       rcases mem_cons.1 Y with rfl|Y
       ·have ag:y=ok:=Option.some.inj (m.symm.trans hok)
        subst ag
        have D:∀t∈xj ops y,∀z,look (env L0 B) t=some z->a.tmps[t]?=some z:=by
         intro t ht z G
         obtain⟨g,s,h3⟩:=hs t ht
         refine d.frame t z ?_ (by simp)
         rw[ib B]
         ·exact G
         ·intro q hq aG
          exact W q.i (g q.i (Or.inr (by rw[mem_reverse];exact mem_map.2 ⟨q,hq,rfl⟩)) (by simp[dA,d.ent q hq,aG]))
        obtain⟨N,av,aw,aH⟩:=hgh
        refine fu m (dx D hw) (fun _=>?_) (fun h=>by cases h)
        have E:=aH w d.kp d.hF d.hR
        have U:=bD.congr (c.sel y (mem_of_getElem? m)) (fZ D N) E
        refine U.wp (fun z A ⟨x,g,s,h3,h4⟩=>?_)
        subst g
        refine ih _ (fun w=>F w/\F' x w) (R' x) _ A (⟨b,y,val x⟩::B) ord'' ar ?_ (hd x) (fun w1 w2 M hf=>⟨L _ _ M hf.1,av x _ _ M hf.2⟩) (aw x) au am
        rw[aq]
        exact d.ghost c rfl L m af hg h4 s h3
       ·have g:=W q ((aD hg).1 b Y)
        have s:=d.fresh q (by simp)
        rw[g] at s
        cases s
    ·exfalso
     apply T
     intro j Z
     exact W j (p.tl b ao (by omega) j (by omega))
theorem jX(k:Nat)(f gh:List Nat)(S:List Nat)(F R:World->Prop)
  (r:uN n ops f gh k=true) (d:Fits n a L0) (p:F w0) (g:cH [] F) (q:R w0) (l:cH [] R)
  (h:aM P S w0 ops gh (mU n S w0 P ops Q k) f L0 F R):Go.wpAny P .any ops.toArray Q ops.toArray.size (Array.replicate ops.toArray.size false) a {w0 with drawn:=w0.drawn+1}:=by
 have c:=Cn.of r
 have e:∀j,(Array.replicate ops.toArray.size false).getD j true= !decide (j<ops.length):=by
  intro j
  simp[Array.getD_eq_getD_getElem?,Array.getElem?_replicate]
  split<;>simp_all
 refine St.HW (L0:=L0) c _ _ F R a _ [] f (by simp) ?_ h g l ?_ ?_
 ·have m:(fun j=>(Array.replicate ops.toArray.size false).getD j true)=fun j=> !decide (j<ops.length):=funext e
  rw[m]
  refine⟨fun i o u s=>?_,fun i b=>?_,by simp,by simp,by simp,d.size,d.defers,fun t v w _=>d.slot t v (by simpa[kd] using w),by simp,(Kp.refl S w0).drew,g _ _ (Kp.refl [] w0).drew p,l _ _ (Kp.refl [] w0).drew q,by simp,by simp⟩
  ·simp[(List.getElem?_eq_some_iff.1 u).1] at s
  ·have x:=c.lt i b
   have y:=c.le
   have:i<ops.length:=by omega
   simp[this]
 ·intro i b _
  rw[e];simp[b]
 ·have:(range ops.length).countP (fun i=> !(Array.replicate ops.toArray.size false).getD i true)=(range ops.length).length:=by
   rw[countP_eq_length]
   intro i b
   rw[e]
   simp at b
   simp[b]
  rw[this]
  simp
theorem lG{l:Nat}(j:P.follows .mixedOrders=true)(k:Nat)(b gh:List Nat)(S:List Nat)(F R:World->Prop)
  (i:uN n ops b gh k=true) (g:Fits n a L0) (c:F w0) (d:cH [] F) (e:R w0) (f:cH [] R)
  (h:aM P S w0 ops gh (mU n S w0 P ops Q k) b L0 F R):(Code.region l ops.toArray true).wp P Q a w0:=wp_region_any j (jX k b gh S F R i g c d e f h)
end
end
section
variable{af:Array Edge}{z:Array Value}{c x y:Code}{K:Env->(World->Prop)->(World->Prop)->Prop}{S gh ord:List Nat}{ops rest:List Oper}{al d i id id' pt:Nat}{o:Oper}{g:Option (Nat×Bool)}{pos:String}{X:Type}{T ty:TypeId}{v:Value}{w0:World}{F R:World->Prop}
section
variable {P:Program} {n:Nat} {Q:Exit->Act->World->Prop} {L:Env} {w:World}
def CG(P:Program)(n:Nat)(c:Code)(Q:Exit->Act->World->Prop)(L:Env)(w:World):Prop:=∀a,Fits n a L->c.wp P Q a w
def NG(n:Nat)(e:Exit)(Q:Exit->Act->World->Prop)(L:Env)(w:World):Prop:=∀a,Fits n a L->Q e a w
theorem enter{f:FuncId}{fn:Func}{args:Array Value}{R:Ending->World->Prop}(d:P.funcs[f]?=some fn)(b:fn.body=some c)(m:Nat)(g:fn.ntmps=m)(j:args.size<=m)
  (L:Env) (a:∀t v,look L t=some v->args[t]?=some v) (h:CG P m c (bodyPost P fn R) L w):Calls P f args w R:=by
 refine calls_of_wp d b (h _ ⟨fun t v i=>?_,?_,rfl⟩)
 ·have:=a t v i
  have e:t<args.size:=(Array.getElem?_eq_some_iff.1 this).1
  simp[Array.getElem?_append_left e,this]
 ·simp[g];omega
theorem CG.skip(h:NG n .normal Q L w):CG P n .skip Q L w:=fun a b=>wp_skip (h a b)
theorem CG.label{l:Nat}(h:NG n .normal Q L w):CG P n (.label l) Q L w:=fun a b=>wp_label (h a b)
theorem CG.exit(h:NG n (.exit id) Q L w):CG P n (.exit id) Q L w:=fun a b=>wp_exit (h a b)
theorem CG.ret(h:NG n .ret Q L w):CG P n .ret Q L w:=fun a b=>wp_ret (h a b)
theorem CG.seq(h:CG P n x (Exit.then (y.wp P Q) Q) L w):CG P n (.seq x y) Q L w:=fun a b=>wp_seq (h a b)
theorem CG.block(h:CG P n c (Exit.inBlock id Q) L w):CG P n (.block id c) Q L w:=fun a b=>wp_block (h a b)
theorem CG.scope(h:CG P n c (Exit.noGoto Q) L w):CG P n (.scope c) Q L w:=fun a b=>wp_scope_straight (h a b)
theorem CG.cond{c:Operand}{b:Bool}(i:known L c=true)(g:bH L c= .bool b)(e:b=true->CG P n x Q L w)(f:b=false->CG P n y Q L w):CG P n (.cond c x y) Q L w:=
 fun a d=>wp_cond_split (t:=b) (by rw[d.eval i,g]) (fun h=>e h a d) (fun h=>f h a d)
theorem CG.uj(M:Env->World->Prop)(h:CG P n x (Exit.then (fun a w=>∃L,Fits n a L/\M L w) Q) L w)(d:∀L w,M L w->CG P n y Q L w):CG P n (.seq x y) Q L w:=by
 refine CG.seq (fun a g=>wp_mono (h a g) (fun e a w b=>?_))
 cases e<;>first|exact b|(obtain⟨L,c,f⟩:=b;exact d L w f a c)
theorem NG.cut{M:Env->World->Prop}(h:M L w):NG n .normal (Exit.then (fun a w=>∃L,Fits n a L/\M L w) Q) L w:=fun a b=>⟨L,b,h⟩
theorem NG.next(h:CG P n y Q L w):NG n .normal (Exit.then (y.wp P Q) Q) L w:=h
theorem NG.BV{K:Act->World->Prop}(h:NG n (.exit id) Q L w):NG n (.exit id) (Exit.then K Q) L w:=h
theorem NG.Ds{K:Act->World->Prop}(h:NG n .ret Q L w):NG n .ret (Exit.then K Q) L w:=h
theorem NG.Bj(h:NG n .ret Q L w):NG n .ret (Exit.inBlock id Q) L w:=h
theorem NG.ux(h:NG n .normal Q L w):NG n .normal (Exit.inBlock id Q) L w:=h
theorem NG.zn(c:Nat.beq id id'=true)(h:NG n .normal Q L w):NG n (.exit id) (Exit.inBlock id' Q) L w:=fun a b=>by
 simp only[Exit.inBlock,Nat.eq_of_beq_eq_true c,if_true];exact h a b
theorem NG.nj(c:Nat.beq id id'=false)(h:NG n (.exit id) Q L w):NG n (.exit id) (Exit.inBlock id' Q) L w:=fun a b=>by
 simp only[Exit.inBlock];rw[if_neg (Nat.ne_of_beq_eq_false c)];exact h a b
theorem NG.Bi(h:NG n .ret Q L w):NG n .ret (Exit.noGoto Q) L w:=h
theorem NG.uw(h:NG n .normal Q L w):NG n .normal (Exit.noGoto Q) L w:=h
theorem NG.zm(h:NG n (.exit id) Q L w):NG n (.exit id) (Exit.noGoto Q) L w:=h
theorem exists_least(p:X->Prop)(μ:X->Nat)(h:∃x,p x):∃x,p x/\∀y,p y->μ x<=μ y:=by
 obtain⟨x,b⟩:=h
 have:∀m (x:X),p x->μ x=m->∃x,p x/\∀y,p y->μ x<=μ y:=by
  intro m
  induction m using Nat.strongRecOn with
  |_ m d=>
   intro x b f
   by_cases a:∃y,p y/\μ y<μ x
   ·obtain⟨y,a,e⟩:=a
    exact d (μ y) (by omega) y a rfl
   ·refine⟨x,b,fun y c=>?_⟩
    by_cases h:μ x<=μ y
    ·exact h
    ·exact absurd ⟨y,c,by omega⟩ a
 exact this _ x b rfl
open Classical in
noncomputable def leastOf{X:Type}(p:X->Prop)(μ:X->Nat):Nat:=if h:∃x,p x then μ (Classical.choose (exists_least p μ h)) else 0
theorem zf{p:X->Prop}{μ:X->Nat}{x:X}(a:p x):leastOf p μ<=μ x:=by
 unfold leastOf
 have h:∃x,p x:=⟨x,a⟩
 rw[dif_pos h]
 exact(Classical.choose_spec (exists_least p μ h)).2 x a
theorem zg{p:X->Prop}{μ:X->Nat}(h:∃x,p x):∃x,p x/\leastOf p μ=μ x:=by
 unfold leastOf
 rw[dif_pos h]
 exact⟨_,(Classical.choose_spec (exists_least p μ h)).1,rfl⟩
def aS:Env->Env->Prop
 |[],_=>True
 |(s,v)::M,L=>look L s=some v/\aS M L
theorem aS.of:∀{M L:Env},M.map (fun p=>Go.Proofs.YtpnjgjddabeapaaGreatDoor.look L p.1)=M.map (fun p=>some p.2)->aS M L
 |[],_,_=>True.intro
 |(s,v)::M,L,h=>by
  simp only[map_cons,List.cons.injEq] at h
  exact⟨h.1,aS.of h.2⟩
theorem aS.look:∀{M L:Env},aS M L->∀t v,look M t=some v->Go.Proofs.YtpnjgjddabeapaaGreatDoor.look L t=some v
 |[],_,_,t,v,h=>by simp[Go.Proofs.YtpnjgjddabeapaaGreatDoor.look] at h
 |(s,u)::M,L,a,t,v,h=>by
  by_cases e:s=t
  ·subst e
   rw[jI] at h
   cases h
   exact a.1
  ·rw[oq e] at h
   exact aS.look a.2 t v h
theorem CG.to(b:Env)(e:aS b L)(h:CG P n c Q b w):CG P n c Q L w:=fun a d=>h a (d.sub e.look)
theorem CG.loop(b:X->Env)(d:X->World->Prop)(μ:X->Nat)(g:X)(l:d g w)(p:aS (b g) L)
  (h:∀x w,d x w->CG P n c (Exit.then (fun a w=>∃f,Fits n a (b f)/\d f w/\μ f<μ x) Q) (b x) w):CG P n (.loop c) Q L w:=by
 intro a q
 refine wp_loop (fun a w=>∃x,Fits n a (b x)/\d x w) (fun a w=>leastOf (fun x=>Fits n a (b x)/\d x w) μ) ⟨g,q.sub p.look,l⟩ ?_
 intro a w o
 obtain⟨x,⟨r,t⟩,s⟩:=zg (μ:=μ) o
 rw[s]
 refine wp_mono (h x w t a r) (fun e u v k=>?_)
 cases e<;>first|exact k|skip
 obtain⟨f,i,j,m⟩:=k
 exact⟨⟨f,i,j⟩,Nat.lt_of_le_of_lt (zf ⟨i,j⟩) m⟩
theorem NG.round{c:X->Env}{d:X->World->Prop}{μ:X->Nat}{x:X}(b:X)(e:aS (c b) L)(g:d b w)(h:μ b<μ x):
  NG n .normal (Exit.then (fun a w=>∃b,Fits n a (c b)/\d b w/\μ b<μ x) Q) L w:=fun a f=>⟨b,f.sub e.look,g,h⟩
def SG(P:Program)(n:Nat)(ops:List Oper)(Q:Exit->Act->World->Prop)(rest:List Oper)(L:Env)(w:World):Prop:=∀a,Fits n a L->wpList P ops.toArray Q rest a w
theorem CG.region(h:SG P n ops Q ops L w):CG P n (.region id ops.toArray false) Q L w:=fun a b=>wp_region_lit (h a b)
theorem SG.nil(h:NG n .normal Q L w):SG P n ops Q [] L w:=fun a b=>wpList_nil (h a b)
theorem SG.op(c:o.dst.all (fun d=>Nat.blt d n)=true)(j:fm o.op=false)(m:want ops L o=some true)(h:o.op.operands.toList.all (known L)=true)
  (i:bD P (bH L) o w (fun v f=>SG P n ops Q rest (im o.dst v L) f)):SG P n ops Q (o::rest) L w:=by
 intro a b
 have e:∀t∈xj ops o,∀v,look L t=some v->a.tmps[t]?=some v:=fun t _ v l=>b.slot t v l
 have p:=dx e m
 refine wpList_step (fun K g=>?_)
 rw[if_pos p]
 refine(bD.congr j (fZ e h) i).wp (fun v f k=>g _ _ (k _ ?_))
 cases hdd:o.dst with
 |none=>exact b
 |some d=>
  rw[hdd] at c
  exact b.put d v (by simpa[Nat.blt_eq] using c)
theorem SG.skip(c:o.dst.all (fun d=>Nat.blt d n)=true)(i:want ops L o=some false)
  (g:SG P n ops Q rest (im o.dst undef L) w):SG P n ops Q (o::rest) L w:=by
 intro a b
 have f:∀t∈xj ops o,∀v,look L t=some v->a.tmps[t]?=some v:=fun t _ v h=>b.slot t v h
 have j:=dx f i
 refine wpList_step (fun K e=>?_)
 rw[if_neg (by rw[j];simp)]
 refine e _ _ (g _ ?_)
 cases hdd:o.dst with
 |none=>exact b
 |some d=>
  rw[hdd] at c
  exact b.put d undef (by simpa[Nat.blt_eq] using c)
def aP(P:Program)(S:List Nat)(w0:World)(F:World->Prop)(L:Env)(o:Oper)(v:Value):Prop:=∀w,Kp S w0 w->F w->(execOp (bH L) o).run P w= .ok (.value v) w
theorem aM.val{a:Op}
  (h:ops[i]?=some ⟨some d,a,ty,pos,af,g⟩) (k:want ops L ⟨some d,a,ty,pos,af,g⟩=some true) (e:a.operands.toList.all (known L)=true) (j:aP P S w0 F L ⟨some d,a,ty,pos,af,g⟩ v)
  (c:aM P S w0 ops gh K ord ((d,v)::L) F R):aM P S w0 ops gh K (i::ord) L F R:=
 ⟨_,h,Or.inr (Or.inl ⟨k,v,⟨e,fun w f b=>by unfold bD;rw[j w f b];exact⟨rfl,Kp.refl _ _⟩⟩,c⟩)⟩
theorem aM.skip{a:Op}
  (c:ops[i]?=some ⟨some d,a,ty,pos,af,g⟩) (e:want ops L ⟨some d,a,ty,pos,af,g⟩=some false)
  (b:aM P S w0 ops gh K ord ((d,undef)::L) F R):aM P S w0 ops gh K (i::ord) L F R:=
 ⟨_,c,Or.inl ⟨e,b⟩⟩
theorem aM.run{a:Op}(v:Value)
  (e:ops[i]?=some ⟨some d,a,ty,pos,af,g⟩) (h:want ops L ⟨some d,a,ty,pos,af,g⟩=some true) (c:a.operands.toList.all (known L)=true) (f:∀w,Kp S w0 w->F w->bD P (bH L) ⟨some d,a,ty,pos,af,g⟩ w (fun j k=>j=v/\Kp [] w k))
  (b:aM P S w0 ops gh K ord ((d,v)::L) F R):aM P S w0 ops gh K (i::ord) L F R:=
 ⟨_,e,Or.inr (Or.inl ⟨h,v,⟨c,f⟩,b⟩)⟩
theorem aM.ghost(val:X->Value)(b c:X->World->Prop)
  (u:ops[i]?=some o) (z:want ops L o=some true) (g:gh.elem i=true) (t:o.op.operands.toList.all (known L)=true) (p:∀x,cH S (b x)) (r:∀x,cH [] (c x))
  (q:cH S F) (y:∀w,Kp S w0 w->F w->R w->bD P (bH L) o w (fun v a=>∃x,v=val x/\b x a/\c x a/\Kp S w a))
  (s:∀x,aM P S w0 ops gh K ord (im o.dst (val x) L) (fun w=>F w/\b x w) (c x)):aM P S w0 ops gh K (i::ord) L F R:=
 ⟨_,u,Or.inr (Or.inr (Or.inr ⟨z,by rw[elem_eq_mem] at g;exact of_decide_eq_true g,X,val,b,c,⟨t,fun x w a h=>p x w a h.any,r,fun w e f m=>(y w e f m).mono (fun v a ⟨x,j,k,l,d⟩=>⟨x,j,⟨q _ _ d f,k⟩,l,e.trans d⟩)⟩,s⟩))⟩
theorem aM.LO{a:Op}
  (k:ops[i]?=some ⟨some d,a,ty,pos,af,g⟩) (m:want ops L ⟨some d,a,ty,pos,af,g⟩=some true) (b:gh.elem (i+1000)=true) (h:a.operands.toList.all (known L)=true) (l:∀w,Kp S w0 w->F w->R w->(execOp (bH L) ⟨some d,a,ty,pos,af,g⟩).run P w= .ok (.value v) w)
  (f:aM P S w0 ops gh K ord ((d,v)::L) F R):aM P S w0 ops gh K (i::ord) L F R:=
 ⟨_,k,Or.inr (Or.inr (Or.inl ⟨m,by rw[elem_eq_mem] at b;exact of_decide_eq_true b,v,⟨h,fun w j c e=>by unfold bD;rw[l w j c e];exact⟨rfl,Kp.refl _ _⟩⟩,f⟩))⟩
theorem aM.rG(val:X->Value)(a b:X->World->Prop)
  (j:ops[i]?=some o) (l:want ops L o=some true) (d:gh.elem i=true) (h:o.op.operands.toList.all (known L)=true) (e:∀x,cH [] (a x)) (f:∀x,cH [] (b x))
  (k:∀w,Kp S w0 w->F w->R w->bD P (bH L) o w (fun v c=>∃x,v=val x/\(F c/\a x c)/\b x c/\Kp S w0 c))
  (g:∀x,aM P S w0 ops gh K ord (im o.dst (val x) L) (fun w=>F w/\a x w) (b x)):aM P S w0 ops gh K (i::ord) L F R:=
 ⟨_,j,Or.inr (Or.inr (Or.inr ⟨l,by rw[elem_eq_mem] at d;exact of_decide_eq_true d,X,val,a,b,⟨h,e,f,k⟩,g⟩))⟩
theorem SG.val{a:Op}
  (b:Nat.blt d n=true) (f:fm a=false) (i:want ops L ⟨some d,a,ty,pos,af,g⟩=some true) (c:a.operands.toList.all (known L)=true) (h:aP P [] w (fun _=>True) L ⟨some d,a,ty,pos,af,g⟩ v)
  (e:SG P n ops Q rest ((d,v)::L) w):SG P n ops Q (⟨some d,a,ty,pos,af,g⟩::rest) L w:=by
 refine SG.op (by simpa using b) f i c ?_
 unfold bD
 rw[h w (Kp.refl _ _) trivial]
 exact e
theorem au{b:Op}
  (a:(Nat.blt d n&&(!fm b&&(want ops L ⟨some d,b,ty,pos,af,g⟩==some true&&b.operands.toList.all (known L))))=true) (e:aP P [] w (fun _=>True) L ⟨some d,b,ty,pos,af,g⟩ v)
  (c:SG P n ops Q rest ((d,v)::L) w):SG P n ops Q (⟨some d,b,ty,pos,af,g⟩::rest) L w:=by
 simp only[Bool.and_eq_true,Bool.not_eq_true',beq_iff_eq] at a
 exact SG.val a.1 a.2.1 a.2.2.1 a.2.2.2 e c
theorem bW{a:Op}
  (e:ops[i]?=some ⟨some d,a,ty,pos,af,g⟩) (b:(want ops L ⟨some d,a,ty,pos,af,g⟩==some true&&a.operands.toList.all (known L))=true) (f:aP P S w0 F L ⟨some d,a,ty,pos,af,g⟩ v)
  (c:aM P S w0 ops gh K ord ((d,v)::L) F R):aM P S w0 ops gh K (i::ord) L F R:=by
 simp only[Bool.and_eq_true,beq_iff_eq] at b
 exact aM.val e b.1 b.2 f c
class vl(g:Prop)(g':outParam Prop):Prop where
 st:g'->g
theorem ar{g a:Prop}[s:vl g a](h:a):g:=s.st h
section
variable {x y:Code} {id:Nat} {c:Code} {ops:List Oper} {K:Act->World->Prop}
instance WJ:vl (CG P n (.seq x y) Q L w) (CG P n x (Exit.then (y.wp P Q) Q) L w):=⟨CG.seq⟩
instance WI:vl (CG P n (.region id ops.toArray false) Q L w) (SG P n ops Q ops L w):=⟨CG.region⟩
instance WH:vl (SG P n ops Q [] L w) (NG n .normal Q L w):=⟨SG.nil⟩
instance WG:vl (NG n .normal (Exit.then (y.wp P Q) Q) L w) (CG P n y Q L w):=⟨NG.next⟩
instance WE:vl (CG P n .skip Q L w) (NG n .normal Q L w):=⟨CG.skip⟩
instance WD:vl (CG P n (.block id c) Q L w) (CG P n c (Exit.inBlock id Q) L w):=⟨CG.block⟩
instance WC:vl (CG P n .ret Q L w) (NG n .ret Q L w):=⟨CG.ret⟩
instance WB:vl (CG P n (.exit id) Q L w) (NG n (.exit id) Q L w):=⟨CG.exit⟩
instance WA:vl (CG P n (.scope c) Q L w) (CG P n c (Exit.noGoto Q) L w):=⟨CG.scope⟩
instance gsa:vl (NG n .ret (Exit.then K Q) L w) (NG n .ret Q L w):=⟨NG.Ds⟩
instance Wz:vl (NG n .ret (Exit.inBlock id Q) L w) (NG n .ret Q L w):=⟨NG.Bj⟩
instance Wy:vl (NG n .ret (Exit.noGoto Q) L w) (NG n .ret Q L w):=⟨NG.Bi⟩
instance Ww:vl (NG n (.exit id) (Exit.then K Q) L w) (NG n (.exit id) Q L w):=⟨NG.BV⟩
instance Wv:vl (NG n (.exit id) (Exit.inBlock id Q) L w) (NG n .normal Q L w):=⟨fun h=>NG.zn (Nat.beq_refl id) h⟩
instance Wu:vl (NG n (.exit id) (Exit.noGoto Q) L w) (NG n (.exit id) Q L w):=⟨NG.zm⟩
instance Wt:vl (NG n .normal (Exit.inBlock id Q) L w) (NG n .normal Q L w):=⟨NG.ux⟩
instance Ws:vl (NG n .normal (Exit.noGoto Q) L w) (NG n .normal Q L w):=⟨NG.uw⟩
end
theorem CG.draw(k:P.follows .mixedOrders=true)(c b:List Nat)(vs:List Vr)(S:List Nat)(R:World->Prop)
  (j:HN n ops c b (mz vs)=true) (g:∀x∈S,x<w.heap.size) (m:∀x∈vs,dA ops x.al=some x.d) (e:R w) (f:cH [] R) (l:vs=[]\/∀w,R w)
  (h:aM P S w ops b (jy n S w P ops Q vs) c L (fun _=>True) R):CG P n (.region id ops.toArray true) Q L w:=
 fun a i=>yB k c b vs S R j i g m e f l h
theorem CG.fh(d:P.follows .mixedOrders=true)(b a:List Nat)(c:HN n ops b a []=true)
  (h:aM P [] w ops a (jy n [] w P ops Q []) b L (fun _=>True) (fun _=>True)):CG P n (.region id ops.toArray true) Q L w:=
 CG.draw d b a [] [] (fun _=>True) c (by simp) (by simp) trivial (fun _ _ _ _=>trivial) (Or.inl rfl) h
theorem CG.tail(e:P.follows .mixedOrders=true)(k:Nat)(b:List Nat)(d:uN n ops b [] k=true)
  (h:aM P [] w ops [] (mU n [] w P ops Q k) b L (fun _=>True) (fun _=>True)):CG P n (.region id ops.toArray true) Q L w:=
 fun a c=>lG e k b [] [] (fun _=>True) (fun _=>True) d c trivial (fun _ _ _ _=>trivial) trivial (fun _ _ _ _=>trivial) h
theorem CG.dS(i:P.follows .mixedOrders=true)(k:Nat)(c b:List Nat)(S:List Nat)(R:World->Prop)(g:uN n ops c b k=true)(d:R w)(e:cH [] R)
  (h:aM P S w ops b (mU n S w P ops Q k) c L (fun _=>True) R):CG P n (.region id ops.toArray true) Q L w:=
 fun a f=>lG i k c b S (fun _=>True) R g f trivial (fun _ _ _ _=>trivial) d e h
theorem CG.JX(l:P.follows .mixedOrders=true)(k:Nat)(c b:List Nat)(S:List Nat)(F R:World->Prop)(j:uN n ops c b k=true)(d:F w)(e:cH [] F)(f:R w)(g:cH [] R)
  (h:aM P S w ops b (mU n S w P ops Q k) c L F R):CG P n (.region id ops.toArray true) Q L w:=
 fun a i=>lG l k c b S F R j i d e f g h
theorem aM.tl{k:Nat}(h:∀a,Kp S w0 a->F a->R a->SG P n ops Q (ops.drop k) L a):aM P S w0 ops gh (mU n S w0 P ops Q k) [] L F R:=h
theorem aM.choose{Y:Type}{S:List Nat}{w0:World}{d:List Oper}{K:Y->Env->(World->Prop)->(World->Prop)->Prop}:∀{b:List Nat} {L:Env} {F R:World->Prop},aM P S w0 d [] (fun L F R=>∃y,K y L F R) b L F R->∃y,aM P S w0 d [] (K y) b L F R
 |[],_,_,_,h=>h
 |i::b,L,F,R,⟨o,c,h⟩=>by
  rcases h with⟨hw,hd⟩|⟨hw,v,hp,hd⟩|⟨_,hg,_⟩|⟨_,hg,_⟩
  ·obtain⟨y,a⟩:=aM.choose hd
   exact⟨y,o,c,Or.inl ⟨hw,a⟩⟩
  ·obtain⟨y,a⟩:=aM.choose hd
   exact⟨y,o,c,Or.inr (Or.inl ⟨hw,v,hp,a⟩)⟩
  ·cases hg
  ·cases hg
def KV(n:Nat)(w0:World)(P:Program)(ops:List Oper)(Q:Exit->Act->World->Prop)(vss:List (Nat×Nat×Nat×Operand))(L:Env)(F R:World->Prop):Prop:=
 ∃vs:List Vr,mz vs=vss/\jy n [] w0 P ops Q vs L F R
theorem CG.fA(q:P.follows .mixedOrders=true)(a:List Nat)(f:List (Nat×Nat×Nat×Operand))(m:HN n ops a [] f=true)(r:f.all (fun v=>(dA ops v.1)==some v.2.2.1)=true)
  (h:aM P [] w ops [] (KV n w P ops Q f) a L (fun _=>True) (fun _=>True)):CG P n (.region id ops.toArray true) Q L w:=by
 obtain⟨c,b⟩:=aM.choose h
 by_cases k:mz c=f
 ·subst k
  have p:aM P [] w ops [] (jy n [] w P ops Q c) a L (fun _=>True) (fun _=>True):=by
   have t:∀{a:List Nat} {L:Env} {F R:World->Prop},aM P [] w ops [] (fun L F R=>mz c=mz c/\jy n [] w P ops Q c L F R) a L F R->aM P [] w ops [] (jy n [] w P ops Q c) a L F R:=by
    intro a
    induction a with
    |nil=>intro L F R h;exact h.2
    |cons i a e=>
     intro L F R ⟨o,j,h⟩
     rcases h with⟨hw,b⟩|⟨hw,v,hp,b⟩|⟨_,hg,_⟩|⟨_,hg,_⟩
     ·exact⟨o,j,Or.inl ⟨hw,e b⟩⟩
     ·exact⟨o,j,Or.inr (Or.inl ⟨hw,v,hp,e b⟩)⟩
     ·cases hg
     ·cases hg
   exact t b
  refine CG.draw q a [] c [] (fun _=>True) m (by simp) (fun g s=>?_) trivial (fun _ _ _ _=>trivial) (Or.inr fun _=>trivial) p
  have:=all_eq_true.1 r (g.al,g.pt,g.d,g.x) (mem_map.2 ⟨g,s,rfl⟩)
  simpa using this
 ·exfalso
  have l:∀{a:List Nat} {L:Env} {F R:World->Prop},aM P [] w ops [] (fun L F R=>mz c=f/\jy n [] w P ops Q c L F R) a L F R->False:=by
   intro a
   induction a with
   |nil=>intro L F R h;exact k h.1
   |cons i a e=>
    intro L F R ⟨o,j,h⟩
    rcases h with⟨hw,b⟩|⟨hw,v,hp,b⟩|⟨_,hg,_⟩|⟨_,hg,_⟩
    ·exact e b
    ·exact e b
    ·cases hg
    ·cases hg
  exact l b
theorem jy.Vl(h:∀b,Kp S w0 b->F b->R b->NG n .normal Q L b):jy n S w0 P ops Q [] L F R:=
 ⟨by simp,fun d a b c=>h b c.kp c.hF c.hR a (by simpa using c.fits)⟩
theorem jy.Vk{v:Vr}(g:fq P ops L v)(h:∀b e,Kp S w0 e->F e->R e->w0.heap.size<=b->aG e b (.cells v.c v.T)->NG n .normal Q ((v.d,.pointer (some ⟨b,0,none⟩))::L) e):jy n S w0 P ops Q [v] L F R:=
 ⟨by simpa using g,fun i a e f=>h (i v.al) e f.kp f.hF f.hR (f.vw v (by simp)).1 (f.vw v (by simp)).2 a (by simpa using f.fits)⟩
theorem jy.Vj{v u:Vr}(k:fq P ops L v)(hu:fq P ops L u)(j:Nat.beq v.al u.al=false)
  (h:∀b g f,Kp S w0 f->F f->R f->w0.heap.size<=b->w0.heap.size<=g->b≠g->aG f b (.cells v.c v.T)->aG f g (.cells u.c u.T)->NG n .normal Q ((v.d,.pointer (some ⟨b,0,none⟩))::(u.d,.pointer (some ⟨g,0,none⟩))::L) f):jy n S w0 P ops Q [v,u] L F R:=
 ⟨by simpa using⟨k,hu⟩,fun i a f e=>h (i v.al) (i u.al) f e.kp e.hF e.hR (e.vw v (by simp)).1 (e.vw u (by simp)).1 (e.vd v (by simp) u (by simp) (Nat.ne_of_beq_eq_false j)) (e.vw v (by simp)).2 (e.vw u (by simp)).2 a (by simpa using e.fits)⟩
theorem aM.one{x:Operand}{c:Array Value}(i:fq P ops L ⟨al,pt,d,T,x,z,c⟩)(h:∀b a,Kp [] w0 a->w0.heap.size<=b->aG a b (.cells c T)->NG n .normal Q ((d,.pointer (some ⟨b,0,none⟩))::L) a):
  aM P [] w0 ops [] (KV n w0 P ops Q [(al,pt,d,x)]) [] L F R:=
 ⟨[⟨al,pt,d,T,x,z,c⟩],rfl,jy.Vk i (fun b a g _ _ f e=>h b a g f e)⟩
theorem aM.two{x:Operand}{c:Array Value}{e i g:Nat}{T':TypeId}{j:Operand}{k c':Array Value}(t:fq P ops L ⟨al,pt,d,T,x,z,c⟩)(hu:fq P ops L ⟨e,i,g,T',j,k,c'⟩)(s:Nat.beq al e=false)
  (h:∀b f a,Kp [] w0 a->w0.heap.size<=b->w0.heap.size<=f->b≠f->aG a b (.cells c T)->aG a f (.cells c' T')->NG n .normal Q ((d,.pointer (some ⟨b,0,none⟩))::(g,.pointer (some ⟨f,0,none⟩))::L) a):
  aM P [] w0 ops [] (KV n w0 P ops Q [(al,pt,d,x),(e,i,g,j)]) [] L F R:=
 ⟨[⟨al,pt,d,T,x,z,c⟩,⟨e,i,g,T',j,k,c'⟩],rfl,jy.Vj t hu s (fun b c a r _ _ o q p l m=>h b c a r o q p l m)⟩
theorem aM.fin(h:∀a,Kp S w0 a->F a->R a->NG n .normal Q L a):aM P S w0 ops gh (jy n S w0 P ops Q []) [] L F R:=jy.Vl h
end
end
section
variable{cs:Array Value}{l:List Value}{b k o off:Nat}{f:Nat×Nat}{d:TypeDesc}{T:TypeId}{i:TypeInfo}{v:Value}{w w':World}
class Ut(P:Program)(T:TypeId)(d:outParam TypeDesc):Type where
 eq:P.underlying T=some d
class dJ(P:Program)(T:TypeId)(i:outParam TypeInfo):Prop where
 eq:P.info? T=some i
class cE(P:Program)(T:TypeId)(k:Nat)(off:outParam Nat)(ft:outParam TypeId):Prop where
 mk'::(eq:∃fs fd i,P.underlying T=some (.struct fs)/\fs[k]?=some fd/\fd.offset=off/\fd.type=ft/\P.info? ft=some i/\i.size≠0)
theorem cE.mk{P:Program}{c:TypeId}(b:Array Field)(a:Field)(i:TypeInfo)(h:P.underlying T=some (.struct b))(d:b[k]?=some a)(e:a.offset=off)(f:a.type=c)(g:P.info? c=some i)(j:i.size≠0):cE P T k off c:=⟨⟨b,a,i,h,d,e,f,g,j⟩⟩
class Sz(P:Program)(T:TypeId)(n:outParam Nat):Prop where
 mk'::(eq:∃i,P.info? T=some i/\i.size=n)
def pE:TypeDesc->Bool
 | .struct _| .array _ _=>true
 |_=>false
def Row(w:World)(b off:Nat)(l:List Value):Prop:=∃cs T f,w.heap[b]?=some (.cells cs T f)/\∀i v,l[i]?=some v->cs[off+i]?=some v
theorem Row.lt(h:Row w b off l):b<w.heap.size:=by
 obtain⟨c,T,f,a,_⟩:=h
 exact(Array.getElem?_eq_some_iff.1 a).1
theorem Row.kp{S:List Nat}(h:Row w b off l)(k:Kp S w w')(c:b∉S):Row w' b off l:=by
 have g:=h.lt
 obtain⟨a,T,f,e,d⟩:=h
 exact⟨a,T,f,(k.blk b g c).trans e,d⟩
theorem Row.az(h:Row w b off l)(k:Kp [] w w'):Row w' b off l:=h.kp k (by simp)
theorem Row.of(h:aG w b (.cells cs T f))(pre post:List Value)(c:cs.toList=pre++(l++post))(e:pre.length=off):Row w b off l:=by
 refine⟨cs,T,f,h,fun i v a=>?_⟩
 have d:i<l.length:=(List.getElem?_eq_some_iff.1 a).1
 rw[<-Array.getElem?_toList,c,getElem?_append_right (by omega),getElem?_append_left (by omega)]
 rw[<-a]
 congr 1
 omega
theorem Row.all(h:aG w b (.cells cs T f))(a:cs.toList=l):Row w b 0 l:=Row.of h [] [] (by simp[a]) rfl
theorem Row.cell(h:Row w b off l){i:Nat}(d:l[i]?=some v):w.cell? ⟨b,off+i,none⟩=some v:=by
 obtain⟨e,T,f,a,c⟩:=h
 simp[World.cell?,a,c i v d]
section
variable {P:Program} {w:World}
theorem jD[u:Ut P T d]:(isAgg T).run P w= .ok (pE d) w:=by
 simp only[isAgg,Sem.run_bind,run_underlying u.eq,Result.andThen]
 cases d<;>rfl
theorem lC[f:dJ P T i]:(sizeOf T).run P w= .ok i.size w:=by
 simp[sizeOf,typeInfo,f.eq]
theorem lB[f:dJ P T i]{z:Value}(a:i.zero=some z):(zeroValue T).run P w= .ok z w:=by
 simp[zeroValue,typeInfo,f.eq,a]
theorem dQ(b o n:Nat):(⟨b,o,none⟩:Addr).add n=⟨b,o+n,none⟩:=by
 unfold Addr.add
 split
 ·subst_vars;rfl
 ·rfl
theorem mP(h:w.cell? ⟨b,o,none⟩=some v):(load ⟨b,o,none⟩).run P w= .ok v w:=by
 simp[load,Sem.run,h]
theorem run_loadCellsFrom{b off:Nat}{l:List Value}(h:Row w b off l):∀(m i:Nat) (a:Array Value),i+m=l.length->(loadCellsFrom ⟨b,off,none⟩ i m a).run P w= .ok (a++(l.drop i).toArray) w
 |0,i,a,d=>by
  have:l.drop i=[]:=drop_eq_nil_of_le (by omega)
  simp[loadCellsFrom,this]
 |m+1,i,a,d=>by
  have c:i<l.length:=by omega
  simp only[loadCellsFrom,Sem.run_bind,dQ]
  rw[mP (h.cell (getElem?_eq_getElem c))]
  simp only[Result.andThen]
  rw[run_loadCellsFrom h m (i+1) _ (by omega)]
  congr 1
  rw[drop_eq_getElem_cons c]
  simp
theorem iJ[u:Ut P T d][f:dJ P T i](a:pE d=true)(h:Row w b off l)(c:l.length=i.size):
  (Instr.loadAt T (.pointer (some ⟨b,off,none⟩))).run P w= .ok (.agg l.toArray) w:=by
 simp only[Instr.loadAt,Instr.sureAddr,loadVar,loadCells,Sem.run_bind,Sem.run_pure,Result.andThen,jD (u:=u),a,if_true,lC (f:=f)]
 rw[run_loadCellsFrom h i.size 0 _ (by omega)]
 simp
theorem qe[u:Ut P T d](a:pE d=false)(h:Row w b off [v]):
  (Instr.loadAt T (.pointer (some ⟨b,off,none⟩))).run P w= .ok v w:=by
 simp only[Instr.loadAt,Instr.sureAddr,loadVar,Sem.run_bind,Sem.run_pure,Result.andThen,jD (u:=u),a]
 exact mP (h.cell (i:=0) rfl)
def jT(cs:List Value)(off:Nat)(l:List Value):List Value:=cs.take off++(l++cs.drop (off+l.length))
theorem jS{cs:List Value}(h:off+l.length<=cs.length):(jT cs off l).length=cs.length:=by
 simp[jT];omega
theorem zY{cs:List Value}(h:cs.length=l.length):jT cs 0 l=l:=by
 simp[jT,drop_eq_nil_of_le (Nat.le_of_eq h)]
theorem nL{pre old post:List Value}(h:old.length=l.length):jT (pre++(old++post)) pre.length l=pre++(l++post):=by
 simp only[jT,take_left']
 congr 2
 rw[<-h,<-append_assoc,drop_left' (by simp)]
def kY:Value->Bool
 | .agg _| .tuple _=>false
 |_=>true
def bI(l:List Value):Bool:=l.all kY
theorem Df{cs:List Value}(h:k+(l.length+1)<=cs.length):jT (cs.set k v) (k+1) l=jT cs k (v::l):=by
 have d:k<cs.length:=by omega
 have a:(cs.set k v).take (k+1)=cs.take k++[v]:=by
  rw[set_eq_take_append_cons_drop,if_pos d,take_append]
  have:(cs.take k).length=k:=by simp;omega
  rw[this]
  have c:k+1-k=1:=by omega
  rw[c,take_of_length_le (by omega)]
  simp
 have b:(cs.set k v).drop (k+1+l.length)=cs.drop (k+(l.length+1)):=by
  rw[drop_set_of_lt (by omega)]
  congr 1
  omega
 unfold jT
 rw[a,b]
 simp
theorem sL(h:aG w b (.cells cs T))(f:o<cs.size)(i:kY v=true):
  (store ⟨b,o,none⟩ v).run P w= .ok () {w with heap:=w.heap.setIfInBounds b (.cells (cs.setIfInBounds o v) T)}:=by
 have c:w.cell? ⟨b,o,none⟩=some cs[o]:=by
  have:w.heap[b]?=some (.cells cs T):=h
  simp[World.cell?,this,f]
 have d:w.frozen? ⟨b,o,none⟩=false:=ia (o:= .cells cs T) h rfl
 have g:w.setCell ⟨b,o,none⟩ v={w with heap:=w.heap.setIfInBounds b (.cells (cs.setIfInBounds o v) T)}:=by
  unfold World.setCell
  congr 1
  apply Array.ext_getElem?
  intro j
  rw[Array.getElem?_modify]
  by_cases e:b=j
  ·subst e
   have a:w.heap[b]?=some (.cells cs T):=h
   rw[if_pos rfl,a,Array.getElem?_setIfInBounds_self_of_lt h.lt]
   simp
  ·rw[if_neg e,Array.getElem?_setIfInBounds_ne e]
 have:(store ⟨b,o,none⟩ v).run P w= .ok () (w.setCell ⟨b,o,none⟩ v):=by
  cases v<;>simp[kY] at i<;>simp[store,Sem.run,c,d]
 rw[this,g]
theorem fi{b off:Nat}{T:TypeId}:∀(l:List Value) (i:Nat) (w:World) (cs:Array Value),aG w b (.cells cs T)->off+i+l.length<=cs.size->bI l=true->
  (storeCells ⟨b,off,none⟩ l i).run P w= .ok () {w with heap:=w.heap.setIfInBounds b (.cells (jT cs.toList (off+i) l).toArray T)}
 |[],i,w,cs,h,c,_=>by
  have d:w.heap[b]?=some (.cells cs T):=h
  have e:w.heap.setIfInBounds b (.cells (jT cs.toList (off+i) []).toArray T)=w.heap:=by
   apply Array.ext_getElem?
   intro j
   by_cases e:b=j
   ·subst e
    rw[Array.getElem?_setIfInBounds_self_of_lt h.lt,d]
    simp[jT]
   ·rw[Array.getElem?_setIfInBounds_ne e]
  rw[e]
  simp[storeCells]
 |v::l,i,w,cs,h,c,a=>by
  simp only[length_cons] at c
  simp only[bI,all_cons,Bool.and_eq_true] at a
  simp only[storeCells,Sem.run_bind,dQ]
  rw[sL h (by omega) a.1]
  simp only[Result.andThen]
  rw[fi l (i+1) _ (cs.setIfInBounds (off+i) v) (h.set _) (by simp;omega) a.2]
  have e:off+(i+1)=off+i+1:=by omega
  rw[e,Array.toList_setIfInBounds,Df (by simpa using c)]
  simp
end
end
section
variable{a b:Int}{k:IntKind}{off:Nat}{c x y:Operand}{dc:TypeDesc}{E T T':TypeId}{i:TypeInfo}{v z:Value}{w:World}
section
variable {P:Program} {w:World}
theorem fO[f:dJ P T i]{b:Nat}{cs:Array Value}(h:aG w b (.cells cs T'))(c:v.cells.toList.length=i.size)(e:off+v.cells.toList.length<=cs.size)(a:bI v.cells.toList=true):
  (Instr.storeAt T (.pointer (some ⟨b,off,none⟩)) v).run P w= .ok () {w with heap:=w.heap.setIfInBounds b (.cells (jT cs.toList off v.cells.toList).toArray T')}:=by
 have d:v.cells.size=i.size:=by simpa using c
 simp only[Instr.storeAt,Instr.sureAddr,storeVar,Sem.run_bind,Sem.run_pure,Result.andThen,lC (f:=f),d]
 simp only[ne_eq,not_true_eq_false,if_false]
 have:=fi (P:=P) (off:=off) v.cells.toList 0 w cs h (by omega) a
 simpa using this
theorem oX[f:dJ P T i](a:i.zero=some z):
  (Instr.alloc T true (.tuple #[])).run P w= .ok (.pointer (some ⟨w.heap.size,0,none⟩)) {w with heap:=w.heap.push (.cells z.cells T)}:=by
 simp only[Instr.alloc,Sem.run_bind,lB (f:=f) a,Result.andThen]
 rfl
theorem Ab:
  (Instr.box T v).run P w= .ok (.pointer (some ⟨w.heap.size,0,none⟩)) {w with heap:=w.heap.push (.cells v.cells T)}:=rfl
theorem fq.of{c:List Oper}{L:Env}{e h d:Nat}[f:dJ P T i]{ty s:TypeId}{pos r:String}{af j:Array Edge}(q:i.zero=some z)
  (k:c[e]?=some ⟨some d,.alloc T,ty,pos,af,none⟩) (o:c[h]?=some ⟨none,.store T (.tmp d) x,s,r,j,none⟩) (m:known L x=true) (p:bH L x=v)
  (a:v.cells.toList.length=i.size) (g:z.cells.toList.length=i.size) (n:bI v.cells.toList=true):fq P c L ⟨e,h,d,T,x,z.cells,v.cells⟩:=by
 refine⟨⟨_,k,rfl,rfl,rfl⟩,⟨_,o,rfl,rfl,rfl⟩,m,fun w=>oX q,fun w b l=>?_⟩
 show(Instr.storeAt T (.pointer (some ⟨b,0,none⟩)) (bH L x)).run P w=_
 rw[p,fO l a (by simpa using Nat.le_of_eq (a.trans g.symm)) n]
 congr 4
 have t:z.cells.toList.length=v.cells.toList.length:=g.trans a.symm
 simp only[jT,take_zero,nil_append,Nat.zero_add]
 rw[drop_eq_nil_of_le (by omega)]
 simp
end
section
variable {P:Program} {S:List Nat} {w0:World} {F:World->Prop} {L:Env} {d:Option Nat} {ty:TypeId} {pos:String} {af:Array Edge} {g:Option (Nat×Bool)}
theorem AZ(a:bH L x=v):aP P S w0 F L ⟨d,.move x,ty,pos,af,g⟩ v:=fun w _ _=>by simp[execOp,a]
theorem vF(a:bH L x=v):aP P S w0 F L ⟨d,.assign x,ty,pos,af,g⟩ v:=fun w _ _=>by simp[execOp,a]
theorem vB{a b:Operand}(e:bH L c= .bool true)(f:bH L a=v):aP P S w0 F L ⟨d,.pick c a b,ty,pos,af,g⟩ v:=fun w _ _=>by simp[execOp,e,f,asBool]
theorem vC{a b:Operand}(e:bH L c= .bool false)(f:bH L b=v):aP P S w0 F L ⟨d,.pick c a b,ty,pos,af,g⟩ v:=fun w _ _=>by simp[execOp,e,f,asBool]
theorem sH{a:Addr}(b:bH L x= .pointer (some a)):aP P S w0 F L ⟨d,.nilCheck x,ty,pos,af,g⟩ (.pointer (some a)):=fun w _ _=>by simp[execOp,b]
theorem CB{b:Bool}(a:bH L x= .bool b):aP P S w0 F L ⟨d,.unOp .not T x,ty,pos,af,g⟩ (.bool !b):=fun w _ _=>by simp[execOp,a,Op.unary]
theorem uf{k:Nat}{vs:Array Value}(b:bH L x= .tuple vs)(a:vs[k]?=some v):aP P S w0 F L ⟨d,.extract x k,ty,pos,af,g⟩ v:=fun w _ _=>by simp[execOp,b,Instr.extract,a]
theorem qN{c:TypeId}{k a:Nat}[u:cE P T k a c]{b:Nat}(n:bH L x= .pointer (some ⟨b,off,none⟩)):
  aP P S w0 F L ⟨d,.fieldAddr T x k,ty,pos,af,g⟩ (.pointer (some ⟨b,off+a,none⟩)):=fun w _ _=>by
 obtain⟨p,o,i,e,f,h,j,l,m⟩:=u.eq
 subst h;subst j
 simp[execOp,n,Instr.fieldAt,run_underlying e,f,Instr.sureAddr,fieldPlace,sizeOf,typeInfo,l,m,dQ]
theorem qJ[u:Ut P T dc]{b:Nat}(h:bH L x= .pointer (some ⟨b,off,none⟩))(a:pE dc=false)(f:Row w0 b off [v])(c:b∉S):
  aP P S w0 F L ⟨d,.load T x,ty,pos,af,g⟩ v:=fun w e _=>by
 simp[execOp,h,qe (u:=u) a (f.kp e c)]
theorem sI[u:Ut P T dc][f:dJ P T i]{b:Nat}{l:List Value}(k:bH L x= .pointer (some ⟨b,off,none⟩))(a:pE dc=true)(j:Row w0 b off l)(c:b∉S)(h:l.length=i.size):
  aP P S w0 F L ⟨d,.load T x,ty,pos,af,g⟩ (.agg l.toArray):=fun w e _=>by
 simp[execOp,k,iJ (u:=u) (f:=f) a (j.kp e c) h]
def Sx:Op->Bool
 | .binOp .. =>true
 |_=>false
def Vp(b:BinOp):Op->Bool
 | .binOp b' .. =>decide (b'=b)
 |_=>false
def Sw:Op->Bool
 | .extract .. =>true
 |_=>false
def QN:Op->Bool
 | .lookup .. =>true
 |_=>false
def QO:Op->Bool
 | .call .. =>true
 |_=>false
theorem rM{P:Program}{x y:Value}{r:Bool}(h:∀d,(Op.equalIn (d+1) T x y).run P w= .ok r w):(Op.equal T x y).run P w= .ok r w:=h 9999
theorem zq{P:Program}[u:Ut P T .bool]{a b:Bool}:(Op.equal T (.bool a) (.bool b)).run P w= .ok (a==b) w:=rM (fun d=>by
 simp only[Op.equalIn,Sem.run_bind,run_underlying u.eq,Result.andThen,Sem.run_pure])
theorem tM{P:Program}[u:Ut P T (.pointer E)]{a:Option Addr}:(Op.equal T (.pointer a) (.pointer none)).run P w= .ok a.isNone w:=rM (fun d=>by
 cases a<;>simp only[Op.equalIn,Sem.run_bind,run_underlying u.eq,Result.andThen,Sem.run_pure,Option.isNone])
theorem CU(f:bH L x= .int .i64 a)(h:bH L y= .int .i64 b)(c: -9223372036854775808<=a+b)(e:a+b<=9223372036854775807):
  aP P S w0 F L ⟨d,.binOp .add T x y T',ty,pos,af,g⟩ (.int .i64 (a+b)):=fun w _ _=>by
 simp[execOp,f,h,eqGuard,binOp,Op.intArith,IntWalk.i64_in (a+b) ⟨c,e⟩]
theorem CA(f:bH L x= .int .i64 a)(h:bH L y= .int .i64 b)(c: -9223372036854775808<=a-b)(e:a-b<=9223372036854775807):
  aP P S w0 F L ⟨d,.binOp .sub T x y T',ty,pos,af,g⟩ (.int .i64 (a-b)):=fun w _ _=>by
 simp[execOp,f,h,eqGuard,binOp,Op.intArith,IntWalk.i64_in (a-b) ⟨c,e⟩]
theorem CL(c:bH L x= .int k a)(e:bH L y= .int k b):aP P S w0 F L ⟨d,.binOp .lss T x y T',ty,pos,af,g⟩ (.bool (decide (a<b))):=fun w _ _=>by
 simp[execOp,c,e,eqGuard,binOp,Op.intCmp]
theorem CM(c:bH L x= .int k a)(e:bH L y= .int k b):aP P S w0 F L ⟨d,.binOp .leq T x y T',ty,pos,af,g⟩ (.bool (decide (a<=b))):=fun w _ _=>by
 simp[execOp,c,e,eqGuard,binOp,Op.intCmp]
theorem CN(c:bH L x= .int k a)(e:bH L y= .int k b):aP P S w0 F L ⟨d,.binOp .gtr T x y T',ty,pos,af,g⟩ (.bool (decide (b<a))):=fun w _ _=>by
 simp[execOp,c,e,eqGuard,binOp,Op.intCmp]
theorem CO(c:bH L x= .int k a)(e:bH L y= .int k b):aP P S w0 F L ⟨d,.binOp .geq T x y T',ty,pos,af,g⟩ (.bool (decide (b<=a))):=fun w _ _=>by
 simp[execOp,c,e,eqGuard,binOp,Op.intCmp]
theorem CR(c:bH L x= .int k a)(e:bH L y= .int k b):aP P S w0 F L ⟨d,.binOp .eql T x y T',ty,pos,af,g⟩ (.bool (decide (a=b))):=fun w _ _=>by
 simp[execOp,c,e,eqGuard,binOp,Op.intCmp,BEq.beq]
theorem CH(c:bH L x= .int k a)(e:bH L y= .int k b):aP P S w0 F L ⟨d,.binOp .neq T x y T',ty,pos,af,g⟩ (.bool (!decide (a=b))):=fun w _ _=>by
 simp[execOp,c,e,eqGuard,binOp,Op.intCmp,bne,BEq.beq]
theorem CK[u:Ut P T .bool]{a b:Bool}(c:bH L x= .bool a)(e:bH L y= .bool b):aP P S w0 F L ⟨d,.binOp .neq T x y T',ty,pos,af,g⟩ (.bool (!(a==b))):=fun w _ _=>by
 simp[execOp,c,e,eqGuard,binOp,zq (u:=u)]
theorem CQ[u:Ut P T (.pointer E)]{a:Option Addr}(b:bH L x= .pointer a)(c:bH L y= .pointer none):aP P S w0 F L ⟨d,.binOp .eql T x y T',ty,pos,af,g⟩ (.bool a.isNone):=fun w _ _=>by
 simp[execOp,b,c,eqGuard,binOp,tM (u:=u)]
theorem CF[u:Ut P T (.pointer E)]{a:Option Addr}(b:bH L x= .pointer a)(c:bH L y= .pointer none):aP P S w0 F L ⟨d,.binOp .neq T x y T',ty,pos,af,g⟩ (.bool (!a.isNone)):=fun w _ _=>by
 simp[execOp,b,c,eqGuard,binOp,tM (u:=u)]
theorem A1{b:TypeDesc}{k':IntKind}[u:Ut P T b][u':Ut P T' (.int k')](c:bH L x= .int k a):aP P S w0 F L ⟨d,.convert T T' x,ty,pos,af,g⟩ (.int k' (k'.wrap a)):=fun w _ _=>by
 simp only[execOp,c,convert,Sem.run_bind,run_underlying u.eq,run_underlying u'.eq,Result.andThen,Conv.intToInt,Sem.run_pure]
theorem qK[u:Ut P T (.slice E)]{a:Option Addr}{n c:Nat}(b:bH L x= .slice a n c):aP P S w0 F L ⟨d,.call {callee:= .builtin .len,args:= #[x],argTypes:= #[T]},ty,pos,af,g⟩ (.int .i64 n):=fun w _ _=>by
 simp[execOp,b,resolve,invoke,builtin,Builtin.len_,run_underlying u.eq,goInt]
end
end
section
variable{af:Array Edge}{tys:Array TypeId}{cs:Array Value}{L:Env}{Q:Exit->Act->World->Prop}{f:FuncId}{S:List Nat}{ops rest:List Oper}{args:List Operand}{vs:List Value}{b n off:Nat}{a x y:Operand}{g:Option (Nat×Bool)}{d:Option Nat}{pos:String}{T T' ty:TypeId}{i:TypeInfo}{v z:Value}{w0:World}{F:World->Prop}
class bU(P:Program)(f:FuncId):Prop where
 run:∀(w:World) (args:Array Value),(callFunc f args).run P w= .ok (.enter f args) w
section
variable {P:Program} {L:Env} {d:Option Nat} {ty:TypeId} {pos:String} {af:Array Edge} {g:Option (Nat×Bool)} {w:World} {R:Value->World->Prop}
theorem Dm[h:bU P f]{args:Array Operand}:(execOp (bH L) ⟨d,.call ⟨.value (.func f),args,tys⟩,ty,pos,af,g⟩).run P w= .ok (.enter f (args.map (bH L))) w:=by
 simp[execOp,resolve,bH,Deferred.ofValue,invoke,h.run]
theorem fR[bU P f]{args:Array Operand}(h:Calls P f (args.map (bH L)) w (fun e a=>∃v,e= .returned v/\R v a)):
  bD P (bH L) ⟨d,.call ⟨.value (.func f),args,tys⟩,ty,pos,af,g⟩ w R:=by
 unfold bD
 rw[Dm]
 exact h
def dq(P:Program)(f:FuncId)(args:Array Value)(w:World)(v:Value):Prop:=Calls P f args w (fun e w'=>e= .returned v/\Kp [] w w')
def bg(L:Env):List Operand->List Value->Prop
 |[],[]=>True
 |x::xs,v::vs=>bH L x=v/\bg L xs vs
 |_,_=>False
theorem bg.of{L:Env}:∀{xs:List Operand} {vs:List Value},xs.map (bH L)=vs->bg L xs vs
 |[],_,rfl=>True.intro
 |x::xs,_,rfl=>⟨rfl,bg.of rfl⟩
theorem bg.map{L:Env}:∀{xs:List Operand} {vs:List Value},bg L xs vs->xs.map (bH L)=vs
 |[],[],_=>rfl
 |x::xs,v::vs,h=>by simp[h.1,bg.map h.2]
 |[],_::_,h=>h.elim
 |_::_,[],h=>h.elim
theorem bg.arr{L:Env}{xs:List Operand}(h:bg L xs vs):xs.toArray.map (bH L)=vs.toArray:=by simp[h.map]
theorem aM.call{a:List Nat}{K:Env->(World->Prop)->(World->Prop)->Prop}{i:Nat}{b:List Nat}{R:World->Prop}{d:Nat}[bU P f]
  (p:ops[i]?=some ⟨some d,.call ⟨.value (.func f),args.toArray,tys⟩,ty,pos,af,g⟩) (q:want ops L ⟨some d,.call ⟨.value (.func f),args.toArray,tys⟩,ty,pos,af,g⟩=some true) (n:(Op.call ⟨.value (.func f),args.toArray,tys⟩).operands.toList.all (known L)=true)
  (m:bg L args vs) (k:∀w,Kp S w0 w->F w->dq P f vs.toArray w v)
  (l:aM P S w0 ops a K b ((d,v)::L) F R):aM P S w0 ops a K (i::b) L F R:=
 aM.run v p q n (fun w o j=>fR (by rw[m.arr];exact(k w o j).mono (fun e r ⟨c,h⟩=>⟨v,c,rfl,h⟩))) l
theorem SG.call{d:Nat}[bU P f]
  (b:Nat.blt d n=true) (i:want ops L ⟨some d,.call ⟨.value (.func f),args.toArray,tys⟩,ty,pos,af,g⟩=some true) (h:(Op.call ⟨.value (.func f),args.toArray,tys⟩).operands.toList.all (known L)=true) (c:bg L args vs)
  (a:Calls P f vs.toArray w (fun e j=>∃v,e= .returned v/\SG P n ops Q rest ((d,v)::L) j)):SG P n ops Q (⟨some d,.call ⟨.value (.func f),args.toArray,tys⟩,ty,pos,af,g⟩::rest) L w:=
 SG.op (by simpa using b) rfl i h (fR (by rw[c.arr];exact a))
theorem SG.ret{d:Nat}[bU P f]
  (j:Nat.blt d n=true) (m:want ops L ⟨some d,.call ⟨.value (.func f),args.toArray,tys⟩,ty,pos,af,g⟩=some true) (l:(Op.call ⟨.value (.func f),args.toArray,tys⟩).operands.toList.all (known L)=true) (k:bg L args vs)
  (i:dq P f vs.toArray w v) (h:∀a,Kp [] w a->SG P n ops Q rest ((d,v)::L) a):SG P n ops Q (⟨some d,.call ⟨.value (.func f),args.toArray,tys⟩,ty,pos,af,g⟩::rest) L w:=
 SG.call j m l k (i.mono (fun e a ⟨b,c⟩=>⟨v,b,h a c⟩))
theorem SG.box{d:Nat}
  (c:Nat.blt d n=true) (f:want ops L ⟨some d,.box T x,ty,pos,af,g⟩=some true) (e:known L x=true) (i:bH L x=v)
  (h:∀b a,Kp [] w a->w.heap.size<=b->aG a b (.cells v.cells T)->SG P n ops Q rest ((d,.pointer (some ⟨b,0,none⟩))::L) a):SG P n ops Q (⟨some d,.box T x,ty,pos,af,g⟩::rest) L w:=by
 refine SG.op (by simpa using c) rfl f (by simp[Op.operands,e]) ?_
 unfold bD
 have:(execOp (bH L) ⟨some d,.box T x,ty,pos,af,g⟩).run P w= .ok (.value (.pointer (some ⟨w.heap.size,0,none⟩))) {w with heap:=w.heap.push (.cells v.cells T)}:=by
  simp[execOp,i,Ab,Result.andThen]
 rw[this]
 exact h w.heap.size _ (Kp.push w _ rfl) (Nat.le_refl _) (aG.push w _)
theorem SG.alloc{d:Nat}[f:dJ P T i](j:i.zero=some z)
  (c:Nat.blt d n=true) (e:want ops L ⟨some d,.alloc T,ty,pos,af,g⟩=some true)
  (h:∀b a,Kp [] w a->w.heap.size<=b->aG a b (.cells z.cells T)->SG P n ops Q rest ((d,.pointer (some ⟨b,0,none⟩))::L) a):SG P n ops Q (⟨some d,.alloc T,ty,pos,af,g⟩::rest) L w:=by
 refine SG.op (by simpa using c) rfl e (by simp[Op.operands]) ?_
 unfold bD
 have:(execOp (bH L) ⟨some d,.alloc T,ty,pos,af,g⟩).run P w= .ok (.value (.pointer (some ⟨w.heap.size,0,none⟩))) {w with heap:=w.heap.push (.cells z.cells T)}:=by
  simp[execOp,oX j,Result.andThen]
 rw[this]
 exact h w.heap.size _ (Kp.push w _ rfl) (Nat.le_refl _) (aG.push w _)
theorem SG.store[f:dJ P T i]
  (p:want ops L ⟨none,.store T a x,ty,pos,af,g⟩=some true) (k:(known L a&&known L x)=true) (j:bH L a= .pointer (some ⟨b,off,none⟩)) (q:bH L x=v) (c:aG w b (.cells cs T'))
  (l:v.cells.toList.length=i.size) (m:off+v.cells.toList.length<=cs.size) (o:bI v.cells.toList=true)
  (h:∀e,Kp [b] w e->aG e b (.cells (jT cs.toList off v.cells.toList).toArray T')->SG P n ops Q rest L e):SG P n ops Q (⟨none,.store T a x,ty,pos,af,g⟩::rest) L w:=by
 refine SG.op rfl rfl p (by simpa[Op.operands] using k) ?_
 unfold bD
 have:(execOp (bH L) ⟨none,.store T a x,ty,pos,af,g⟩).run P w= .ok .skip {w with heap:=w.heap.setIfInBounds b (.cells (jT cs.toList off v.cells.toList).toArray T')}:=by
  simp only[execOp,q,j,Sem.run_bind,fO (f:=f) c l m o,Result.andThen,Sem.run_pure]
 rw[this]
 exact h _ (Kp.set w c rfl rfl) (c.set _)
theorem SG.aN[f:dJ P T i]{old l:List Value}
  (s:want ops L ⟨none,.store T a x,ty,pos,af,g⟩=some true) (p:(known L a&&known L x)=true) (m:bH L a= .pointer (some ⟨b,0,none⟩)) (t:bH L x= .agg l.toArray) (o:aG w b (.cells old.toArray T'))
  (q:l.length=i.size) (u:old.length=i.size) (r:bI l=true)
  (h:∀c,Kp [b] w c->aG c b (.cells l.toArray T')->SG P n ops Q rest L c):SG P n ops Q (⟨none,.store T a x,ty,pos,af,g⟩::rest) L w:=by
 refine SG.store (f:=f) s p m t o (by simpa[Value.cells] using q) (by simp[Value.cells];omega) (by simpa[Value.cells] using r) (fun c k j=>h c k ?_)
 have e:jT old.toArray.toList 0 (Value.agg l.toArray).cells.toList=l:=by
  simp only[Value.cells]
  exact zY (by omega)
 rw[e] at j
 exact j
theorem SG.fe[f:dJ P T i]{u:Value}
  (r:want ops L ⟨none,.store T a x,ty,pos,af,g⟩=some true) (p:(known L a&&known L x)=true) (m:bH L a= .pointer (some ⟨b,0,none⟩)) (s:bH L x=v) (o:aG w b (.cells #[u] T'))
  (q:Nat.beq i.size 1=true) (k:kY v=true)
  (h:∀c,Kp [b] w c->aG c b (.cells #[v] T')->SG P n ops Q rest L c):SG P n ops Q (⟨none,.store T a x,ty,pos,af,g⟩::rest) L w:=by
 have e:v.cells.toList=[v]:=by cases v<;>simp[kY] at k<;>rfl
 refine SG.store (f:=f) r p m s o (by rw[e,Nat.eq_of_beq_eq_true q];rfl) (by rw[e];simp) (by rw[e];simp[bI,k]) (fun c l j=>h c l ?_)
 rw[e] at j
 exact j
theorem SG.cp[f:dJ P T i](pre old post:List Value)
  (t:want ops L ⟨none,.store T a x,ty,pos,af,g⟩=some true) (o:(known L a&&known L x)=true) (l:bH L a= .pointer (some ⟨b,off,none⟩)) (u:bH L x=v) (m:aG w b (.cells cs T')) (j:cs.toList=pre++(old++post))
  (q:v.cells.toList.length=i.size) (y:old.length=i.size) (s:pre.length=off) (r:bI v.cells.toList=true)
  (h:∀c,Kp [b] w c->aG c b (.cells (pre++(v.cells.toList++post)).toArray T')->SG P n ops Q rest L c):SG P n ops Q (⟨none,.store T a x,ty,pos,af,g⟩::rest) L w:=by
 have p:cs.size=(pre++(old++post)).length:=by rw[<-j];simp
 refine SG.store (f:=f) t o l u m q (by rw[p];simp only[length_append];omega) r (fun c k e=>h c k ?_)
 rw[j,<-s,nL (by omega)] at e
 exact e
end
section
variable {κ ν:Type} [DecidableEq κ]
def aC:List (κ×ν)->κ->Option ν
 |[],_=>none
 |(k,v)::m,x=>if k=x then some v else aC m x
def ca:List (κ×ν)->κ->ν->List (κ×ν)
 |[],x,y=>[(x,y)]
 |(k,v)::m,x,y=>if k=x then(k,y)::m else(k,v)::ca m x y
def R8:List (κ×ν)->κ->List (κ×ν)
 |[],_=>[]
 |(k,v)::m,x=>if k=x then m else(k,v)::R8 m x
theorem fL{m:List (κ×ν)}{x:κ}:aC m x=none↔∀p∈m,p.1≠x:=by
 induction m with
 |nil=>simp[aC]
 |cons p m a=>
  obtain⟨k,v⟩:=p
  by_cases h:k=x<;>simp[aC,h,a]
theorem fx{m:List (κ×ν)}(a:(m.map (·.1)).Nodup){p:κ×ν}(b:p∈m):aC m p.1=some p.2:=by
 induction m with
 |nil=>cases b
 |cons q m c=>
  obtain⟨k,v⟩:=q
  rw[map_cons,nodup_cons] at a
  rcases mem_cons.1 b with rfl|h
  ·simp[aC]
  ·have:k≠p.1:=fun e=>a.1 (e▸mem_map.2 ⟨p,h,rfl⟩)
   simp[aC,this,c a.2 h]
theorem bK(m:List (κ×ν))(x z:κ)(y:ν):aC (ca m x y) z=if x=z then some y else aC m z:=by
 induction m with
 |nil=>simp[ca,aC]
 |cons p m b=>
  obtain⟨k,v⟩:=p
  by_cases h:k=x
  ·subst h
   by_cases a:k=z<;>simp[ca,aC,a]
  ·by_cases a:k=z
   ·subst a
    have:x≠k:=fun e=>h e.symm
    simp[ca,aC,h,this]
   ·simp[ca,aC,h,a,b]
theorem lU{m:List (κ×ν)}{x:κ}(y:ν)(h:aC m x=none):ca m x y=m++[(x,y)]:=by
 induction m with
 |nil=>rfl
 |cons p m d=>
  obtain⟨k,v⟩:=p
  rw[fL] at h
  have a:k≠x:=h (k,v) (by simp)
  have b:aC m x=none:=fL.2 (fun p c=>h p (by simp[c]))
  simp[ca,a,d b]
end
structure da(P:Program)(k:TypeId){κ:Type}(enc:κ->Value):Prop where
 law:Maps.Keyed P k
 key:∀x,∃l,keyOf P k (enc x)=some l
 inj:∀x y,enc x=enc y->x=y
def aF{κ ν:Type}(w:World)(b:Nat)(enc:κ->Value)(V:ν->Value)(m:List (κ×ν)):Prop:=
 ∃es clock,aG w b (.map es clock)/\MapKept.Stamped es clock/\es.toList.map (fun e=>(e.key,e.val))=m.map (fun p=>(enc p.1,V p.2))
section
variable {κ ν:Type} {enc:κ->Value} {V:ν->Value} {m:List (κ×ν)} {w w':World} {b:Nat} {P:Program} {k T E:TypeId}
theorem aF.lt(h:aF w b enc V m):b<w.heap.size:=by obtain⟨d,c,a,_⟩:=h;exact a.lt
theorem aF.kp(h:aF w b enc V m)(i:Kp S w w')(g:b∉S):aF w' b enc V m:=by
 obtain⟨a,c,d,e,f⟩:=h
 exact⟨a,c,d.kp i g,e,f⟩
theorem aF.az(h:aF w b enc V m)(a:Kp [] w w'):aF w' b enc V m:=h.kp a (by simp)
theorem aF.nodup(h:aF w b enc V m):(m.map (·.1)).Nodup:=by
 obtain⟨d,c,l,f,g⟩:=h
 have i:d.toList.map (·.key)=m.map (fun p=>enc p.1):=by
  have:=congrArg (List.map Prod.fst) g
  simpa[Function.comp_def] using this
 have a:=f.2.2
 rw[i] at a
 rw[Nodup,pairwise_map] at a⊢
 exact a.imp (fun j e=>j (by rw[e]))
theorem fJ[DecidableEq κ](l:∀x y,enc x=enc y->x=y){x:κ}:∀{es:List MapEntry} {m:List (κ×ν)},es.map (fun e=>(e.key,e.val))=m.map (fun p=>(enc p.1,V p.2))->
  ((∀e∈es,e.key≠enc x)->aC m x=none)/\(∀(j:Nat) (e:MapEntry),es[j]?=some e->e.key=enc x->(es.map (·.key)).Nodup->∃y,aC m x=some y/\e.val=V y/\(es.set j {e with key:=enc x}).map (·.key)=es.map (·.key)/\
   ∀z,(es.set j {e with key:=enc x,val:=V z}).map (fun e=>(e.key,e.val))=(ca m x z).map (fun p=>(enc p.1,V p.2)))
 |[],m,h=>by
  have:m=[]:=by simpa using h.symm
  subst this
  exact⟨fun _=>rfl,fun j e a=>by simp at a⟩
 |r::es,m,h=>by
  cases m with
  |nil=>simp at h
  |cons p m=>
   obtain⟨i,D⟩:=p
   simp only[map_cons,List.cons.injEq,Prod.mk.injEq] at h
   obtain⟨⟨d,q⟩,o⟩:=h
   obtain⟨B,C⟩:=fJ l (x:=x) o
   constructor
   ·intro n
    have c:i≠x:=fun e=>n r (by simp) (by rw[d,e])
    simp only[aC,c,if_false]
    exact B (fun e a=>n e (by simp[a]))
   ·intro j e a f g
    cases j with
    |zero=>
     simp at a
     subst a
     have c:i=x:=l _ _ (by rw[<-d,f])
     subst c
     exact⟨D,by simp[aC],q,by simp[d],fun z=>by simp[ca,o]⟩
    |succ j=>
     simp only[getElem?_cons_succ] at a
     rw[map_cons,nodup_cons] at g
     have c:i≠x:=fun s=>g.1 (by
      rw[d,s,<-f]
      exact mem_map.2 ⟨e,mem_of_getElem? a,rfl⟩)
     obtain⟨y,t,u,v,A⟩:=C j e a f g.2
     refine⟨y,by simp[aC,c,t],u,by simpa using v,fun z=>?_⟩
     simp only[set_cons_succ,map_cons,ca,c,if_false,d,q,A z]
theorem aF.keys(h:aF w b enc V m)(K:da P k enc):∃a d,aG w b (.map a d)/\MapKept.Stamped a d/\a.toList.map (fun e=>(e.key,e.val))=m.map (fun p=>(enc p.1,V p.2))/\∀e∈a.toList,∃l,keyOf P k e.key=some l:=by
 obtain⟨a,c,i,j,f⟩:=h
 refine⟨a,c,i,j,f,fun e n=>?_⟩
 have:(e.key,e.val)∈m.map (fun p=>(enc p.1,V p.2)):=by rw[<-f];exact mem_map.2 ⟨e,n,rfl⟩
 obtain⟨p,_,g⟩:=mem_map.1 this
 simp only[Prod.mk.injEq] at g
 rw[<-g.1]
 exact K.key p.1
theorem yx[DecidableEq κ][u:Ut P T (.map k E)][f:dJ P E i](s:i.zero=some z)(h:aF w b enc V m)(K:da P k enc)(x:κ)(ok:Bool):
  (Instr.lookup T (.map (some b)) (enc x) ok).run P w= .ok (match aC m x with
   |some y=>if ok then .tuple #[V y,.bool true] else V y
   |none=>if ok then .tuple #[z,.bool false] else z) w:=by
 obtain⟨d,c,n,p,g,o⟩:=h.keys K
 obtain⟨l,a⟩:=K.key x
 have e:w.heap[b]?=some (.map d c):=n
 rcases K.law.find w a d.toList o with⟨h1,h2⟩|⟨j,e0,h1,h2,h3⟩
 ·have:=(fJ K.inj g (x:=x)).1 h2
  rw[this]
  simp[Instr.lookup,run_underlying u.eq,MapKept.run_getObj_map e,K.law.check w _ a,h1,lB (f:=f) s,Result.andThen]
 ·obtain⟨y,r,q,_⟩:=(fJ K.inj g (x:=x)).2 j e0 h2 h3 p.2.2
  rw[r]
  simp[Instr.lookup,run_underlying u.eq,MapKept.run_getObj_map e,K.law.check w _ a,h1,q,Result.andThen]
theorem jr[DecidableEq κ][u:Ut P T (.map k E)](h:aF w b enc V m)(K:da P k enc)(x:κ)(y:ν):
  ∃o,(Instr.mapUpdate T (.map (some b)) (enc x) (V y)).run P w= .ok () {w with heap:=w.heap.setIfInBounds b o}/\aF {w with heap:=w.heap.setIfInBounds b o} b enc V (ca m x y)/\Kp [b] w {w with heap:=w.heap.setIfInBounds b o}:=by
 obtain⟨a,c,d,n,i,s⟩:=h.keys K
 obtain⟨l,g⟩:=K.key x
 have f:w.heap[b]?=some (.map a c):=d
 rcases K.law.find w g a.toList s with⟨h1,h2⟩|⟨j,e0,h1,h2,h3⟩
 ·have t:=(fJ K.inj i (x:=x)).1 h2
  refine⟨.map (a.push ⟨enc x,V y,c⟩) (c+1),?_,⟨_,_,d.set _,MapKept.stamped_push n h2,?_⟩,Kp.set w d rfl rfl⟩
  ·simp[Instr.mapUpdate,run_underlying u.eq,MapKept.run_getObj_map f,K.law.check w _ g,h1,MapKept.run_setObj_map _ f,Result.andThen]
  ·rw[lU y t]
   simp[i]
 ·obtain⟨B,A,z,_,r⟩:=(fJ K.inj i (x:=x)).2 j e0 h2 h3 n.2.2
  have q:a[j]?=some e0:=by simpa using h2
  refine⟨.map (a.modify j fun e=>{e with key:=enc x,val:=V y}) c,?_,⟨_,_,d.set _,MapKept.stamped_modify n _ _ (fun _ _=>rfl) (fun v _ p=>?_),?_⟩,Kp.set w d rfl rfl⟩
  ·simp[Instr.mapUpdate,run_underlying u.eq,MapKept.run_getObj_map f,K.law.check w _ g,h1,q,h3,K.law.stays w g,MapKept.run_setObj_map _ f,Result.andThen]
  ·rw[q] at p
   cases p
   exact h3.symm
  ·rw[Array.toList_modify,ChangeMaps.modify_eq_set _ _ _ _ h2]
   exact r y
theorem pJ[DecidableEq κ][u:Ut P T (.map k E)][f:dJ P E i]{kx:κ}{ok:Bool}
  (e:bH L x= .map (some b)) (j:bH L y=enc kx) (h:aF w0 b enc V m) (a:b∉S) (K:da P k enc) (l:i.zero=some z):
  aP P S w0 F L ⟨d,.lookup T x y ok,ty,pos,af,g⟩ (match aC m kx with
   |some y=>if ok then .tuple #[V y,.bool true] else V y
   |none=>if ok then .tuple #[z,.bool false] else z):=fun w c _=>by
 simp only[execOp,e,j,Sem.run_bind,yx (u:=u) (f:=f) l (h.kp c a) K kx ok,Result.andThen,Sem.run_pure]
theorem lj[DecidableEq κ][u:Ut P T (.map k E)][f:dJ P E i]{kx:κ}(r:Option ν)
  (e:bH L x= .map (some b)) (j:bH L y=enc kx) (h:aF w0 b enc V m) (a:b∉S) (K:da P k enc) (l:i.zero=some z) (c:aC m kx=r):
  aP P S w0 F L ⟨d,.lookup T x y true,ty,pos,af,g⟩ (.tuple #[(r.map V).getD z,.bool r.isSome]):=by
 have:=pJ (P:=P) (S:=S) (F:=F) (L:=L) (d:=d) (ty:=ty) (pos:=pos) (af:=af) (g:=g) (ok:=true) (u:=u) (f:=f) e j h a K l
 rw[c] at this
 cases r<;>exact this
theorem mM[DecidableEq κ][u:Ut P T (.map k E)][f:dJ P E i]{kx:κ}(r:Option ν)
  (e:bH L x= .map (some b)) (j:bH L y=enc kx) (h:aF w0 b enc V m) (a:b∉S) (K:da P k enc) (l:i.zero=some z) (c:aC m kx=r):
  aP P S w0 F L ⟨d,.lookup T x y false,ty,pos,af,g⟩ ((r.map V).getD z):=by
 have:=pJ (P:=P) (S:=S) (F:=F) (L:=L) (d:=d) (ty:=ty) (pos:=pos) (af:=af) (g:=g) (ok:=false) (u:=u) (f:=f) e j h a K l
 rw[c] at this
 cases r<;>exact this
theorem yg[DecidableEq κ][u:Ut P T (.map k E)][f:dJ P E i]{kx:κ}{r:ν}(e:bH L x= .map (some b))(j:bH L y=enc kx)(h:aF w0 b enc V m)(a:b∉S)(K:da P k enc)(l:i.zero=some z)(c:aC m kx=some r):
  aP P S w0 F L ⟨d,.lookup T x y true,ty,pos,af,g⟩ (.tuple #[V r,.bool true]):=lj (u:=u) (f:=f) (some r) e j h a K l c
theorem yh[DecidableEq κ][u:Ut P T (.map k E)][f:dJ P E i]{kx:κ}(e:bH L x= .map (some b))(j:bH L y=enc kx)(h:aF w0 b enc V m)(a:b∉S)(K:da P k enc)(l:i.zero=some z)(c:aC m kx=none):
  aP P S w0 F L ⟨d,.lookup T x y true,ty,pos,af,g⟩ (.tuple #[z,.bool false]):=lj (u:=u) (f:=f) none e j h a K l c
theorem vD[DecidableEq κ][u:Ut P T (.map k E)][f:dJ P E i]{kx:κ}{r:ν}(e:bH L x= .map (some b))(j:bH L y=enc kx)(h:aF w0 b enc V m)(a:b∉S)(K:da P k enc)(l:i.zero=some z)(c:aC m kx=some r):
  aP P S w0 F L ⟨d,.lookup T x y false,ty,pos,af,g⟩ (V r):=mM (u:=u) (f:=f) (some r) e j h a K l c
theorem vE[DecidableEq κ][u:Ut P T (.map k E)][f:dJ P E i]{kx:κ}(e:bH L x= .map (some b))(j:bH L y=enc kx)(h:aF w0 b enc V m)(a:b∉S)(K:da P k enc)(l:i.zero=some z)(c:aC m kx=none):
  aP P S w0 F L ⟨d,.lookup T x y false,ty,pos,af,g⟩ z:=mM (u:=u) (f:=f) none e j h a K l c
theorem ue[u:Ut P T (.map k E)]
  (n:bH L x= .map (some b)) (h:aF w0 b enc V m) (j:b∉S):aP P S w0 F L ⟨d,.call {callee:= .builtin .len,args:= #[x],argTypes:= #[T]},ty,pos,af,g⟩ (.int .i64 m.length):=fun w l _=>by
 obtain⟨a,c,e,o,i⟩:=h.kp l j
 have f:w.heap[b]?=some (.map a c):=e
 have:a.size=m.length:=by
  have:=congrArg length i
  simpa using this
 simp[execOp,n,resolve,invoke,builtin,Builtin.len_,run_underlying u.eq,goInt,MapKept.run_getObj_map f,this,Result.andThen]
theorem BW[DecidableEq κ]{P:Program}{w:World}{k:TypeId}{enc:κ->Value}(K:da P k enc)(i:∀{x y:Value} {d f:Lit},keyOf P k x=some d->keyOf P k y=some f->∃r:Bool,(Op.equal k x y).run P w= .ok r w/\(r=true↔d=f))(x y:κ):
  (Op.equal k (enc x) (enc y)).run P w= .ok (decide (x=y)) w:=by
 obtain⟨d,c⟩:=K.key x
 obtain⟨f,a⟩:=K.key y
 obtain⟨r,j,g⟩:=i c a
 rw[j]
 congr 1
 by_cases e:x=y
 ·subst e
  rw[c] at a
  cases a
  simp[g.2 rfl]
 ·cases r with
  |false=>simp[e]
  |true=>
   have h:=g.1 rfl
   subst h
   exact absurd (K.inj _ _ (K.law.inj c a)) e
theorem aF.made(w:World)(enc:κ->Value)(V:ν->Value):aF {w with heap:=w.heap.push (.map #[] 0)} w.heap.size enc V []:=
 ⟨#[],0,aG.push w _,MapKept.stamped_empty 0,rfl⟩
end
end
section
variable{n:Nat}{x y:Operand}{T':TypeId}
abbrev BA(n:Nat):={l:List UInt8//l.length=n}
abbrev bv(u:UInt8):Value:= .int .u8 (u.toNat:Int)
def dc{n:Nat}(d:BA n):List Value:=d.1.map bv
@[reducible] def dv {n:Nat} (d:BA n):Value:= .agg (dc d).toArray
theorem ai(d:BA n):(dc d).length=n:=by simp[dc,d.2]
theorem bj(d:BA n):bI (dc d)=true:=by simp[bI,dc,kY]
theorem I2{a b:UInt8}(h:bv a=bv b):a=b:=by
 simp only[Value.int.injEq,true_and] at h
 exact UInt8.toNat_inj.1 (by omega)
theorem uM{a b:BA n}(h:dc a=dc b):a=b:=by
 apply Subtype.ext
 unfold dc at h
 exact(List.map_inj_right (fun x y c=>I2 c)).1 h
theorem IK{a b:BA n}(h:dv a=dv b):a=b:=by
 simp only[Value.agg.injEq] at h
 exact uM (toArray_inj h)
section
variable {P:Program} {k e:TypeId} {n:Nat}
theorem ud(u:UInt8):(Lit.int .u8 (u.toNat:Int)).wf=true:=by
 have:=u.toNat_lt
 simp[Lit.wf,IntKind.min,IntKind.max,IntKind.signed,IntKind.bits]
 omega
theorem rA(hu:P.underlying e=some (.int .u8))(a:P.cellsOf e=1)(D:Nat)(l:List UInt8):∀(m i:Nat),i+m=l.length->
  (range' i m).mapM (fun j=>P.keyLits (D+1) e (((l.map bv).drop (j*P.cellsOf e)).take (P.cellsOf e)))=some ((l.drop i).map (fun u=>[Lit.int .u8 (u.toNat:Int)]))
 |0,i,h=>by
  have:l.drop i=[]:=drop_eq_nil_of_le (by omega)
  simp[this]
 |m+1,i,h=>by
  have b:i<l.length:=by omega
  rw[range'_succ,mapM_cons,rA hu a D l m (i+1) (by omega)]
  have c:((l.map bv).drop (i*P.cellsOf e)).take (P.cellsOf e)=[bv l[i]]:=by
   rw[a,Nat.mul_one,drop_eq_getElem_cons (by simpa using b)]
   simp
  have d:P.keyLits (D+1) e [bv l[i]]=some [Lit.int .u8 (l[i].toNat:Int)]:=by
   simp only[Program.keyLits,hu,ud,and_self,if_true]
  rw[c,d,drop_eq_getElem_cons b]
  rfl
theorem E7(A:WideMaps.ArrKey P k e n)(hu:P.underlying e=some (.int .u8))(c:∃m,P.types.size=m+1):da P k (dv (n:=n)):=by
 refine⟨Maps.Keyed.of_law A.law,fun d=>?_,fun a b h=>IK h⟩
 have i:=A.keyType c
 have g:(dv d).formed P k=true:=by
  simp[Value.formed,A.hu,A.size,ai]
 obtain⟨m,l⟩:=c
 have j:P.keyLits (P.types.size+1) k (dv d).cells.toList=some ((d.1.map (fun u=>[Lit.int .u8 (u.toNat:Int)])).flatten):=by
  rw[l]
  have f:(dv d).cells.toList=d.1.map bv:=by simp[Value.cells,dc]
  rw[f]
  unfold Program.keyLits
  simp only[A.hu]
  rw[if_pos (by simp[A.size,d.2]),range_eq_range',rA hu A.one m d.1 n 0 (by simp[d.2])]
  simp
 refine⟨.string (keyBytes ((d.1.map (fun u=>[Lit.int .u8 (u.toNat:Int)])).flatten)),?_⟩
 unfold keyOf
 simp only[A.hu,i,g,Bool.and_self,if_true,j,Option.map_some]
theorem Ez(A:WideMaps.ArrKey P k e n)(hu:P.underlying e=some (.int .u8))(c:∃g,P.types.size=g+1){w:World}(a b:BA n):(Op.equal k (dv a) (dv b)).run P w= .ok (decide (a=b)) w:=
 BW (E7 A hu c) (fun d f=>run_equal_deep w (m:=2) (by omega) (A.at 0) A.wide d f) a b
class gJ(P:Program)(k:TypeId)(n:outParam Nat):Prop where
 key:da P k (dv (n:=n))
 eq:∀(w:World) (a b:BA n),(Op.equal k (dv a) (dv b)).run P w= .ok (decide (a=b)) w
 guard:P.eqGuardType P.depth k=false
theorem gJ.of(h:P.underlying k=some (.array n e))(hu:P.underlying e=some (.int .u8))(c:∃m,P.types.size=m+1)(d:P.cellsOf e=1)(f:P.cellsOf k=n)(g:P.eqGuardType P.depth k=false):gJ P k n:=by
 have A:WideMaps.ArrKey P k e n:=⟨h,by simp[Program.plainKey,hu],d,f⟩
 exact⟨E7 A hu c,fun w a b=>Ez A hu c a b,g⟩
section
variable {S:List Nat} {w0:World} {F:World->Prop} {L:Env} {d:Option Nat} {ty:TypeId} {pos:String} {af:Array Edge} {g:Option (Nat×Bool)}
theorem CS[c:gJ P k n]{a b:BA n}(f:bH L x=dv a)(h:bH L y=dv b):aP P S w0 F L ⟨d,.binOp .eql k x y T',ty,pos,af,g⟩ (.bool (decide (a=b))):=fun w _ _=>by
 simp[execOp,f,h,eqGuard,binOp,c.eq,c.guard]
theorem CJ[c:gJ P k n]{a b:BA n}(f:bH L x=dv a)(h:bH L y=dv b):aP P S w0 F L ⟨d,.binOp .neq k x y T',ty,pos,af,g⟩ (.bool (!decide (a=b))):=fun w _ _=>by
 simp[execOp,f,h,eqGuard,binOp,c.eq,c.guard]
end
end
end
section
variable{c x y:Code}{R:Ending->World->Prop}{e:Exit}{fn:Func}{f:FuncId}{t:Nat}{r r':ResultVar}{a b d v v':Value}
section
variable {P:Program} {n:Nat} {Q:Exit->Act->World->Prop} {L:Env} {w:World}
def ny:Nat->List Value->Env
 |_,[]=>[]
 |i,v::vs=>(i,v)::ny (i+1) vs
theorem lK:∀(vs:List Value) (i t:Nat) (v:Value),look (ny i vs) t=some v->i<=t/\vs[t-i]?=some v
 |[],i,t,v,h=>by simp[ny,look] at h
 |u::vs,i,t,v,h=>by
  simp only[ny] at h
  by_cases e:i=t
  ·subst e
   rw[jI] at h
   cases h
   simp
  ·rw[oq e] at h
   obtain⟨b,a⟩:=lK vs (i+1) t v h
   refine⟨by omega,?_⟩
   have:t-i=(t-(i+1))+1:=by omega
   rw[this,getElem?_cons_succ]
   exact a
theorem fC{args:List Value}(b:P.funcs[f]?=some fn)(a:fn.body=some c)(e:fn.ntmps=n)(d:Nat.ble args.length n=true)
  (h:CG P n c (bodyPost P fn R) (ny 0 args) w):Calls P f args.toArray w R:=
 enter b a n e (by simpa[Nat.ble_eq] using d) (ny 0 args) (fun t v g=>by
  have:=(lK args 0 t v g).2
  simpa using this) h
theorem zt(b:P.funcs[f]?=some fn)(a:fn.body=some c)(d:fn.ntmps=n)
  (h:CG P n c (bodyPost P fn R) [] w):Calls P f #[] w R:=fC (args:=[]) b a d rfl h
theorem bC(d:P.funcs[f]?=some fn)(b:fn.body=some c)(g:fn.ntmps=n)(e:Nat.ble 1 n=true)
  (h:CG P n c (bodyPost P fn R) [(0,a)] w):Calls P f #[a] w R:=fC (args:=[a]) d b g e h
theorem bN(e:P.funcs[f]?=some fn)(d:fn.body=some c)(i:fn.ntmps=n)(g:Nat.ble 2 n=true)
  (h:CG P n c (bodyPost P fn R) [(0,a),(1,b)] w):Calls P f #[a,b] w R:=fC (args:=[a,b]) e d i g h
theorem dG(g:P.funcs[f]?=some fn)(e:fn.body=some c)(j:fn.ntmps=n)(i:Nat.ble 3 n=true)
  (h:CG P n c (bodyPost P fn R) [(0,a),(1,b),(2,d)] w):Calls P f #[a,b,d] w R:=fC (args:=[a,b,d]) g e j i h
theorem pq{e:Value}(i:P.funcs[f]?=some fn)(g:fn.body=some c)(k:fn.ntmps=n)(j:Nat.ble 4 n=true)
  (h:CG P n c (bodyPost P fn R) [(0,a),(1,b),(2,d),(3,e)] w):Calls P f #[a,b,d,e] w R:=fC (args:=[a,b,d,e]) i g k j h
theorem IJ{e g:Value}(j:P.funcs[f]?=some fn)(i:fn.body=some c)(l:fn.ntmps=n)(k:Nat.ble 5 n=true)
  (h:CG P n c (bodyPost P fn R) [(0,a),(1,b),(2,d),(3,e),(4,g)] w):Calls P f #[a,b,d,e,g] w R:=fC (args:=[a,b,d,e,g]) j i l k h
def aD(P:Program)(L:Env)(w:World):ResultVar->Value->Prop
 | .tmp t,v=>look L t=some v
 | .cell a T,v=>∃ad,look L a=some (.pointer (some ad))/\(loadVar T ad).run P w= .ok v w
def Fk(P:Program)(L:Env)(w:World):List ResultVar->List Value->Prop
 |[],[]=>True
 |r::rs,v::vs=>aD P L w r v/\Fk P L w rs vs
 |_,_=>False
theorem pP{f:ResultVar->Sem Value}(a:∀r v,aD P L w r v->(f r).run P w= .ok v w):∀(rs:List ResultVar) (vs:List Value),Fk P L w rs vs->(rs.mapM f).run P w= .ok vs w
 |[],[],_=>rfl
 |[],_::_,h=>h.elim
 |_::_,[],h=>h.elim
 |r::rs,v::vs,⟨b,c⟩=>by
  simp only[mapM_cons,Sem.run_bind,Sem.run_pure,Result.andThen,a r v b,pP a rs vs c]
def yA:List Value->Value
 |[v]=>v
 |vs=> .tuple vs.toArray
theorem qs(j:e= .ret\/e= .normal){rs:List ResultVar}(m:fn.results=rs.toArray){vs:List Value}(h:Fk P L w rs vs)(f:R (.returned (yA vs)) w):NG n e (bodyPost P fn R) L w:=by
 intro a b
 have g:(results fn a.tmps).run P w= .ok (yA vs) w:=by
  unfold results
  rw[m]
  simp only[mapM_toArray,<-bind_pure_comp,Sem.run_bind,Result.andThen,Sem.run_pure]
  rw[pP (P:=P) (L:=L) (w:=w) ?_ rs vs h]
  rotate_left
  ·intro r v c
   cases r with
   |tmp t=>
    have:=b.slot t v c
    simp[Array.getD_eq_getD_getElem?,this]
   |cell x t=>
    obtain⟨d,l,c⟩:=c
    have:=b.slot x _ l
    have k:a.tmps.getD x undef= .pointer (some d):=by simp[Array.getD_eq_getD_getElem?,this]
    have i:(asAddr (a.tmps.getD x undef)).run P w= .ok d w:=by rw[k];rfl
    simp only[Sem.run_bind,Result.andThen,i,c]
  cases vs with
  |nil=>rfl
  |cons v vs=>
   cases vs with
   |nil=>rfl
   |cons u vs=>simp[yA]
 rcases j with rfl|rfl
 ·exact⟨b.defers,_,g,f⟩
 ·exact⟨b.defers,_,g,f⟩
theorem aD.tmp(h:look L t=some v):aD P L w (.tmp t) v:=h
theorem aD.agg{T:TypeId}{d:TypeDesc}{i:TypeInfo}[u:Ut P T d][f:dJ P T i]{b off:Nat}{l:List Value}(h:look L t=some (.pointer (some ⟨b,off,none⟩)))(a:pE d=true)(e:Row w b off l)(c:l.length=i.size):aD P L w (.cell t T) (.agg l.toArray):=by
 refine⟨_,h,?_⟩
 have:=iJ (P:=P) (u:=u) (f:=f) a e c
 simpa[Instr.loadAt,Instr.sureAddr] using this
theorem oY(b:e= .ret\/e= .normal)(c:fn.results= #[])(a:R (.returned (.tuple #[])) w):NG n e (bodyPost P fn R) L w:=qs b (rs:=[]) (vs:=[]) c True.intro a
theorem aO(b:e= .ret\/e= .normal)(c:fn.results= #[r])(h:aD P L w r v)(a:R (.returned v) w):NG n e (bodyPost P fn R) L w:=qs b (rs:=[r]) (vs:=[v]) c ⟨h,True.intro⟩ a
theorem dT(c:e= .ret\/e= .normal)(d:fn.results= #[r,r'])(h:aD P L w r v)(a:aD P L w r' v')(b:R (.returned (.tuple #[v,v'])) w):NG n e (bodyPost P fn R) L w:=qs c (rs:=[r,r']) (vs:=[v,v']) d ⟨h,a,True.intro⟩ b
theorem sM(g:e= .ret\/e= .normal){a:ResultVar}(i:fn.results= #[r,r',a]){b:Value}(h:aD P L w r v)(c:aD P L w r' v')(d:aD P L w a b)(f:R (.returned (.tuple #[v,v',b])) w):NG n e (bodyPost P fn R) L w:=qs g (rs:=[r,r',a]) (vs:=[v,v',b]) i ⟨h,c,d,True.intro⟩ f
theorem CG.ju{c:Operand}{b:Bool}(f:known L c=true)(d:bH L c= .bool b)(a:b=true)(h:CG P n x Q L w):CG P n (.cond c x y) Q L w:=CG.cond f d (fun _=>h) (fun e=>by rw[a] at e;cases e)
theorem CG.jv{c:Operand}{b:Bool}(f:known L c=true)(d:bH L c= .bool b)(a:b=false)(h:CG P n y Q L w):CG P n (.cond c x y) Q L w:=CG.cond f d (fun e=>by rw[a] at e;cases e) (fun _=>h)
def cB(L:Env)(c:Operand)(b:Bool):Bool:=known L c&&(match bH L c with| .bool x=>x==b|_=>false)
theorem bA{c:Operand}(d:cB L c false=true)(h:CG P n y Q L w):CG P n (.cond c x y) Q L w:=by
 unfold cB at d
 simp only[Bool.and_eq_true] at d
 obtain⟨f,a⟩:=d
 split at a
 ·rename_i b e
  exact CG.jv f e (by simpa using a) h
 ·cases a
theorem bO{c:Operand}(d:cB L c true=true)(h:CG P n x Q L w):CG P n (.cond c x y) Q L w:=by
 unfold cB at d
 simp only[Bool.and_eq_true] at d
 obtain⟨f,a⟩:=d
 split at a
 ·rename_i b e
  exact CG.ju f e (by simpa using a) h
 ·cases a
end
end
section
variable{K:Env->(World->Prop)->(World->Prop)->Prop}{k:IntKind}{parts:List (Nat×Operand)}{vs:List (Nat×Value)}{S gh ord:List Nat}{l news xs:List Value}{b base c d fo i j m n off size sz:Nat}{a x y:Operand}{κ ν:Type}{dsc:TypeDesc}{E T e ft t:TypeId}{v z:Value}{w0:World}{F R:World->Prop}
def aR(v:Value):List Nat:=match v.ownBlock with
 |some b=>[b]
 |none=>[]
theorem qu(u:Value):u.oneCell'=kY u:=by cases u<;>rfl
section
variable {P:Program} {w w':World}
theorem dM(h:w.ownsRow base e size v n xs)(k:Kp S w w')(j:∀b,v.ownBlock=some b->b∉S):w'.ownsRow base e size v n xs:=by
 obtain⟨i,a⟩:=h
 refine⟨i,?_⟩
 rcases a with a|⟨g,d,f,rfl,l,c,m⟩
 ·exact Or.inl a
 ·exact Or.inr ⟨g,d,f,rfl,l,(k.blk g (Array.getElem?_eq_some_iff.1 c).1 (j g rfl)).trans c,m⟩
theorem aV(h:w.ownsRow base e size v n xs)(k:Kp [] w w'):w'.ownsRow base e size v n xs:=dM h k (by simp)
theorem Kp.alloc_drew(w:World)(o:Obj)(b:Obj.soft o=true):Kp [] w (w.drew.alloc o):=by
 have a:Kp [] w w.drew:=(Kp.refl [] w).drew
 exact a.trans (Kp.push w.drew o b)
theorem gD{ty:TypeId}{d:TypeDesc}{i:TypeInfo}[u:Ut P t (.slice e)][f:dJ P e i](y:i.zero=some z)(Q:z.cells.size=i.size)(O:0<i.size)
     (o:w.ownsRow base e i.size v n xs)   (h:news.length=m*i.size) (M:Row w b off news) (D:bI news=true)
  (B:n+m<=maxLen) (r:(n+m)*i.bytes<=140737488355328) (F:base<=w.heap.size):
  ∃p w',(Builtin.append_ #[t,t] ty #[v,.slice (some ⟨b,off,none⟩) m c]).run P w= .ok p w'/\w'.ownsRow base e i.size p (n+m) (xs++news)/\Kp (aR v) w w':=by
 have l:∀j u,news[j]?=some u->w.cell? ((⟨b,off,none⟩:Addr).add j)=some u:=fun j u s=>by rw[dQ];exact M.cell s
 have A:∀u∈news,u.oneCell'=true:=fun u s=>by rw[qu];exact all_eq_true.1 D u s
 obtain⟨p,w',a,L,_,_⟩:=run_append_own (P:=P) w base t ty e i z i.size i.bytes u.eq f.eq y rfl rfl Q O v n xs o ⟨b,off,none⟩ m c news h l A B r F
 refine⟨p,w',a,L,?_⟩
 have R:n+m<=9223372036854775807:=by simp only[maxLen] at B;omega
 rcases o.2 with⟨rfl,rfl⟩|⟨g,cap,cur,rfl,hbg,hg,hnc,hcm,hcs,htake⟩
 ·by_cases I:m=0
  ·subst I
   have J:news=[]:=eq_nil_of_length_eq_zero (by simpa using h)
   subst J
   have:(Builtin.append_ #[t,t] ty #[.slice none 0 0,.slice (some ⟨b,off,none⟩) 0 c]).run P w= .ok (.slice none 0 0) w:=by
    simp[Builtin.append_,run_underlying u.eq,sizeOf,typeInfo,f.eq,Builtin.lenOf,Builtin.firstCells,loadCells,loadCellsFrom]
   rw[this] at a
   cases a
   exact Kp.refl _ _
  ·have k:=run_append_nil (P:=P) w t ty e i z u.eq f.eq y ⟨b,off,none⟩ m c news h l (by omega) (by omega) (by have E:=r;simp only[Nat.zero_add] at E;omega)
   rw[k] at a
   cases a
   exact Kp.alloc_drew w _ rfl
 ·by_cases C:n+m<=cap
  ·have G:n*i.size+news.length<=cur.size:=by rw[h,hcs,<-Nat.add_mul];exact Nat.mul_le_mul_right _ C
   have k:=run_append_room (P:=P) w t ty e i u.eq f.eq g n cap cur hg ⟨b,off,none⟩ m c news h l A C G
   rw[k] at a
   cases a
   have H:g<w.heap.size:=(Array.getElem?_eq_some_iff.1 hg).1
   have N:∀(x:Array Value),w.setRow g x={w with heap:=w.heap.setIfInBounds g (.cells x e)}:=by
    intro x
    unfold World.setRow
    congr 1
    apply Array.ext_getElem?
    intro j
    rw[Array.getElem?_modify]
    by_cases q:g=j
    ·subst q
     rw[if_pos rfl,hg,Array.getElem?_setIfInBounds_self_of_lt H]
     simp
    ·rw[if_neg q,Array.getElem?_setIfInBounds_ne q]
   rw[N]
   exact Kp.set w (b:=g) hg rfl rfl
  ·have K:∀j u,xs[j]?=some u->w.cell? ((⟨g,0,none⟩:Addr).add j)=some u:=o.cells (g:=g) rfl
   have k:=run_append_grow (P:=P) w t ty e i z u.eq f.eq y ⟨g,0,none⟩ n cap xs o.1 K ⟨b,off,none⟩ m c news h l (by omega) (by omega) (growslice_fits (by omega) r)
   rw[k] at a
   cases a
   exact(Kp.alloc_drew w _ rfl).any
end
section
variable {P:Program} {S:List Nat} {w0:World} {F:World->Prop} {L:Env} {d:Option Nat} {ty:TypeId} {pos:String} {af:Array Edge} {g:Option (Nat×Bool)}
theorem zS[u:Ut P T (.slice E)][f:Sz P E sz](l:bH L x= .slice (some ⟨b,off,none⟩) n c)(m:bH L y= .int k (j:Int))(a:j<n):
  aP P S w0 F L ⟨d,.indexAddr T x y,ty,pos,af,g⟩ (.pointer (some ⟨b,off+j*sz,none⟩)):=fun w _ _=>by
 obtain⟨i,e,h⟩:=f.eq
 have o:(j:Int)<n:=by omega
 subst h
 simp[execOp,l,m,Instr.indexAt,asIntOf,run_underlying u.eq,sizeOf,typeInfo,e,a,dQ]
theorem oT[u:Ut P T (.slice E)][f:Sz P E sz]{e:Operand}(q:bH L x= .slice (some ⟨b,off,none⟩) n c)(p:bH L e= .int k (j:Int))(r:j<=n):
  aP P S w0 F L ⟨d,.slice T x (some e) none none,ty,pos,af,g⟩ (.slice (some ⟨b,if c=j then off else off+j*sz,none⟩) (n-j) (c-j)):=fun w _ _=>by
 obtain⟨i,h,l⟩:=f.eq
 have m:(j:Int)<=n:=by omega
 subst l
 simp only[execOp,q,Option.map_some,Option.map_none,p,Instr.sliceAt,Sem.run_bind,run_underlying u.eq,Result.andThen,Instr.slice,Instr.sliceBounds,Instr.sliceBound,asIntOf,Sem.run_pure]
 have o:(0:Int)<=(j:Int)/\(j:Int)<=(n:Int):=⟨by omega,m⟩
 simp only[o,and_self,if_true,Sem.run_pure,sizeOf,typeInfo,Sem.run_bind,run_program,Result.andThen,h]
 by_cases a:c=j
 ·subst a;simp
 ·simp[a,dQ]
theorem qM{k:Nat}[u:cE P T k fo ft]{i:TypeInfo}[r:Ut P ft dsc][f:dJ P ft i](pre l' post:List Value)(q:bH L x= .agg l.toArray)(n:pE dsc=true)(p:l=pre++(l'++post))(j:pre.length=fo)(m:l'.length=i.size):
  aP P S w0 F L ⟨d,.field T x k,ty,pos,af,g⟩ (.agg l'.toArray):=fun w _ _=>by
 obtain⟨v,h,y,a,b,c,e,s,t⟩:=u.eq
 subst c;subst e;subst p
 have o:take i.size (drop h.offset (pre++(l'++post)))=l':=by
  rw[<-j,<-m]
  simp
 simp[execOp,q,Instr.field,run_underlying a,b,asAgg,part,jD (u:=r),n,lC (f:=f),o]
theorem eS{k:Nat}[u:cE P T k fo ft][o:Ut P ft dsc](pre post:List Value)(n:bH L x= .agg l.toArray)(i:pE dsc=false)(m:l=pre++(v::post))(h:pre.length=fo):
  aP P S w0 F L ⟨d,.field T x k,ty,pos,af,g⟩ v:=fun w _ _=>by
 obtain⟨r,f,s,a,b,c,e,p,q⟩:=u.eq
 subst c;subst e;subst m
 have j:(pre++(v::post))[f.offset]?=some v:=by rw[<-h];simp
 simp[execOp,n,Instr.field,run_underlying a,b,asAgg,part,jD (u:=o),i,j]
theorem aK(a:(parts.map fun p=>(p.1,bH L p.2))=vs)(h:∀w,(Instr.build T vs.toArray).run P w= .ok v w):aP P S w0 F L ⟨d,.build T parts.toArray,ty,pos,af,g⟩ v:=fun w _ _=>by
 have:(parts.toArray.map fun(p:Nat×Operand)=>(p.1,bH L p.2))=vs.toArray:=by simp[a]
 simp only[execOp,this,Sem.run_bind,h w,Result.andThen,Sem.run_pure]
end
section
variable {P:Program} {n:Nat} {Q:Exit->Act->World->Prop} {L:Env} {w:World} {ops:List Oper} {rest:List Oper} {ty:TypeId} {pos:String} {af:Array Edge} {g:Option (Nat×Bool)}
theorem SG.mapUpdate[DecidableEq κ]{enc:κ->Value}{V:ν->Value}{m:List (κ×ν)}{k:TypeId}[u:Ut P T (.map k E)]{kx:κ}{vy:ν}
  (o:want ops L ⟨none,.mapUpdate T a x y,ty,pos,af,g⟩=some true) (j:(known L a&&(known L x&&known L y))=true) (i:bH L a= .map (some b)) (p:bH L x=enc kx) (q:bH L y=V vy) (l:aF w b enc V m) (K:da P k enc)
  (h:∀c,Kp [b] w c->aF c b enc V (ca m kx vy)->SG P n ops Q rest L c):SG P n ops Q (⟨none,.mapUpdate T a x y,ty,pos,af,g⟩::rest) L w:=by
 refine SG.op rfl rfl o (by simpa[Op.operands] using j) ?_
 unfold bD
 obtain⟨r,d,e,f⟩:=jr (P:=P) (u:=u) l K kx vy
 have:(execOp (bH L) ⟨none,.mapUpdate T a x y,ty,pos,af,g⟩).run P w= .ok .skip {w with heap:=w.heap.setIfInBounds b r}:=by
  simp only[execOp,i,p,q,Sem.run_bind,d,Result.andThen,Sem.run_pure]
 rw[this]
 exact h _ f e
theorem aM.kQ{X:Type}{ops:List Oper}{f:FuncId}[bU P f]{args:List Operand}{vs:List Value}{b:Array TypeId}(val:X->Value)(a:X->World->Prop)
  (v:ops[i]?=some ⟨some d,.call ⟨.value (.func f),args.toArray,b⟩,ty,pos,af,g⟩) (y:want ops L ⟨some d,.call ⟨.value (.func f),args.toArray,b⟩,ty,pos,af,g⟩=some true) (t:gh.elem i=true) (u:(Op.call ⟨.value (.func f),args.toArray,b⟩).operands.toList.all (known L)=true)
  (s:bg L args vs) (o:∀x,cH [] (a x)) (p:cH [] F) (q:∀w,Kp [] w0 w->F w->Calls P f vs.toArray w (fun e c=>∃x,e= .returned (val x)/\a x c/\Kp [] w c))
  (r:∀x,aM P [] w0 ops gh K ord ((d,val x)::L) (fun w=>F w/\a x w) (fun _=>True)):aM P [] w0 ops gh K (i::ord) L F (fun _=>True):=
 aM.ghost val a (fun _ _=>True) v y t u o (fun _ _ _ _ _=>trivial) p (fun w l m _=>fR (by rw[s.arr];exact(q w l m).mono (fun e c ⟨x,h,j,k⟩=>⟨val x,h,x,rfl,j,trivial,k⟩))) r
theorem aM.HC{ops:List Oper}{a:TypeInfo}[u:Ut P T dsc][f:dJ P T a]
  (o:ops[i]?=some ⟨some d,.load T x,ty,pos,af,g⟩) (q:want ops L ⟨some d,.load T x,ty,pos,af,g⟩=some true) (j:gh.elem (i+1000)=true) (k:known L x=true) (r:bH L x= .pointer (some ⟨b,off,none⟩)) (e:pE dsc=true) (p:∀w,R w->Row w b off l) (m:l.length=a.size)
  (h:aM P S w0 ops gh K ord ((d,.agg l.toArray)::L) F R):aM P S w0 ops gh K (i::ord) L F R:=
 aM.LO o q j (by simpa[Op.operands] using k) (fun w _ _ c=>by simp[execOp,r,iJ (u:=u) (f:=f) e (p w c) m]) h
theorem aM.Dd{ops:List Oper}(c:World->Prop){p:Value}
  (r:ops[i]?=some ⟨none,.store T a x,ty,pos,af,g⟩) (t:want ops L ⟨none,.store T a x,ty,pos,af,g⟩=some true) (o:gh.elem i=true) (q:(known L a&&known L x)=true) (l:bH L a=p) (u:bH L x=v) (h:cH S F) (k:cH [] c)
  (s:∀w,R w->∃b,(Instr.storeAt T p v).run P w= .ok () b/\c b/\Kp S w b)
  (m:aM P S w0 ops gh K ord L (fun w=>F w/\True) c):aM P S w0 ops gh K (i::ord) L F R:=by
 refine aM.ghost (X:=Unit) (fun _=>undef) (fun _ _=>True) (fun _=>c) r t o (by simpa[Op.operands] using q) (fun _ _ _ _ _=>trivial) (fun _=>k) h ?_ (fun _=>m)
 intro w _ _ j
 obtain⟨b,d,e,f⟩:=s w j
 unfold bD
 have:(execOp (bH L) ⟨none,.store T a x,ty,pos,af,g⟩).run P w= .ok .skip b:=by
  simp only[execOp,l,u,Sem.run_bind,d,Result.andThen,Sem.run_pure]
 rw[this]
 exact⟨(),rfl,trivial,e,f⟩
theorem aM.makeMap(enc:κ->Value)(V:ν->Value){ops:List Oper}
  (f:ops[i]?=some ⟨some d,.makeMap T none,ty,pos,af,g⟩) (j:want ops L ⟨some d,.makeMap T none,ty,pos,af,g⟩=some true) (e:gh.elem i=true)
  (c:∀b,aM P [] w0 ops gh K ord ((d,.map (some b))::L) (fun _=>True/\True) (fun w=>w0.heap.size<=b/\aF w b enc V [])):aM P [] w0 ops gh K (i::ord) L (fun _=>True) R:=by
 refine aM.rG (X:=Nat) (fun b=> .map (some b)) (fun _ _=>True) (fun b w=>w0.heap.size<=b/\aF w b enc V []) f j e (by simp[Op.operands]) (fun _ _ _ _ _=>trivial) (fun b w k a h=>⟨h.1,h.2.az a⟩) ?_ c
 intro w a _ _
 unfold bD
 have:(execOp (bH L) ⟨some d,.makeMap T none,ty,pos,af,g⟩).run P w= .ok (.value (.map (some w.heap.size))) {w with heap:=w.heap.push (.map #[] 0)}:=by
  simp[execOp,Instr.makeMap,newObj,Sem.run,Result.andThen]
 rw[this]
 exact⟨w.heap.size,rfl,⟨trivial,trivial⟩,⟨a.size,aF.made w enc V⟩,a.trans (Kp.push w _ rfl)⟩
theorem aM.insert[DecidableEq κ]{enc:κ->Value}{V:ν->Value}{m:List (κ×ν)}{ops:List Oper}{Kn:Env->(World->Prop)->(World->Prop)->Prop}{k:TypeId}[u:Ut P T (.map k E)]{kx:κ}{vy:ν}
  (r:ops[i]?=some ⟨none,.insert T a x y,ty,pos,af,g⟩) (s:want ops L ⟨none,.insert T a x y,ty,pos,af,g⟩=some true) (p:gh.elem i=true) (d:(known L a&&(known L x&&known L y))=true) (l:bH L a= .map (some b)) (t:bH L x=enc kx) (v:bH L y=V vy) (K:da P k enc)
  (o:aM P [] w0 ops gh Kn ord L (fun _=>(True/\True)/\True) (fun w=>w0.heap.size<=b/\aF w b enc V (ca m kx vy))):aM P [] w0 ops gh Kn (i::ord) L (fun _=>True/\True) (fun w=>w0.heap.size<=b/\aF w b enc V m):=by
 refine aM.rG (X:=Unit) (fun _=>undef) (fun _ _=>True) (fun _ w=>w0.heap.size<=b/\aF w b enc V (ca m kx vy)) r s p (by simpa[Op.operands] using d) (fun _ _ _ _ _=>trivial) (fun _ w A d h=>⟨h.1,h.2.az d⟩) ?_ (fun _=>o)
 intro w q _ c
 obtain⟨z,e,f,j⟩:=jr (P:=P) (u:=u) c.2 K kx vy
 unfold bD
 have:(execOp (bH L) ⟨none,.insert T a x y,ty,pos,af,g⟩).run P w= .ok .skip {w with heap:=w.heap.setIfInBounds b z}:=by
  simp only[execOp,l,t,v,Sem.run_bind,e,Result.andThen,Sem.run_pure]
 rw[this]
 exact⟨(),rfl,⟨⟨trivial,trivial⟩,trivial⟩,⟨c.1,f⟩,q.aj j (aW c.1)⟩
theorem SG.buildSlice{c:Array Value}(f:Nat.blt d n=true)(l:want ops L ⟨some d,.buildSlice T m parts.toArray,ty,pos,af,g⟩=some true)(j:(Op.buildSlice T m parts.toArray).operands.toList.all (known L)=true)
  (i:(parts.map fun p=>(p.1,bH L p.2))=vs) (k:∀w:World,(Instr.buildSlice T m vs.toArray).run P w= .ok (.slice (some ⟨w.heap.size,0,none⟩) m m) {w with heap:=w.heap.push (.cells c E)})
  (h:∀b a,Kp [] w a->w.heap.size<=b->aG a b (.cells c E)->SG P n ops Q rest ((d,.slice (some ⟨b,0,none⟩) m m)::L) a):SG P n ops Q (⟨some d,.buildSlice T m parts.toArray,ty,pos,af,g⟩::rest) L w:=by
 refine SG.op (by simpa using f) rfl l j ?_
 unfold bD
 have e:(parts.toArray.map fun(p:Nat×Operand)=>(p.1,bH L p.2))=vs.toArray:=by simp[i]
 have:(execOp (bH L) ⟨some d,.buildSlice T m parts.toArray,ty,pos,af,g⟩).run P w= .ok (.value (.slice (some ⟨w.heap.size,0,none⟩) m m)) {w with heap:=w.heap.push (.cells c E)}:=by
  simp only[execOp,e,Sem.run_bind,k w,Result.andThen,Sem.run_pure]
 rw[this]
 exact h w.heap.size _ (Kp.push w _ rfl) (Nat.le_refl _) (aG.push w _)
theorem SG.append{i:TypeInfo}[u:Ut P t (.slice e)][f:dJ P e i]{s:Operand}{nn:Nat}
  (A:Nat.blt d n=true) (H:want ops L ⟨some d,.call {callee:= .builtin .append,args:= #[s,x],argTypes:= #[t,t]},ty,pos,af,g⟩=some true) (B:(known L s&&known L x)=true)
  (F:bH L s=v) (I:bH L x= .slice (some ⟨b,off,none⟩) m c) (J:i.zero=some z) (K:Nat.beq z.cells.size i.size=true) (G:Nat.blt 0 i.size=true) (D:w.ownsRow base e i.size v nn xs) (E:Row w b off news) (C:news.length=m*i.size) (k:bI news=true)
  (q:nn+m<=maxLen) (y:(nn+m)*i.bytes<=140737488355328) (r:base<=w.heap.size)
  (h:∀j a,Kp (aR v) w a->a.ownsRow base e i.size j (nn+m) (xs++news)->SG P n ops Q rest ((d,j)::L) a):SG P n ops Q (⟨some d,.call {callee:= .builtin .append,args:= #[s,x],argTypes:= #[t,t]},ty,pos,af,g⟩::rest) L w:=by
 refine SG.op (by simpa using A) rfl H (by simpa[Op.operands,Call.operands] using B) ?_
 unfold bD
 obtain⟨j,a,l,o,p⟩:=gD (P:=P) (ty:=ty) (d:= .bool) (c:=c) (u:=u) (f:=f) J (Nat.eq_of_beq_eq_true K) (by simpa[Nat.blt_eq] using G) D C E k q y r
 have:(execOp (bH L) ⟨some d,.call {callee:= .builtin .append,args:= #[s,x],argTypes:= #[t,t]},ty,pos,af,g⟩).run P w= .ok (.value j) a:=by
  simp only[execOp,resolve,invoke,builtin,Sem.run_bind,Sem.run_pure,Result.andThen_ok,map_toArray,map_cons,map_nil,F,I,l]
 rw[this]
 exact h j a p o
end
end
section
variable{c:Bool}{a:Int}{k:IntKind}{b j n off sz:Nat}{x y:Operand}{P:Program}{p:Prop}{κ ν:Type}{d:TypeDesc}{E T T':TypeId}{i:TypeInfo}{v z:Value}
def ro(L:Env):Operand->Option Value
 | .tmp t=>look L t
 | .const v=>some v
 | .global g=>some (.pointer (some ⟨g,0,none⟩))
 | .func f=>some (.func (.func f) #[] #[])
theorem ag{L:Env}(h:ro L x=some v):bH L x=v:=by
 cases x with
 |tmp t=>exact F3 h
 |_=>simp only[ro,Option.some.injEq] at h;exact h
structure Dc(p:Prop)(c:Bool):Prop where
 t:c=true->p
 f:c=false->¬p
theorem bM(h:p):Dc p true:=⟨fun _=>h,fun e=>absurd e (by simp)⟩
theorem qf{p}(h:p:=by first|assumption|omega):Dc p true:=bM h
theorem bP(h:¬p):Dc p false:=⟨fun e=>absurd e (by simp),fun _=>h⟩
theorem qr{p}(h:¬p:=by first|assumption|omega):Dc p false:=bP h
theorem B4[Decidable p]:Dc p (decide p):=⟨fun h=>of_decide_eq_true h,fun h=>of_decide_eq_false h⟩
theorem Dc.eq[d:Decidable p](h:Dc p c):decide p=c:=by
 cases c with
 |true=>exact decide_eq_true (h.t rfl)
 |false=>exact decide_eq_false (h.f rfl)
structure Ar(p:Prop):Prop where
 h:p
theorem wn{b:Nat}:b∉[]:=not_mem_nil
theorem zc{p}(h:p:=by omega):Ar p:=⟨h⟩
class gK(P:Program)(T:TypeId)(sz:outParam Nat):Prop where
 eq:∃d i,P.underlying T=some d/\pE d=true/\P.info? T=some i/\i.size=sz
class cQ(P:Program)(T:TypeId):Prop where
 eq:∃d,P.underlying T=some d/\pE d=false
theorem gK.of(h:P.underlying T=some d)(a:pE d=true)(b:P.info? T=some i)(c:i.size=sz):gK P T sz:=⟨d,i,h,a,b,c⟩
theorem cQ.of(h:P.underlying T=some d)(a:pE d=false):cQ P T:=⟨d,h,a⟩
class zQ(P:Program)(k:TypeId){κ:outParam Type}(enc:outParam (κ->Value)):Prop where
 key:da P k enc
instance{P:Program}{k:TypeId}{n:Nat}[c:gJ P k n]:zQ P k (dv (n:=n)):=⟨c.key⟩
structure Lk{κ ν:Type}[DecidableEq κ](V:ν->Value)(z:Value)(m:List (κ×ν))(x:κ)(v:Value)(c:Bool):Prop where
 eq:(∃r,aC m x=some r/\v=V r/\c=true)\/(aC m x=none/\v=z/\c=false)
theorem iX[DecidableEq κ]{V:ν->Value}{m:List (κ×ν)}{x:κ}{r:ν}(h:aC m x=some r):Lk V z m x (V r) true:=⟨Or.inl ⟨r,h,rfl,rfl⟩⟩
theorem rz[DecidableEq κ]{V:ν->Value}{m:List (κ×ν)}{x:κ}(h:aC m x=none):Lk V z m x z false:=⟨Or.inr ⟨h,rfl,rfl⟩⟩
section
variable {P:Program} {S:List Nat} {w0:World} {F:World->Prop} {L:Env} {d:Option Nat} {ty:TypeId} {pos:String} {af:Array Edge} {g:Option (Nat×Bool)}
theorem aB(a:ro L x=some v):aP P S w0 F L ⟨d,.move x,ty,pos,af,g⟩ v:=AZ (ag a)
theorem aE(a:ro L x=some v):aP P S w0 F L ⟨d,.assign x,ty,pos,af,g⟩ v:=vF (ag a)
theorem cI{c a b:Operand}{cb:Bool}(e:ro L c=some (.bool cb))(f:ro L (bif cb then a else b)=some v):aP P S w0 F L ⟨d,.pick c a b,ty,pos,af,g⟩ v:=by
 cases cb with
 |true=>exact vB (ag e) (ag f)
 |false=>exact vC (ag e) (ag f)
theorem bR{a:Addr}(b:ro L x=some (.pointer (some a))):aP P S w0 F L ⟨d,.nilCheck x,ty,pos,af,g⟩ (.pointer (some a)):=sH (ag b)
theorem ig{b:Bool}(a:ro L x=some (.bool b)):aP P S w0 F L ⟨d,.unOp .not T x,ty,pos,af,g⟩ (.bool !b):=CB (ag a)
theorem dd{k:Nat}{vs:List Value}(b:ro L x=some (.tuple vs.toArray))(a:vs[k]?=some v):aP P S w0 F L ⟨d,.extract x k,ty,pos,af,g⟩ v:=uf (ag b) (by simpa using a)
theorem aU{c:TypeId}{k a:Nat}[u:cE P T k a c](e:ro L x=some (.pointer (some ⟨b,off,none⟩))):aP P S w0 F L ⟨d,.fieldAddr T x k,ty,pos,af,g⟩ (.pointer (some ⟨b,off+a,none⟩)):=qN (u:=u) (ag e)
theorem aZ[c:cQ P T](i:ro L x=some (.pointer (some ⟨b,off,none⟩)))(h:Row w0 b off [v])(f:b∉S):aP P S w0 F L ⟨d,.load T x,ty,pos,af,g⟩ v:=by
 obtain⟨dc,a,e⟩:=c.eq
 exact qJ (u:=⟨a⟩) (ag i) e h f
theorem bf[c:gK P T sz]{l:List Value}(o:ro L x=some (.pointer (some ⟨b,off,none⟩)))(n:Row w0 b off l)(k:b∉S)(m:l.length=sz):aP P S w0 F L ⟨d,.load T x,ty,pos,af,g⟩ (.agg l.toArray):=by
 obtain⟨dc,i,a,e,h,j⟩:=c.eq
 exact sI (u:=⟨a⟩) (f:=⟨h⟩) (ag o) e n k (by rw[j];exact m)
theorem dp[u:Ut P T (.int .i64)]{b:Int}(c:ro L x=some (.int .i64 a))(e:ro L y=some (.int .i64 b))(h:Ar (-9223372036854775808<=a+b/\a+b<=9223372036854775807)):aP P S w0 F L ⟨d,.binOp .add T x y T',ty,pos,af,g⟩ (.int .i64 (a+b)):=CU (ag c) (ag e) h.h.1 h.h.2
theorem td[u:Ut P T (.int .i64)]{b:Int}(c:ro L x=some (.int .i64 a))(e:ro L y=some (.int .i64 b))(h:Ar (-9223372036854775808<=a-b/\a-b<=9223372036854775807)):aP P S w0 F L ⟨d,.binOp .sub T x y T',ty,pos,af,g⟩ (.int .i64 (a-b)):=CA (ag c) (ag e) h.h.1 h.h.2
theorem cg[u:Ut P T (.int k)]{b:Int}(e:ro L x=some (.int k a))(f:ro L y=some (.int k b))(h:Dc (a<b) c):aP P S w0 F L ⟨d,.binOp .lss T x y T',ty,pos,af,g⟩ (.bool c):=h.eq▸CL (ag e) (ag f)
theorem Cq[u:Ut P T (.int k)]{b:Int}(e:ro L x=some (.int k a))(f:ro L y=some (.int k b))(h:Dc (a<=b) c):aP P S w0 F L ⟨d,.binOp .leq T x y T',ty,pos,af,g⟩ (.bool c):=h.eq▸CM (ag e) (ag f)
theorem ij[u:Ut P T (.int k)]{b:Int}(e:ro L x=some (.int k a))(f:ro L y=some (.int k b))(h:Dc (b<a) c):aP P S w0 F L ⟨d,.binOp .gtr T x y T',ty,pos,af,g⟩ (.bool c):=h.eq▸CN (ag e) (ag f)
theorem ji[u:Ut P T (.int k)]{b:Int}(e:ro L x=some (.int k a))(f:ro L y=some (.int k b))(h:Dc (b<=a) c):aP P S w0 F L ⟨d,.binOp .geq T x y T',ty,pos,af,g⟩ (.bool c):=h.eq▸CO (ag e) (ag f)
theorem fE[u:Ut P T (.int k)]{b:Int}(e:ro L x=some (.int k a))(f:ro L y=some (.int k b))(h:Dc (a=b) c):aP P S w0 F L ⟨d,.binOp .eql T x y T',ty,pos,af,g⟩ (.bool c):=h.eq▸CR (ag e) (ag f)
theorem du[u:Ut P T (.int k)]{b:Int}(e:ro L x=some (.int k a))(f:ro L y=some (.int k b))(h:Dc (a=b) c):aP P S w0 F L ⟨d,.binOp .neq T x y T',ty,pos,af,g⟩ (.bool (!c)):=h.eq▸CH (ag e) (ag f)
theorem vT{k:TypeId}[u:gJ P k n]{a b:BA n}(e:ro L x=some (dv a))(f:ro L y=some (dv b))(h:Dc (a=b) c):aP P S w0 F L ⟨d,.binOp .eql k x y T',ty,pos,af,g⟩ (.bool c):=h.eq▸CS (ag e) (ag f)
theorem Cp{k:TypeId}[u:gJ P k n]{a b:BA n}(e:ro L x=some (dv a))(f:ro L y=some (dv b))(h:Dc (a=b) c):aP P S w0 F L ⟨d,.binOp .neq k x y T',ty,pos,af,g⟩ (.bool (!c)):=h.eq▸CJ (ag e) (ag f)
theorem U7[u:Ut P T .bool]{a b:Bool}(c:ro L x=some (.bool a))(e:ro L y=some (.bool b)):aP P S w0 F L ⟨d,.binOp .neq T x y T',ty,pos,af,g⟩ (.bool (!(a==b))):=CK (u:=u) (ag c) (ag e)
theorem jF[u:Ut P T (.pointer E)]{a:Option Addr}(b:ro L x=some (.pointer a))(c:ro L y=some (.pointer none)):aP P S w0 F L ⟨d,.binOp .eql T x y T',ty,pos,af,g⟩ (.bool a.isNone):=CQ (u:=u) (ag b) (ag c)
theorem U6[u:Ut P T (.pointer E)]{a:Option Addr}(b:ro L x=some (.pointer a))(c:ro L y=some (.pointer none)):aP P S w0 F L ⟨d,.binOp .neq T x y T',ty,pos,af,g⟩ (.bool (!a.isNone)):=CF (u:=u) (ag b) (ag c)
theorem xX{k':IntKind}[u:Ut P T (.int k)][u':Ut P T' (.int k')](b:ro L x=some (.int k a)):aP P S w0 F L ⟨d,.convert T T' x,ty,pos,af,g⟩ (.int k' (k'.wrap a)):=A1 (u:=u) (u':=u') (ag b)
theorem jz[DecidableEq κ]{enc:κ->Value}{V:ν->Value}{m:List (κ×ν)}{k:TypeId}[u:Ut P T (.map k E)][f:dJ P E i][K:zQ P k enc]{kx:κ}
  (e:ro L x=some (.map (some b))) (j:ro L y=some (enc kx)) (l:i.zero=some z) (h:aF w0 b enc V m) (n:Lk V z m kx v c) (a:b∉S):aP P S w0 F L ⟨d,.lookup T x y true,ty,pos,af,g⟩ (.tuple #[v,.bool c]):=by
 rcases n.eq with⟨r,h1,rfl,rfl⟩|⟨h1,rfl,rfl⟩
 ·exact yg (u:=u) (f:=f) (ag e) (ag j) h a K.key l h1
 ·exact yh (u:=u) (f:=f) (ag e) (ag j) h a K.key l h1
theorem oQ[DecidableEq κ]{enc:κ->Value}{V:ν->Value}{m:List (κ×ν)}{k:TypeId}[u:Ut P T (.map k E)][f:dJ P E i][K:zQ P k enc]{kx:κ}
  (e:ro L x=some (.map (some b))) (j:ro L y=some (enc kx)) (l:i.zero=some z) (h:aF w0 b enc V m) (n:Lk V z m kx v c) (a:b∉S):aP P S w0 F L ⟨d,.lookup T x y false,ty,pos,af,g⟩ v:=by
 rcases n.eq with⟨r,h1,rfl,rfl⟩|⟨h1,rfl,rfl⟩
 ·exact vD (u:=u) (f:=f) (ag e) (ag j) h a K.key l h1
 ·exact vE (u:=u) (f:=f) (ag e) (ag j) h a K.key l h1
theorem dg[u:Ut P T (.slice E)]{a:Option Addr}{c:Nat}(b:ro L x=some (.slice a n c)):aP P S w0 F L ⟨d,.call {callee:= .builtin .len,args:= #[x],argTypes:= #[T]},ty,pos,af,g⟩ (.int .i64 n):=qK (u:=u) (ag b)
theorem Kg{enc:κ->Value}{V:ν->Value}{m:List (κ×ν)}{k:TypeId}[u:Ut P T (.map k E)](c:ro L x=some (.map (some b)))(h:aF w0 b enc V m)(a:b∉S):aP P S w0 F L ⟨d,.call {callee:= .builtin .len,args:= #[x],argTypes:= #[T]},ty,pos,af,g⟩ (.int .i64 m.length):=ue (u:=u) (ag c) h a
theorem fa[u:Ut P T (.slice E)][f:Sz P E sz]{c:Nat}{z:Int}(e:ro L x=some (.slice (some ⟨b,off,none⟩) n c))(i:ro L y=some (.int k z))(l:z=(j:Int))(a:Ar (j<n)):
  aP P S w0 F L ⟨d,.indexAddr T x y,ty,pos,af,g⟩ (.pointer (some ⟨b,off+j*sz,none⟩)):=zS (u:=u) (f:=f) (ag e) (by rw[ag i,l]) a.h
theorem Du[u:Ut P T (.slice E)][f:Sz P E sz]{c:Nat}{z:Int}(e:ro L x=some (.slice (some ⟨b,off,none⟩) n c))(a:Ar (0<=z/\z<n)):
  aP P S w0 F L ⟨d,.indexAddr T x (.const (.int k z)),ty,pos,af,g⟩ (.pointer (some ⟨b,off+z.toNat*sz,none⟩)):=zS (u:=u) (f:=f) (j:=z.toNat) (ag e) (by rw[Int.toNat_of_nonneg a.h.1];exact Bf) (by have:=a.h;omega)
theorem Ki[u:Ut P T (.slice E)][f:Sz P E sz]{a:Operand}{c:Nat}{z:Int}(l:ro L x=some (.slice (some ⟨b,off,none⟩) n c))(i:ro L a=some (.int k z))(m:z=(j:Int))(e:Ar (j<=n)):
  aP P S w0 F L ⟨d,.slice T x (some a) none none,ty,pos,af,g⟩ (.slice (some ⟨b,if c=j then off else off+j*sz,none⟩) (n-j) (c-j)):=oT (u:=u) (f:=f) (ag l) (by rw[ag i,m]) e.h
theorem Lv[u:Ut P T (.slice E)][f:Sz P E sz]{l:Operand}{a:Option Addr}{c:Nat}{z:Int}(v:ro L x=some (.slice a n c))(r:ro L l=some (.int k z))(y:z=(j:Int))(t:Ar (j<=c)):
  aP P S w0 F L ⟨d,.slice T x none (some l) none,ty,pos,af,g⟩ (.slice a j c):=fun w _ _=>by
 obtain⟨i,m,o⟩:=f.eq
 have p:(j:Int)<=c:=by have:=t.h;omega
 subst o
 subst y
 simp only[execOp,ag v,Option.map_some,Option.map_none,ag r,Instr.sliceAt,Sem.run_bind,run_underlying u.eq,Result.andThen,Instr.slice,Instr.sliceBounds,Instr.sliceBound,asIntOf,Sem.run_pure]
 have q:(0:Int)<=(j:Int)/\(j:Int)<=(c:Int):=⟨by omega,p⟩
 simp only[q,and_self,if_true,Sem.run_pure,sizeOf,typeInfo,Sem.run_bind,run_program,Result.andThen,m]
 cases a with
 |none=>simp
 |some a=>
  obtain⟨b,A,s⟩:=a
  by_cases e:c=0
  ·subst e;simp
  ·simp[e,Addr.add]
end
end
section
variable{S:List Nat}{post pre xs:List Value}{b base c i n:Nat}{a:Option Addr}{T:TypeId}{v:Value}{w w' w0:World}
section
variable {α:Type} {enc:α->List Value} {sz:Nat}
def Sl(enc:α->List Value)(sz:Nat)(w:World)(a:Option Addr)(l:List α):Prop:=∀i x,l[i]?=some x->∃b off,a=some ⟨b,off,none⟩/\Row w b (off+i*sz) (enc x)
theorem Sl.kp{l:List α}(h:Sl enc sz w a l)(g:Kp S w w')(f:∀b c,a=some ⟨b,c,none⟩->b∉S):Sl enc sz w' a l:=fun i x j=>by
 obtain⟨b,c,d,e⟩:=h i x j
 exact⟨b,c,d,e.kp g (f b c d)⟩
theorem Sl.az{l:List α}(h:Sl enc sz w a l)(b:Kp [] w w'):Sl enc sz w' a l:=h.kp b (by simp)
theorem Sl.take{l:List α}(h:Sl enc sz w a l)(n:Nat):Sl enc sz w a (l.take n):=fun i x b=>by
 rw[getElem?_take] at b
 split at b
 ·exact h i x b
 ·cases b
theorem Sl.nil:Sl enc sz w a []:=fun i x b=>by simp at b
theorem Sl.at{l:List α}(h:Sl enc sz w a l)(d:i<l.length):∃b c,a=some ⟨b,c,none⟩/\Row w b (c+i*sz) (enc l[i]):=h i l[i] (getElem?_eq_getElem d)
theorem Sl.row{off:Nat}{l:List α}(h:Sl enc sz w (some ⟨b,off,none⟩) l){x:α}(d:l[i]?=some x):Row w b (off+i*sz) (enc x):=by
 obtain⟨e,f,a,c⟩:=h i x d
 simp only[Option.some.injEq,Addr.mk.injEq,and_true] at a
 obtain⟨rfl,rfl⟩:=a
 exact c
def bX(enc:α->List Value)(l:List α):List Value:=l.flatMap enc
theorem cD(a:∀x,(enc x).length=sz)(l:List α):(bX enc l).length=l.length*sz:=by
 induction l with
 |nil=>simp[bX]
 |cons x l b=>
  simp only[bX,flatMap_cons,length_append,a,length_cons,Nat.add_mul] at*
  omega
theorem dP(a b:List α):bX enc (a++b)=bX enc a++bX enc b:=by simp[bX]
theorem ix(x:α):bX enc [x]=enc x:=by simp[bX]
theorem qE(a:∀x,bI (enc x)=true)(l:List α):bI (bX enc l)=true:=by
 induction l with
 |nil=>rfl
 |cons x l b=>
  have:=a x
  unfold bI at*
  simp only[bX,flatMap_cons,all_append,this,Bool.true_and] at*
  exact b
theorem tJ(l:List α)(k:Nat)(b:k<l.length):bX enc l=bX enc (l.take k)++(enc l[k]++bX enc (l.drop (k+1))):=by
 have e:l=l.take k++(l[k]::l.drop (k+1)):=by rw[<-drop_eq_getElem_cons b,take_append_drop]
 have a:bX enc (l.take k++(l[k]::l.drop (k+1)))=bX enc (l.take k)++(enc l[k]++bX enc (l.drop (k+1))):=by simp only[bX,flatMap_append,flatMap_cons]
 rw[<-e] at a
 exact a
theorem GK(c:∀x,(enc x).length=sz){l:List α}(h:aG w b (.cells (pre++(bX enc l++post)).toArray T)){k:Nat}(a:k<l.length):Row w b (pre.length+k*sz) (enc l[k]):=by
 refine Row.of h (pre++bX enc (l.take k)) (bX enc (l.drop (k+1))++post) ?_ ?_
 ·rw[tJ l k a];simp
 ·simp[cD c,Nat.min_eq_left (Nat.le_of_lt a)]
theorem Sl.iL(d:∀x,(enc x).length=sz){l:List α}(h:aG w b (.cells (pre++(bX enc l++post)).toArray T)):Sl enc sz w (some ⟨b,pre.length,none⟩) l:=fun i x a=>by
 have c:i<l.length:=(List.getElem?_eq_some_iff.1 a).1
 have:=GK d h c
 rw[getElem?_eq_getElem c] at a
 cases a
 exact⟨b,_,rfl,this⟩
theorem Sl.own{l:List α}(d:∀x,(enc x).length=sz)(h:w.ownsRow base T sz v n (bX enc l))(e:l.length=n):∃a c,v= .slice a n c/\n<=c/\Sl enc sz w a l:=by
 obtain⟨f,b⟩:=h
 rcases b with⟨rfl,rfl⟩|⟨g,cap,cur,rfl,hg,hh,hnc,hcm,hcs,ht⟩
 ·have:l=[]:=eq_nil_of_length_eq_zero e
  subst this
  exact⟨none,0,rfl,by omega,Sl.nil⟩
 ·refine⟨some ⟨g,0,none⟩,cap,rfl,hnc,?_⟩
  have:cur=([]++(bX enc l++cur.toList.drop (n*sz))).toArray:=by
   rw[<-ht,nil_append,take_append_drop]
  rw[this] at hh
  exact Sl.iL d (pre:=[]) hh
theorem DH{l:List α}(a:∀x,(enc x).length=sz)(h:aG w b (.cells (bX enc l).toArray T))(c:base<=b)(e:l.length=n)(d:n<=maxLen):w.ownsRow base T sz (.slice (some ⟨b,0,none⟩) n n) n (bX enc l):=by
 subst e
 refine⟨cD a l,Or.inr ⟨b,l.length,(bX enc l).toArray,rfl,c,h,Nat.le_refl _,d,by simp[cD a],?_⟩⟩
 rw[<-cD a l]
 simp
theorem dY:w.ownsRow base T sz (.slice none 0 0) 0 (bX enc ([]:List α)):=⟨by simp[bX],Or.inl ⟨rfl,rfl⟩⟩
theorem Il{sz:Nat}(h:w.ownsRow base T sz v n xs):∀z,z<base->z∉aR v:=by
 intro z b a
 unfold aR at a
 cases hv:v.ownBlock with
 |none=>rw[hv] at a;simp at a
 |some g=>rw[hv] at a;simp at a;have:=(h.lt g hv).1;omega
theorem ff{sz:Nat}(h:w.ownsRow base T sz v n xs)(c:w0.heap.size<=base):∀z∈aR v,z∈S\/w0.heap.size<=z:=by
 intro z b
 by_cases a:z<base
 ·exact absurd b (Il h z a)
 ·exact Or.inr (by omega)
structure sr(n:Nat)(enc:α->List Value)(sz:Nat)(w:World)(a:Option Addr)(c:Nat)(l:List α):Prop where
 len:l.length<=c
 fr:∀b off,a=some ⟨b,off,none⟩->n<=b
 sl:Sl enc sz w a l
theorem sr.az{l:List α}(h:sr n enc sz w a c l)(b:Kp [] w w'):sr n enc sz w' a c l:=⟨h.len,h.fr,h.sl.az b⟩
theorem sr.mono{m:Nat}{l:List α}(h:sr n enc sz w a c l)(d:m<=n):sr m enc sz w a c l:=⟨h.len,fun b f e=>Nat.le_trans d (h.fr b f e),h.sl⟩
theorem sr.nil:sr n enc sz w none c ([]:List α):=⟨by simp,fun b a e=>absurd e (by simp),Sl.nil⟩
theorem sr.own{l:List α}(j:∀x,(enc x).length=sz)(h:w.ownsRow base T sz v n (bX enc l))(k:l.length=n):∃a c,v= .slice a n c/\sr base enc sz w a c l:=by
 obtain⟨a,c,f,d,i⟩:=Sl.own j h k
 refine⟨a,c,f,by omega,fun b m e=>?_,i⟩
 subst e
 subst f
 obtain⟨_,d⟩:=h
 rcases d with⟨d,_⟩|⟨g,cap,cur,d,hg,_⟩
 ·cases d
 ·simp only[Value.slice.injEq,Option.some.injEq,Addr.mk.injEq] at d
  omega
theorem sX:cH [] (fun _=>True):=fun _ _ _ h=>h
def Hn(P:Program)(enc:α->List Value)(sz:Nat)(f:FuncId)(args:Array Value)(w:World)(l:List α):Prop:=Calls P f args w (fun e w'=>∃a c,e= .returned (.slice a l.length c)/\sr w.heap.size enc sz w' a c l/\Kp [] w w')
theorem aM.mR{P:Program}{L:Env}{ty:TypeId}{pos:String}{af:Array Edge}{g:Option (Nat×Bool)}{b:List Oper}{j:List Nat}{K:Env->(World->Prop)->(World->Prop)->Prop}{o:List Nat}{F:World->Prop}{d:Nat}{f:FuncId}[bU P f]{args:List Operand}{vs:List Value}{m:Array TypeId}(l:List α)
  (A:b[i]?=some ⟨some d,.call ⟨.value (.func f),args.toArray,m⟩,ty,pos,af,g⟩) (B:want b L ⟨some d,.call ⟨.value (.func f),args.toArray,m⟩,ty,pos,af,g⟩=some true) (z:j.elem i=true) (k:(Op.call ⟨.value (.func f),args.toArray,m⟩).operands.toList.all (known L)=true)
  (y:bg L args vs) (u:cH [] F) (v:∀w,Kp [] w0 w->F w->Hn P enc sz f vs.toArray w l)
  (x:∀(a:Option Addr) (c:Nat),aM P [] w0 b j K o ((d,.slice a l.length c)::L) (fun w=>F w/\sr w0.heap.size enc sz w a c l) (fun _=>True)):aM P [] w0 b j K (i::o) L F (fun _=>True):=
 aM.kQ (X:=Option Addr×Nat) (fun q=> .slice q.1 l.length q.2) (fun q w=>sr w0.heap.size enc sz w q.1 q.2 l) A B z k y (fun q w C k h=>h.az k) u (fun w n t=>(v w n t).mono (fun e C ⟨a,c,p,r,s⟩=>⟨(a,c),p,r.mono n.size,s⟩)) (fun q=>x q.1 q.2)
end
end
section
open Go.Proofs
@[reducible] def ty.u0:= @Ut.mk prog 0 _ underlying0
@[reducible] def ty.u1:= @Ut.mk prog 1 _ underlying1
@[reducible] def ty.u2:= @Ut.mk prog 2 _ underlying2
instance ty.i3:dJ prog 3 Tryz.t3:=⟨by kernel_rfl⟩
instance ty.s3:Sz prog 3 1:=⟨_,ty.i3.eq,rfl⟩
@[reducible] def ty.u3:= @Ut.mk prog 3 _ underlying3
instance ty.c3:cQ prog 3:=cQ.of underlying3 rfl
instance ty.i4:dJ prog 4 Tryz.t4:=⟨by kernel_rfl⟩
@[reducible] def ty.u4:= @Ut.mk prog 4 _ underlying4
instance ty.c4:cQ prog 4:=cQ.of underlying4 rfl
instance ty.i5:dJ prog 5 Tryz.t5:=⟨by kernel_rfl⟩
instance ty.s5:Sz prog 5 1:=⟨_,ty.i5.eq,rfl⟩
@[reducible] def ty.u5:= @Ut.mk prog 5 _ underlying5
instance ty.c5:cQ prog 5:=cQ.of underlying5 rfl
@[reducible] def ty.u6:= @Ut.mk prog 6 _ underlying6
@[reducible] def ty.u7:= @Ut.mk prog 7 _ underlying7
@[reducible] def ty.u8:= @Ut.mk prog 8 _ underlying8
@[reducible] def ty.u9:= @Ut.mk prog 9 _ underlying9
@[reducible] def ty.UW:= @Ut.mk prog 10 _ underlying10
@[reducible] def ty.UU:= @Ut.mk prog 11 _ underlying11
@[reducible] def ty.UT:= @Ut.mk prog 12 _ underlying12
@[reducible] def ty.US:= @Ut.mk prog 13 _ underlying13
@[reducible] def ty.UR:= @Ut.mk prog 14 _ underlying14
@[reducible] def ty.UQ:= @Ut.mk prog 15 _ underlying15
@[reducible] def ty.u16:= @Ut.mk prog 16 _ underlying16
@[reducible] def ty.UP:= @Ut.mk prog 17 _ underlying17
@[reducible] def ty.UO:= @Ut.mk prog 18 _ underlying18
@[reducible] def ty.UN:= @Ut.mk prog 19 _ underlying19
@[reducible] def ty.UM:= @Ut.mk prog 20 _ underlying20
@[reducible] def ty.UL:= @Ut.mk prog 21 _ underlying21
@[reducible] def ty.UK:= @Ut.mk prog 22 _ underlying22
instance ty.i23:dJ prog 23 Tryz.t23:=⟨by kernel_rfl⟩
instance ty.Wp:Sz prog 23 1:=⟨_,ty.i23.eq,rfl⟩
@[reducible] def ty.UJ:= @Ut.mk prog 23 _ underlying23
instance ty.W0:cQ prog 23:=cQ.of underlying23 rfl
instance ty.i24:dJ prog 24 Tryz.t24:=⟨by kernel_rfl⟩
@[reducible] def ty.UI:= @Ut.mk prog 24 _ underlying24
instance ty.a24:gK prog 24 4:=gK.of underlying24 rfl ty.i24.eq rfl
@[reducible] def ty.UH:= @Ut.mk prog 25 _ underlying25
@[reducible] def ty.UG:= @Ut.mk prog 26 _ underlying26
@[reducible] def ty.UF:= @Ut.mk prog 27 _ underlying27
@[reducible] def ty.UE:= @Ut.mk prog 28 _ underlying28
@[reducible] def ty.UD:= @Ut.mk prog 29 _ underlying29
@[reducible] def ty.UC:= @Ut.mk prog 30 _ underlying30
instance ty.i31:dJ prog 31 Tryz.t31:=⟨by kernel_rfl⟩
@[reducible] def ty.UB:= @Ut.mk prog 31 _ underlying31
instance ty.a31:gK prog 31 3:=gK.of underlying31 rfl ty.i31.eq rfl
@[reducible] def ty.u32:= @Ut.mk prog 32 _ underlying32
instance ty.i33:dJ prog 33 Tryz.t33:=⟨by kernel_rfl⟩
@[reducible] def ty.UA:= @Ut.mk prog 33 _ underlying33
instance ty.WZ:cQ prog 33:=cQ.of underlying33 rfl
@[reducible] def ty.Uz:= @Ut.mk prog 34 _ underlying34
instance ty.i35:dJ prog 35 Tryz.t35:=⟨by kernel_rfl⟩
instance ty.Wo:Sz prog 35 9:=⟨_,ty.i35.eq,rfl⟩
@[reducible] def ty.Uy:= @Ut.mk prog 35 _ underlying35
instance ty.a35:gK prog 35 9:=gK.of underlying35 rfl ty.i35.eq rfl
instance ty.i36:dJ prog 36 Tryz.t36:=⟨by kernel_rfl⟩
instance ty.Wn:Sz prog 36 1:=⟨_,ty.i36.eq,rfl⟩
@[reducible] def ty.Ux:= @Ut.mk prog 36 _ underlying36
instance ty.WY:cQ prog 36:=cQ.of underlying36 rfl
@[reducible] def ty.Uw:= @Ut.mk prog 37 _ underlying37
instance ty.i38:dJ prog 38 Tryz.t38:=⟨by kernel_rfl⟩
@[reducible] def ty.Uv:= @Ut.mk prog 38 _ underlying38
instance ty.WX:cQ prog 38:=cQ.of underlying38 rfl
instance ty.i39:dJ prog 39 Tryz.t39:=⟨by kernel_rfl⟩
@[reducible] def ty.Uu:= @Ut.mk prog 39 _ underlying39
instance ty.WW:cQ prog 39:=cQ.of underlying39 rfl
instance ty.i40:dJ prog 40 Tryz.t40:=⟨by kernel_rfl⟩
@[reducible] def ty.Ur:= @Ut.mk prog 40 _ underlying40
instance ty.WV:cQ prog 40:=cQ.of underlying40 rfl
instance ty.i41:dJ prog 41 Tryz.t41:=⟨by kernel_rfl⟩
@[reducible] def ty.Uq:= @Ut.mk prog 41 _ underlying41
instance ty.WU:cQ prog 41:=cQ.of underlying41 rfl
instance ty.i42:dJ prog 42 Tryz.t42:=⟨by kernel_rfl⟩
@[reducible] def ty.Up:= @Ut.mk prog 42 _ underlying42
instance ty.WS:cQ prog 42:=cQ.of underlying42 rfl
@[reducible] def ty.Uo:= @Ut.mk prog 43 _ underlying43
@[reducible] def ty.Un:= @Ut.mk prog 44 _ underlying44
@[reducible] def ty.Um:= @Ut.mk prog 45 _ underlying45
@[reducible] def ty.Ul:= @Ut.mk prog 46 _ underlying46
instance ty.i47:dJ prog 47 Tryz.t47:=⟨by kernel_rfl⟩
instance ty.Wm:Sz prog 47 8:=⟨_,ty.i47.eq,rfl⟩
@[reducible] def ty.Uk:= @Ut.mk prog 47 _ underlying47
instance ty.Xd:gK prog 47 8:=gK.of underlying47 rfl ty.i47.eq rfl
@[reducible] def ty.Uj:= @Ut.mk prog 48 _ underlying48
@[reducible] def ty.Ui:= @Ut.mk prog 49 _ underlying49
instance ty.i50:dJ prog 50 Tryz.t50:=⟨by kernel_rfl⟩
instance ty.Wk:Sz prog 50 18:=⟨_,ty.i50.eq,rfl⟩
@[reducible] def ty.Uh:= @Ut.mk prog 50 _ underlying50
instance ty.a50:gK prog 50 18:=gK.of underlying50 rfl ty.i50.eq rfl
@[reducible] def ty.Ug:= @Ut.mk prog 51 _ underlying51
instance ty.i52:dJ prog 52 Tryz.t52:=⟨by kernel_rfl⟩
instance ty.Wj:Sz prog 52 13:=⟨_,ty.i52.eq,rfl⟩
@[reducible] def ty.Uf:= @Ut.mk prog 52 _ underlying52
instance ty.Xc:gK prog 52 13:=gK.of underlying52 rfl ty.i52.eq rfl
@[reducible] def ty.Ue:= @Ut.mk prog 53 _ underlying53
instance ty.i54:dJ prog 54 Tryz.t54:=⟨by kernel_rfl⟩
@[reducible] def ty.Ud:= @Ut.mk prog 54 _ underlying54
@[reducible] def ty.Uc:= @Ut.mk prog 55 _ underlying55
@[reducible] def ty.Ub:= @Ut.mk prog 56 _ underlying56
@[reducible] def ty.Ua:= @Ut.mk prog 57 _ underlying57
@[reducible] def ty.T9:= @Ut.mk prog 58 _ underlying58
instance ty.i59:dJ prog 59 Tryz.t59:=⟨by kernel_rfl⟩
instance ty.V9:Sz prog 59 10:=⟨_,ty.i59.eq,rfl⟩
@[reducible] def ty.T8:= @Ut.mk prog 59 _ underlying59
instance ty.a59:gK prog 59 10:=gK.of underlying59 rfl ty.i59.eq rfl
@[reducible] def ty.T7:= @Ut.mk prog 60 _ underlying60
@[reducible] def ty.T6:= @Ut.mk prog 61 _ underlying61
@[reducible] def ty.T5:= @Ut.mk prog 62 _ underlying62
instance ty.i63:dJ prog 63 Tryz.t63:=⟨by kernel_rfl⟩
@[reducible] def ty.T4:= @Ut.mk prog 63 _ underlying63
instance ty.WR:cQ prog 63:=cQ.of underlying63 rfl
@[reducible] def ty.u64:= @Ut.mk prog 64 _ underlying64
@[reducible] def ty.T3:= @Ut.mk prog 65 _ underlying65
@[reducible] def ty.T1:= @Ut.mk prog 66 _ underlying66
@[reducible] def ty.T0:= @Ut.mk prog 67 _ underlying67
@[reducible] def ty.TZ:= @Ut.mk prog 68 _ underlying68
@[reducible] def ty.TY:= @Ut.mk prog 69 _ underlying69
@[reducible] def ty.TX:= @Ut.mk prog 70 _ underlying70
@[reducible] def ty.TW:= @Ut.mk prog 71 _ underlying71
@[reducible] def ty.TV:= @Ut.mk prog 72 _ underlying72
@[reducible] def ty.TU:= @Ut.mk prog 73 _ underlying73
instance ty.i74:dJ prog 74 Tryz.t74:=⟨by kernel_rfl⟩
@[reducible] def ty.Sg:= @Ut.mk prog 74 _ underlying74
instance ty.WQ:cQ prog 74:=cQ.of underlying74 rfl
@[reducible] def ty.TT:= @Ut.mk prog 75 _ underlying75
@[reducible] def ty.TS:= @Ut.mk prog 76 _ underlying76
@[reducible] def ty.TR:= @Ut.mk prog 77 _ underlying77
@[reducible] def ty.TQ:= @Ut.mk prog 78 _ underlying78
instance ty.i79:dJ prog 79 Tryz.t79:=⟨by kernel_rfl⟩
@[reducible] def ty.TP:= @Ut.mk prog 79 _ underlying79
instance ty.WO:cQ prog 79:=cQ.of underlying79 rfl
@[reducible] def ty.TO:= @Ut.mk prog 80 _ underlying80
@[reducible] def ty.TN:= @Ut.mk prog 81 _ underlying81
@[reducible] def ty.TM:= @Ut.mk prog 82 _ underlying82
@[reducible] def ty.TL:= @Ut.mk prog 83 _ underlying83
@[reducible] def ty.TK:= @Ut.mk prog 84 _ underlying84
@[reducible] def ty.TJ:= @Ut.mk prog 85 _ underlying85
@[reducible] def ty.TI:= @Ut.mk prog 86 _ underlying86
@[reducible] def ty.TH:= @Ut.mk prog 87 _ underlying87
@[reducible] def ty.TG:= @Ut.mk prog 88 _ underlying88
@[reducible] def ty.TF:= @Ut.mk prog 89 _ underlying89
@[reducible] def ty.TE:= @Ut.mk prog 90 _ underlying90
@[reducible] def ty.TD:= @Ut.mk prog 91 _ underlying91
@[reducible] def ty.TC:= @Ut.mk prog 92 _ underlying92
instance ty.i93:dJ prog 93 Tryz.t93:=⟨by kernel_rfl⟩
instance ty.V8:Sz prog 93 1:=⟨_,ty.i93.eq,rfl⟩
@[reducible] def ty.TB:= @Ut.mk prog 93 _ underlying93
instance ty.WN:cQ prog 93:=cQ.of underlying93 rfl
@[reducible] def ty.TA:= @Ut.mk prog 94 _ underlying94
@[reducible] def ty.Tz:= @Ut.mk prog 95 _ underlying95
@[reducible] def ty.Tw:= @Ut.mk prog 96 _ underlying96
@[reducible] def ty.Tv:= @Ut.mk prog 97 _ underlying97
@[reducible] def ty.Tu:= @Ut.mk prog 98 _ underlying98
@[reducible] def ty.Tt:= @Ut.mk prog 99 _ underlying99
@[reducible] def ty.Qf:= @Ut.mk prog 100 _ underlying100
@[reducible] def ty.Qe:= @Ut.mk prog 101 _ underlying101
@[reducible] def ty.Qd:= @Ut.mk prog 102 _ underlying102
@[reducible] def ty.Qc:= @Ut.mk prog 103 _ underlying103
@[reducible] def ty.Qb:= @Ut.mk prog 104 _ underlying104
@[reducible] def ty.Qa:= @Ut.mk prog 105 _ underlying105
@[reducible] def ty.P9:= @Ut.mk prog 106 _ underlying106
@[reducible] def ty.P8:= @Ut.mk prog 107 _ underlying107
@[reducible] def ty.P7:= @Ut.mk prog 108 _ underlying108
@[reducible] def ty.P6:= @Ut.mk prog 109 _ underlying109
@[reducible] def ty.P5:= @Ut.mk prog 110 _ underlying110
@[reducible] def ty.P4:= @Ut.mk prog 111 _ underlying111
@[reducible] def ty.P3:= @Ut.mk prog 112 _ underlying112
@[reducible] def ty.P2:= @Ut.mk prog 113 _ underlying113
instance ty.i114:dJ prog 114 Tryz.t114:=⟨by kernel_rfl⟩
@[reducible] def ty.P1:= @Ut.mk prog 114 _ underlying114
instance ty.VJ:cQ prog 114:=cQ.of underlying114 rfl
@[reducible] def ty.P0:= @Ut.mk prog 115 _ underlying115
instance ty.i116:dJ prog 116 Tryz.t116:=⟨by kernel_rfl⟩
@[reducible] def ty.PZ:= @Ut.mk prog 116 _ underlying116
instance ty.a116:gK prog 116 3:=gK.of underlying116 rfl ty.i116.eq rfl
@[reducible] def ty.PY:= @Ut.mk prog 117 _ underlying117
@[reducible] def ty.PX:= @Ut.mk prog 118 _ underlying118
instance ty.i119:dJ prog 119 Tryz.t119:=⟨by kernel_rfl⟩
@[reducible] def ty.PW:= @Ut.mk prog 119 _ underlying119
@[reducible] def ty.PV:= @Ut.mk prog 120 _ underlying120
@[reducible] def ty.PU:= @Ut.mk prog 121 _ underlying121
instance ty.i122:dJ prog 122 Tryz.t122:=⟨by kernel_rfl⟩
@[reducible] def ty.PT:= @Ut.mk prog 122 _ underlying122
instance ty.VI:cQ prog 122:=cQ.of underlying122 rfl
instance ty.i123:dJ prog 123 Tryz.t123:=⟨by kernel_rfl⟩
@[reducible] def ty.PS:= @Ut.mk prog 123 _ underlying123
instance ty.VH:cQ prog 123:=cQ.of underlying123 rfl
instance ty.i124:dJ prog 124 Tryz.t124:=⟨by kernel_rfl⟩
@[reducible] def ty.PR:= @Ut.mk prog 124 _ underlying124
instance ty.VG:cQ prog 124:=cQ.of underlying124 rfl
instance ty.i125:dJ prog 125 Tryz.t125:=⟨by kernel_rfl⟩
@[reducible] def ty.PQ:= @Ut.mk prog 125 _ underlying125
instance ty.VF:cQ prog 125:=cQ.of underlying125 rfl
@[reducible] def ty.PO:= @Ut.mk prog 126 _ underlying126
@[reducible] def ty.PN:= @Ut.mk prog 127 _ underlying127
@[reducible] def ty.PM:= @Ut.mk prog 128 _ underlying128
@[reducible] def ty.PL:= @Ut.mk prog 129 _ underlying129
@[reducible] def ty.PK:= @Ut.mk prog 130 _ underlying130
@[reducible] def ty.PJ:= @Ut.mk prog 131 _ underlying131
@[reducible] def ty.PI:= @Ut.mk prog 132 _ underlying132
instance ty.i133:dJ prog 133 Tryz.t133:=⟨by kernel_rfl⟩
@[reducible] def ty.PH:= @Ut.mk prog 133 _ underlying133
instance ty.VZ:gK prog 133 2:=gK.of underlying133 rfl ty.i133.eq rfl
instance ty.i134:dJ prog 134 Tryz.t134:=⟨by kernel_rfl⟩
@[reducible] def ty.PG:= @Ut.mk prog 134 _ underlying134
instance ty.VE:cQ prog 134:=cQ.of underlying134 rfl
@[reducible] def ty.PF:= @Ut.mk prog 135 _ underlying135
@[reducible] def ty.PE:= @Ut.mk prog 136 _ underlying136
@[reducible] def ty.PD:= @Ut.mk prog 137 _ underlying137
@[reducible] def ty.PC:= @Ut.mk prog 138 _ underlying138
@[reducible] def ty.PB:= @Ut.mk prog 139 _ underlying139
@[reducible] def ty.PA:= @Ut.mk prog 140 _ underlying140
@[reducible] def ty.Pz:= @Ut.mk prog 141 _ underlying141
@[reducible] def ty.Py:= @Ut.mk prog 142 _ underlying142
@[reducible] def ty.Px:= @Ut.mk prog 143 _ underlying143
@[reducible] def ty.Pw:= @Ut.mk prog 144 _ underlying144
@[reducible] def ty.Pv:= @Ut.mk prog 145 _ underlying145
@[reducible] def ty.Pt:= @Ut.mk prog 146 _ underlying146
@[reducible] def ty.Ps:= @Ut.mk prog 147 _ underlying147
@[reducible] def ty.Pr:= @Ut.mk prog 148 _ underlying148
@[reducible] def ty.Pq:= @Ut.mk prog 149 _ underlying149
@[reducible] def ty.Pp:= @Ut.mk prog 150 _ underlying150
@[reducible] def ty.Po:= @Ut.mk prog 151 _ underlying151
@[reducible] def ty.Pn:= @Ut.mk prog 152 _ underlying152
@[reducible] def ty.Pm:= @Ut.mk prog 153 _ underlying153
@[reducible] def ty.Pk:= @Ut.mk prog 154 _ underlying154
@[reducible] def ty.Pj:= @Ut.mk prog 155 _ underlying155
@[reducible] def ty.Ph:= @Ut.mk prog 156 _ underlying156
@[reducible] def ty.Pg:= @Ut.mk prog 157 _ underlying157
@[reducible] def ty.Pf:= @Ut.mk prog 158 _ underlying158
instance ty.i159:dJ prog 159 Tryz.t159:=⟨by kernel_rfl⟩
@[reducible] def ty.Pe:= @Ut.mk prog 159 _ underlying159
instance ty.VD:cQ prog 159:=cQ.of underlying159 rfl
instance ty.i160:dJ prog 160 Tryz.t160:=⟨by kernel_rfl⟩
@[reducible] def ty.Pd:= @Ut.mk prog 160 _ underlying160
instance ty.VC:cQ prog 160:=cQ.of underlying160 rfl
@[reducible] def ty.Pc:= @Ut.mk prog 161 _ underlying161
@[reducible] def ty.Pb:= @Ut.mk prog 162 _ underlying162
@[reducible] def ty.Pa:= @Ut.mk prog 163 _ underlying163
@[reducible] def ty.O9:= @Ut.mk prog 164 _ underlying164
@[reducible] def ty.O8:= @Ut.mk prog 165 _ underlying165
@[reducible] def ty.O7:= @Ut.mk prog 166 _ underlying166
@[reducible] def ty.O6:= @Ut.mk prog 167 _ underlying167
@[reducible] def ty.O5:= @Ut.mk prog 168 _ underlying168
@[reducible] def ty.O4:= @Ut.mk prog 169 _ underlying169
@[reducible] def ty.O3:= @Ut.mk prog 170 _ underlying170
instance ty.i171:dJ prog 171 Tryz.t171:=⟨by kernel_rfl⟩
@[reducible] def ty.O2:= @Ut.mk prog 171 _ underlying171
instance ty.VB:cQ prog 171:=cQ.of underlying171 rfl
@[reducible] def ty.O1:= @Ut.mk prog 172 _ underlying172
@[reducible] def ty.O0:= @Ut.mk prog 173 _ underlying173
@[reducible] def ty.OZ:= @Ut.mk prog 174 _ underlying174
@[reducible] def ty.OY:= @Ut.mk prog 175 _ underlying175
@[reducible] def ty.OX:= @Ut.mk prog 176 _ underlying176
@[reducible] def ty.OW:= @Ut.mk prog 177 _ underlying177
@[reducible] def ty.OV:= @Ut.mk prog 178 _ underlying178
instance ty.i179:dJ prog 179 Tryz.t179:=⟨by kernel_rfl⟩
@[reducible] def ty.OU:= @Ut.mk prog 179 _ underlying179
@[reducible] def ty.OT:= @Ut.mk prog 180 _ underlying180
@[reducible] def ty.OS:= @Ut.mk prog 181 _ underlying181
@[reducible] def ty.OR:= @Ut.mk prog 182 _ underlying182
instance ty.i183:dJ prog 183 Tryz.t183:=⟨by kernel_rfl⟩
instance ty.U0:Sz prog 183 1:=⟨_,ty.i183.eq,rfl⟩
@[reducible] def ty.OQ:= @Ut.mk prog 183 _ underlying183
instance ty.VA:cQ prog 183:=cQ.of underlying183 rfl
@[reducible] def ty.OP:= @Ut.mk prog 184 _ underlying184
@[reducible] def ty.OO:= @Ut.mk prog 185 _ underlying185
@[reducible] def ty.ON:= @Ut.mk prog 186 _ underlying186
@[reducible] def ty.OM:= @Ut.mk prog 187 _ underlying187
@[reducible] def ty.OL:= @Ut.mk prog 188 _ underlying188
@[reducible] def ty.OK:= @Ut.mk prog 189 _ underlying189
@[reducible] def ty.OJ:= @Ut.mk prog 190 _ underlying190
@[reducible] def ty.OI:= @Ut.mk prog 191 _ underlying191
@[reducible] def ty.OH:= @Ut.mk prog 192 _ underlying192
@[reducible] def ty.OG:= @Ut.mk prog 193 _ underlying193
@[reducible] def ty.OE:= @Ut.mk prog 194 _ underlying194
@[reducible] def ty.OD:= @Ut.mk prog 195 _ underlying195
@[reducible] def ty.OC:= @Ut.mk prog 196 _ underlying196
@[reducible] def ty.OB:= @Ut.mk prog 197 _ underlying197
instance ty.i198:dJ prog 198 Tryz.t198:=⟨by kernel_rfl⟩
@[reducible] def ty.OA:= @Ut.mk prog 198 _ underlying198
instance ty.Vz:cQ prog 198:=cQ.of underlying198 rfl
@[reducible] def ty.Oz:= @Ut.mk prog 199 _ underlying199
@[reducible] def ty.Oy:= @Ut.mk prog 200 _ underlying200
@[reducible] def ty.Ox:= @Ut.mk prog 201 _ underlying201
instance ty.i202:dJ prog 202 Tryz.t202:=⟨by kernel_rfl⟩
@[reducible] def ty.Ow:= @Ut.mk prog 202 _ underlying202
@[reducible] def ty.Ov:= @Ut.mk prog 203 _ underlying203
@[reducible] def ty.Ou:= @Ut.mk prog 204 _ underlying204
@[reducible] def ty.Ot:= @Ut.mk prog 205 _ underlying205
@[reducible] def ty.Oq:= @Ut.mk prog 206 _ underlying206
@[reducible] def ty.Oo:= @Ut.mk prog 207 _ underlying207
@[reducible] def ty.On:= @Ut.mk prog 208 _ underlying208
@[reducible] def ty.Om:= @Ut.mk prog 209 _ underlying209
@[reducible] def ty.Ol:= @Ut.mk prog 210 _ underlying210
instance ty.i211:dJ prog 211 Tryz.t211:=⟨by kernel_rfl⟩
@[reducible] def ty.Oj:= @Ut.mk prog 211 _ underlying211
instance ty.i212:dJ prog 212 Tryz.t212:=⟨by kernel_rfl⟩
@[reducible] def ty.Oi:= @Ut.mk prog 212 _ underlying212
instance ty.Vy:cQ prog 212:=cQ.of underlying212 rfl
@[reducible] def ty.Oh:= @Ut.mk prog 213 _ underlying213
@[reducible] def ty.Og:= @Ut.mk prog 214 _ underlying214
@[reducible] def ty.Of:= @Ut.mk prog 215 _ underlying215
instance ty.i216:dJ prog 216 Tryz.t216:=⟨by kernel_rfl⟩
instance ty.UZ:Sz prog 216 22:=⟨_,ty.i216.eq,rfl⟩
@[reducible] def ty.Oe:= @Ut.mk prog 216 _ underlying216
instance ty.VY:gK prog 216 22:=gK.of underlying216 rfl ty.i216.eq rfl
@[reducible] def ty.Od:= @Ut.mk prog 217 _ underlying217
@[reducible] def ty.Oc:= @Ut.mk prog 218 _ underlying218
@[reducible] def ty.Ob:= @Ut.mk prog 219 _ underlying219
@[reducible] def ty.Oa:= @Ut.mk prog 220 _ underlying220
@[reducible] def ty.N9:= @Ut.mk prog 221 _ underlying221
@[reducible] def ty.N8:= @Ut.mk prog 222 _ underlying222
@[reducible] def ty.N7:= @Ut.mk prog 223 _ underlying223
@[reducible] def ty.N6:= @Ut.mk prog 224 _ underlying224
@[reducible] def ty.N5:= @Ut.mk prog 225 _ underlying225
@[reducible] def ty.N4:= @Ut.mk prog 226 _ underlying226
@[reducible] def ty.N3:= @Ut.mk prog 227 _ underlying227
instance ty.i228:dJ prog 228 Tryz.t228:=⟨by kernel_rfl⟩
@[reducible] def ty.N0:= @Ut.mk prog 228 _ underlying228
instance ty.Vx:cQ prog 228:=cQ.of underlying228 rfl
@[reducible] def ty.NZ:= @Ut.mk prog 229 _ underlying229
@[reducible] def ty.NY:= @Ut.mk prog 230 _ underlying230
@[reducible] def ty.NX:= @Ut.mk prog 231 _ underlying231
@[reducible] def ty.NW:= @Ut.mk prog 232 _ underlying232
@[reducible] def ty.NV:= @Ut.mk prog 233 _ underlying233
@[reducible] def ty.NU:= @Ut.mk prog 234 _ underlying234
@[reducible] def ty.NT:= @Ut.mk prog 235 _ underlying235
@[reducible] def ty.NS:= @Ut.mk prog 236 _ underlying236
@[reducible] def ty.NR:= @Ut.mk prog 237 _ underlying237
@[reducible] def ty.NQ:= @Ut.mk prog 238 _ underlying238
@[reducible] def ty.NP:= @Ut.mk prog 239 _ underlying239
@[reducible] def ty.NO:= @Ut.mk prog 240 _ underlying240
@[reducible] def ty.NN:= @Ut.mk prog 241 _ underlying241
instance ty.i242:dJ prog 242 Tryz.t242:=⟨by kernel_rfl⟩
@[reducible] def ty.NM:= @Ut.mk prog 242 _ underlying242
instance ty.VX:gK prog 242 9:=gK.of underlying242 rfl ty.i242.eq rfl
@[reducible] def ty.NL:= @Ut.mk prog 243 _ underlying243
@[reducible] def ty.NK:= @Ut.mk prog 244 _ underlying244
instance ty.i245:dJ prog 245 Tryz.t245:=⟨by kernel_rfl⟩
instance ty.UY:Sz prog 245 1:=⟨_,ty.i245.eq,rfl⟩
@[reducible] def ty.NJ:= @Ut.mk prog 245 _ underlying245
instance ty.Vw:cQ prog 245:=cQ.of underlying245 rfl
@[reducible] def ty.NI:= @Ut.mk prog 246 _ underlying246
@[reducible] def ty.NH:= @Ut.mk prog 247 _ underlying247
@[reducible] def ty.NF:= @Ut.mk prog 248 _ underlying248
@[reducible] def ty.ND:= @Ut.mk prog 249 _ underlying249
@[reducible] def ty.NC:= @Ut.mk prog 250 _ underlying250
@[reducible] def ty.NB:= @Ut.mk prog 251 _ underlying251
@[reducible] def ty.NA:= @Ut.mk prog 252 _ underlying252
@[reducible] def ty.Nz:= @Ut.mk prog 253 _ underlying253
@[reducible] def ty.Ny:= @Ut.mk prog 254 _ underlying254
@[reducible] def ty.Nx:= @Ut.mk prog 255 _ underlying255
@[reducible] def ty.Nw:= @Ut.mk prog 256 _ underlying256
@[reducible] def ty.Nv:= @Ut.mk prog 257 _ underlying257
@[reducible] def ty.Nu:= @Ut.mk prog 258 _ underlying258
@[reducible] def ty.Nt:= @Ut.mk prog 259 _ underlying259
@[reducible] def ty.Ns:= @Ut.mk prog 260 _ underlying260
@[reducible] def ty.Nr:= @Ut.mk prog 261 _ underlying261
@[reducible] def ty.Nq:= @Ut.mk prog 262 _ underlying262
@[reducible] def ty.Np:= @Ut.mk prog 263 _ underlying263
@[reducible] def ty.Nl:= @Ut.mk prog 264 _ underlying264
@[reducible] def ty.Nk:= @Ut.mk prog 265 _ underlying265
@[reducible] def ty.Nj:= @Ut.mk prog 266 _ underlying266
@[reducible] def ty.Ni:= @Ut.mk prog 267 _ underlying267
@[reducible] def ty.Nh:= @Ut.mk prog 268 _ underlying268
@[reducible] def ty.Ng:= @Ut.mk prog 269 _ underlying269
@[reducible] def ty.Nf:= @Ut.mk prog 270 _ underlying270
@[reducible] def ty.Nd:= @Ut.mk prog 271 _ underlying271
@[reducible] def ty.Nc:= @Ut.mk prog 272 _ underlying272
@[reducible] def ty.Na:= @Ut.mk prog 273 _ underlying273
@[reducible] def ty.M9:= @Ut.mk prog 274 _ underlying274
@[reducible] def ty.M8:= @Ut.mk prog 275 _ underlying275
@[reducible] def ty.M7:= @Ut.mk prog 276 _ underlying276
@[reducible] def ty.M6:= @Ut.mk prog 277 _ underlying277
@[reducible] def ty.M5:= @Ut.mk prog 278 _ underlying278
@[reducible] def ty.M4:= @Ut.mk prog 279 _ underlying279
@[reducible] def ty.M3:= @Ut.mk prog 280 _ underlying280
@[reducible] def ty.M1:= @Ut.mk prog 281 _ underlying281
@[reducible] def ty.M0:= @Ut.mk prog 282 _ underlying282
@[reducible] def ty.MZ:= @Ut.mk prog 283 _ underlying283
@[reducible] def ty.MY:= @Ut.mk prog 284 _ underlying284
instance ty.i285:dJ prog 285 Tryz.t285:=⟨by kernel_rfl⟩
@[reducible] def ty.MX:= @Ut.mk prog 285 _ underlying285
@[reducible] def ty.MW:= @Ut.mk prog 286 _ underlying286
@[reducible] def ty.MV:= @Ut.mk prog 287 _ underlying287
@[reducible] def ty.MU:= @Ut.mk prog 288 _ underlying288
@[reducible] def ty.MT:= @Ut.mk prog 289 _ underlying289
@[reducible] def ty.MS:= @Ut.mk prog 290 _ underlying290
@[reducible] def ty.MR:= @Ut.mk prog 291 _ underlying291
@[reducible] def ty.MQ:= @Ut.mk prog 292 _ underlying292
@[reducible] def ty.MP:= @Ut.mk prog 293 _ underlying293
@[reducible] def ty.MO:= @Ut.mk prog 294 _ underlying294
@[reducible] def ty.MN:= @Ut.mk prog 295 _ underlying295
@[reducible] def ty.MM:= @Ut.mk prog 296 _ underlying296
@[reducible] def ty.ML:= @Ut.mk prog 297 _ underlying297
@[reducible] def ty.MK:= @Ut.mk prog 298 _ underlying298
@[reducible] def ty.MJ:= @Ut.mk prog 299 _ underlying299
@[reducible] def ty.MI:= @Ut.mk prog 300 _ underlying300
@[reducible] def ty.MH:= @Ut.mk prog 301 _ underlying301
@[reducible] def ty.MG:= @Ut.mk prog 302 _ underlying302
@[reducible] def ty.MF:= @Ut.mk prog 303 _ underlying303
@[reducible] def ty.ME:= @Ut.mk prog 304 _ underlying304
@[reducible] def ty.MD:= @Ut.mk prog 305 _ underlying305
@[reducible] def ty.MC:= @Ut.mk prog 306 _ underlying306
@[reducible] def ty.MB:= @Ut.mk prog 307 _ underlying307
@[reducible] def ty.MA:= @Ut.mk prog 308 _ underlying308
@[reducible] def ty.Mz:= @Ut.mk prog 309 _ underlying309
@[reducible] def ty.My:= @Ut.mk prog 310 _ underlying310
@[reducible] def ty.Mx:= @Ut.mk prog 311 _ underlying311
@[reducible] def ty.Mw:= @Ut.mk prog 312 _ underlying312
@[reducible] def ty.Mv:= @Ut.mk prog 313 _ underlying313
@[reducible] def ty.Mu:= @Ut.mk prog 314 _ underlying314
@[reducible] def ty.Mt:= @Ut.mk prog 315 _ underlying315
@[reducible] def ty.Ms:= @Ut.mk prog 316 _ underlying316
@[reducible] def ty.Mr:= @Ut.mk prog 317 _ underlying317
@[reducible] def ty.Mq:= @Ut.mk prog 318 _ underlying318
@[reducible] def ty.Mp:= @Ut.mk prog 319 _ underlying319
@[reducible] def ty.Mo:= @Ut.mk prog 320 _ underlying320
@[reducible] def ty.Mn:= @Ut.mk prog 321 _ underlying321
@[reducible] def ty.Mm:= @Ut.mk prog 322 _ underlying322
@[reducible] def ty.Ml:= @Ut.mk prog 323 _ underlying323
@[reducible] def ty.Mk:= @Ut.mk prog 324 _ underlying324
@[reducible] def ty.Mj:= @Ut.mk prog 325 _ underlying325
@[reducible] def ty.Mi:= @Ut.mk prog 326 _ underlying326
@[reducible] def ty.Mh:= @Ut.mk prog 327 _ underlying327
@[reducible] def ty.Mg:= @Ut.mk prog 328 _ underlying328
@[reducible] def ty.Mf:= @Ut.mk prog 329 _ underlying329
@[reducible] def ty.Me:= @Ut.mk prog 330 _ underlying330
@[reducible] def ty.Mc:= @Ut.mk prog 331 _ underlying331
@[reducible] def ty.Mb:= @Ut.mk prog 332 _ underlying332
@[reducible] def ty.Ma:= @Ut.mk prog 333 _ underlying333
@[reducible] def ty.L9:= @Ut.mk prog 334 _ underlying334
@[reducible] def ty.L8:= @Ut.mk prog 335 _ underlying335
@[reducible] def ty.L7:= @Ut.mk prog 336 _ underlying336
@[reducible] def ty.L6:= @Ut.mk prog 337 _ underlying337
@[reducible] def ty.L5:= @Ut.mk prog 338 _ underlying338
@[reducible] def ty.L4:= @Ut.mk prog 339 _ underlying339
@[reducible] def ty.L3:= @Ut.mk prog 340 _ underlying340
instance ty.i341:dJ prog 341 Tryz.t341:=⟨by kernel_rfl⟩
@[reducible] def ty.LZ:= @Ut.mk prog 341 _ underlying341
instance ty.VW:gK prog 341 16:=gK.of underlying341 rfl ty.i341.eq rfl
@[reducible] def ty.LY:= @Ut.mk prog 342 _ underlying342
@[reducible] def ty.LX:= @Ut.mk prog 343 _ underlying343
@[reducible] def ty.LW:= @Ut.mk prog 344 _ underlying344
@[reducible] def ty.LV:= @Ut.mk prog 345 _ underlying345
@[reducible] def ty.LU:= @Ut.mk prog 346 _ underlying346
@[reducible] def ty.LS:= @Ut.mk prog 347 _ underlying347
@[reducible] def ty.LR:= @Ut.mk prog 348 _ underlying348
@[reducible] def ty.LQ:= @Ut.mk prog 349 _ underlying349
@[reducible] def ty.LP:= @Ut.mk prog 350 _ underlying350
instance ty.Tc:cE prog 31 0 0 3:=cE.mk _ _ _ underlying31 rfl rfl rfl ty.i3.eq (by decide)
instance ty.Ta:cE prog 31 1 1 3:=cE.mk _ _ _ underlying31 rfl rfl rfl ty.i3.eq (by decide)
instance ty.S9:cE prog 31 2 2 3:=cE.mk _ _ _ underlying31 rfl rfl rfl ty.i3.eq (by decide)
instance ty.S8:cE prog 35 0 0 5:=cE.mk _ _ _ underlying35 rfl rfl rfl ty.i5.eq (by decide)
instance ty.S7:cE prog 35 1 1 5:=cE.mk _ _ _ underlying35 rfl rfl rfl ty.i5.eq (by decide)
instance ty.S6:cE prog 35 2 2 3:=cE.mk _ _ _ underlying35 rfl rfl rfl ty.i3.eq (by decide)
instance ty.S5:cE prog 35 3 3 3:=cE.mk _ _ _ underlying35 rfl rfl rfl ty.i3.eq (by decide)
instance ty.S4:cE prog 35 4 4 3:=cE.mk _ _ _ underlying35 rfl rfl rfl ty.i3.eq (by decide)
instance ty.S3:cE prog 35 5 5 33:=cE.mk _ _ _ underlying35 rfl rfl rfl ty.i33.eq (by decide)
instance ty.S2:cE prog 35 6 6 4:=cE.mk _ _ _ underlying35 rfl rfl rfl ty.i4.eq (by decide)
instance ty.S1:cE prog 35 7 7 5:=cE.mk _ _ _ underlying35 rfl rfl rfl ty.i5.eq (by decide)
instance ty.S0:cE prog 35 8 8 33:=cE.mk _ _ _ underlying35 rfl rfl rfl ty.i33.eq (by decide)
instance ty.SZ:cE prog 44 0 0 39:=cE.mk _ _ _ underlying44 rfl rfl rfl ty.i39.eq (by decide)
instance ty.SX:cE prog 44 1 1 40:=cE.mk _ _ _ underlying44 rfl rfl rfl ty.i40.eq (by decide)
instance ty.SV:cE prog 44 2 2 41:=cE.mk _ _ _ underlying44 rfl rfl rfl ty.i41.eq (by decide)
instance ty.SU:cE prog 44 3 3 42:=cE.mk _ _ _ underlying44 rfl rfl rfl ty.i42.eq (by decide)
instance ty.Xa:gJ prog 47 8:=gJ.of underlying47 underlying5 ⟨_,rfl⟩ (by kernel_rfl) (by kernel_rfl) (by kernel_rfl)
instance ty.SS:cE prog 50 0 0 47:=cE.mk _ _ _ underlying50 rfl rfl rfl ty.i47.eq (by decide)
instance ty.SR:cE prog 50 1 8 3:=cE.mk _ _ _ underlying50 rfl rfl rfl ty.i3.eq (by decide)
instance ty.SQ:cE prog 50 2 9 47:=cE.mk _ _ _ underlying50 rfl rfl rfl ty.i47.eq (by decide)
instance ty.SP:cE prog 50 3 17 41:=cE.mk _ _ _ underlying50 rfl rfl rfl ty.i41.eq (by decide)
instance ty.SO:cE prog 52 0 0 47:=cE.mk _ _ _ underlying52 rfl rfl rfl ty.i47.eq (by decide)
instance ty.SN:cE prog 52 1 8 3:=cE.mk _ _ _ underlying52 rfl rfl rfl ty.i3.eq (by decide)
instance ty.SM:cE prog 52 2 9 3:=cE.mk _ _ _ underlying52 rfl rfl rfl ty.i3.eq (by decide)
instance ty.SL:cE prog 52 3 10 3:=cE.mk _ _ _ underlying52 rfl rfl rfl ty.i3.eq (by decide)
instance ty.SK:cE prog 52 4 11 33:=cE.mk _ _ _ underlying52 rfl rfl rfl ty.i33.eq (by decide)
instance ty.SJ:cE prog 52 5 12 33:=cE.mk _ _ _ underlying52 rfl rfl rfl ty.i33.eq (by decide)
instance ty.SI:cE prog 54 0 0 3:=cE.mk _ _ _ underlying54 rfl rfl rfl ty.i3.eq (by decide)
instance ty.SH:cE prog 54 1 1 36:=cE.mk _ _ _ underlying54 rfl rfl rfl ty.i36.eq (by decide)
instance ty.SF:cE prog 59 0 0 47:=cE.mk _ _ _ underlying59 rfl rfl rfl ty.i47.eq (by decide)
instance ty.SE:cE prog 59 1 8 3:=cE.mk _ _ _ underlying59 rfl rfl rfl ty.i3.eq (by decide)
instance ty.SC:cE prog 59 2 9 3:=cE.mk _ _ _ underlying59 rfl rfl rfl ty.i3.eq (by decide)
instance ty.SB:cE prog 76 0 0 3:=cE.mk _ _ _ underlying76 rfl rfl rfl ty.i3.eq (by decide)
instance ty.SA:cE prog 76 1 1 47:=cE.mk _ _ _ underlying76 rfl rfl rfl ty.i47.eq (by decide)
instance ty.Rv:cE prog 116 0 0 38:=cE.mk _ _ _ underlying116 rfl rfl rfl ty.i38.eq (by decide)
instance ty.Ru:cE prog 116 1 1 79:=cE.mk _ _ _ underlying116 rfl rfl rfl ty.i79.eq (by decide)
instance ty.Rt:cE prog 116 2 2 114:=cE.mk _ _ _ underlying116 rfl rfl rfl ty.i114.eq (by decide)
instance ty.Rs:cE prog 118 0 0 116:=cE.mk _ _ _ underlying118 rfl rfl rfl ty.i116.eq (by decide)
instance ty.Rr:cE prog 118 1 3 50:=cE.mk _ _ _ underlying118 rfl rfl rfl ty.i50.eq (by decide)
instance ty.Rq:cE prog 118 2 21 93:=cE.mk _ _ _ underlying118 rfl rfl rfl ty.i93.eq (by decide)
instance ty.Rp:cE prog 127 0 0 31:=cE.mk _ _ _ underlying127 rfl rfl rfl ty.i31.eq (by decide)
instance ty.Ro:cE prog 127 1 3 122:=cE.mk _ _ _ underlying127 rfl rfl rfl ty.i122.eq (by decide)
instance ty.Rn:cE prog 127 3 12 123:=cE.mk _ _ _ underlying127 rfl rfl rfl ty.i123.eq (by decide)
instance ty.Rm:cE prog 127 4 13 124:=cE.mk _ _ _ underlying127 rfl rfl rfl ty.i124.eq (by decide)
instance ty.Rl:cE prog 127 5 14 125:=cE.mk _ _ _ underlying127 rfl rfl rfl ty.i125.eq (by decide)
instance ty.Rk:cE prog 133 0 0 3:=cE.mk _ _ _ underlying133 rfl rfl rfl ty.i3.eq (by decide)
instance ty.Rj:cE prog 133 1 1 3:=cE.mk _ _ _ underlying133 rfl rfl rfl ty.i3.eq (by decide)
instance ty.Ri:cE prog 136 0 0 134:=cE.mk _ _ _ underlying136 rfl rfl rfl ty.i134.eq (by decide)
instance ty.Rh:cE prog 162 0 0 160:=cE.mk _ _ _ underlying162 rfl rfl rfl ty.i160.eq (by decide)
instance ty.Rg:cE prog 162 1 1 159:=cE.mk _ _ _ underlying162 rfl rfl rfl ty.i159.eq (by decide)
instance ty.Rf:cE prog 173 0 0 31:=cE.mk _ _ _ underlying173 rfl rfl rfl ty.i31.eq (by decide)
instance ty.Re:cE prog 173 1 3 63:=cE.mk _ _ _ underlying173 rfl rfl rfl ty.i63.eq (by decide)
instance ty.Rc:cE prog 173 2 4 171:=cE.mk _ _ _ underlying173 rfl rfl rfl ty.i171.eq (by decide)
instance ty.Rb:cE prog 173 3 5 123:=cE.mk _ _ _ underlying173 rfl rfl rfl ty.i123.eq (by decide)
instance ty.Ra:cE prog 173 4 6 124:=cE.mk _ _ _ underlying173 rfl rfl rfl ty.i124.eq (by decide)
instance ty.Q9:cE prog 197 0 0 40:=cE.mk _ _ _ underlying197 rfl rfl rfl ty.i40.eq (by decide)
instance ty.Q8:cE prog 197 1 1 47:=cE.mk _ _ _ underlying197 rfl rfl rfl ty.i47.eq (by decide)
instance ty.Q7:cE prog 200 0 0 47:=cE.mk _ _ _ underlying200 rfl rfl rfl ty.i47.eq (by decide)
instance ty.Q6:cE prog 200 1 8 47:=cE.mk _ _ _ underlying200 rfl rfl rfl ty.i47.eq (by decide)
instance ty.Q5:cE prog 200 2 16 3:=cE.mk _ _ _ underlying200 rfl rfl rfl ty.i3.eq (by decide)
instance ty.Q4:cE prog 200 3 17 198:=cE.mk _ _ _ underlying200 rfl rfl rfl ty.i198.eq (by decide)
instance ty.Q3:cE prog 211 0 0 47:=cE.mk _ _ _ underlying211 rfl rfl rfl ty.i47.eq (by decide)
instance ty.Q2:cE prog 211 1 8 3:=cE.mk _ _ _ underlying211 rfl rfl rfl ty.i3.eq (by decide)
instance ty.Q1:cE prog 214 0 0 3:=cE.mk _ _ _ underlying214 rfl rfl rfl ty.i3.eq (by decide)
instance ty.Q0:cE prog 214 1 1 212:=cE.mk _ _ _ underlying214 rfl rfl rfl ty.i212.eq (by decide)
instance ty.QZ:cE prog 216 0 0 52:=cE.mk _ _ _ underlying216 rfl rfl rfl ty.i52.eq (by decide)
instance ty.QY:cE prog 216 1 13 47:=cE.mk _ _ _ underlying216 rfl rfl rfl ty.i47.eq (by decide)
instance ty.QX:cE prog 216 2 21 3:=cE.mk _ _ _ underlying216 rfl rfl rfl ty.i3.eq (by decide)
instance ty.QW:cE prog 287 0 0 93:=cE.mk _ _ _ underlying287 rfl rfl rfl ty.i93.eq (by decide)
instance ty.QV:cE prog 287 1 1 285:=cE.mk _ _ _ underlying287 rfl rfl rfl ty.i285.eq (by decide)
instance ty.QU:cE prog 293 0 0 33:=cE.mk _ _ _ underlying293 rfl rfl rfl ty.i33.eq (by decide)
instance ty.QT:cE prog 293 1 1 3:=cE.mk _ _ _ underlying293 rfl rfl rfl ty.i3.eq (by decide)
instance ty.QS:cE prog 293 2 2 36:=cE.mk _ _ _ underlying293 rfl rfl rfl ty.i36.eq (by decide)
instance fn.i10:bU prog 10:=⟨fun w args=>by kernel_rfl⟩
instance fn.i11:bU prog 11:=⟨fun w args=>by kernel_rfl⟩
instance fn.i12:bU prog 12:=⟨fun w args=>by kernel_rfl⟩
instance fn.i13:bU prog 13:=⟨fun w args=>by kernel_rfl⟩
instance fn.i15:bU prog 15:=⟨fun w args=>by kernel_rfl⟩
instance fn.i16:bU prog 16:=⟨fun w args=>by kernel_rfl⟩
instance fn.i17:bU prog 17:=⟨fun w args=>by kernel_rfl⟩
instance fn.i18:bU prog 18:=⟨fun w args=>by kernel_rfl⟩
instance fn.i19:bU prog 19:=⟨fun w args=>by kernel_rfl⟩
instance fn.i22:bU prog 22:=⟨fun w args=>by kernel_rfl⟩
instance fn.i23:bU prog 23:=⟨fun w args=>by kernel_rfl⟩
instance fn.i27:bU prog 27:=⟨fun w args=>by kernel_rfl⟩
instance fn.i28:bU prog 28:=⟨fun w args=>by kernel_rfl⟩
instance fn.i29:bU prog 29:=⟨fun w args=>by kernel_rfl⟩
instance fn.i30:bU prog 30:=⟨fun w args=>by kernel_rfl⟩
instance fn.i31:bU prog 31:=⟨fun w args=>by kernel_rfl⟩
instance fn.i32:bU prog 32:=⟨fun w args=>by kernel_rfl⟩
instance fn.i33:bU prog 33:=⟨fun w args=>by kernel_rfl⟩
instance fn.i34:bU prog 34:=⟨fun w args=>by kernel_rfl⟩
instance fn.i35:bU prog 35:=⟨fun w args=>by kernel_rfl⟩
instance fn.i36:bU prog 36:=⟨fun w args=>by kernel_rfl⟩
instance fn.i37:bU prog 37:=⟨fun w args=>by kernel_rfl⟩
instance fn.i38:bU prog 38:=⟨fun w args=>by kernel_rfl⟩
instance fn.i39:bU prog 39:=⟨fun w args=>by kernel_rfl⟩
instance fn.i40:bU prog 40:=⟨fun w args=>by kernel_rfl⟩
instance fn.i41:bU prog 41:=⟨fun w args=>by kernel_rfl⟩
instance fn.i42:bU prog 42:=⟨fun w args=>by kernel_rfl⟩
instance fn.i43:bU prog 43:=⟨fun w args=>by kernel_rfl⟩
instance fn.i44:bU prog 44:=⟨fun w args=>by kernel_rfl⟩
instance fn.i45:bU prog 45:=⟨fun w args=>by kernel_rfl⟩
instance fn.i46:bU prog 46:=⟨fun w args=>by kernel_rfl⟩
instance fn.i47:bU prog 47:=⟨fun w args=>by kernel_rfl⟩
instance fn.i48:bU prog 48:=⟨fun w args=>by kernel_rfl⟩
instance fn.i49:bU prog 49:=⟨fun w args=>by kernel_rfl⟩
instance fn.i50:bU prog 50:=⟨fun w args=>by kernel_rfl⟩
instance fn.i51:bU prog 51:=⟨fun w args=>by kernel_rfl⟩
instance fn.i52:bU prog 52:=⟨fun w args=>by kernel_rfl⟩
instance fn.i53:bU prog 53:=⟨fun w args=>by kernel_rfl⟩
instance fn.i54:bU prog 54:=⟨fun w args=>by kernel_rfl⟩
instance fn.i55:bU prog 55:=⟨fun w args=>by kernel_rfl⟩
instance fn.i56:bU prog 56:=⟨fun w args=>by kernel_rfl⟩
instance fn.i57:bU prog 57:=⟨fun w args=>by kernel_rfl⟩
instance fn.i58:bU prog 58:=⟨fun w args=>by kernel_rfl⟩
instance fn.i59:bU prog 59:=⟨fun w args=>by kernel_rfl⟩
instance fn.i60:bU prog 60:=⟨fun w args=>by kernel_rfl⟩
instance fn.i64:bU prog 64:=⟨fun w args=>by kernel_rfl⟩
instance fn.i70:bU prog 70:=⟨fun w args=>by kernel_rfl⟩
instance fn.i71:bU prog 71:=⟨fun w args=>by kernel_rfl⟩
instance fn.i72:bU prog 72:=⟨fun w args=>by kernel_rfl⟩
instance fn.i73:bU prog 73:=⟨fun w args=>by kernel_rfl⟩
instance fn.i74:bU prog 74:=⟨fun w args=>by kernel_rfl⟩
instance fn.i75:bU prog 75:=⟨fun w args=>by kernel_rfl⟩
instance fn.i76:bU prog 76:=⟨fun w args=>by kernel_rfl⟩
instance fn.i77:bU prog 77:=⟨fun w args=>by kernel_rfl⟩
instance fn.i78:bU prog 78:=⟨fun w args=>by kernel_rfl⟩
instance fn.i79:bU prog 79:=⟨fun w args=>by kernel_rfl⟩
instance fn.i80:bU prog 80:=⟨fun w args=>by kernel_rfl⟩
instance fn.i81:bU prog 81:=⟨fun w args=>by kernel_rfl⟩
instance fn.i82:bU prog 82:=⟨fun w args=>by kernel_rfl⟩
instance fn.i83:bU prog 83:=⟨fun w args=>by kernel_rfl⟩
instance fn.i84:bU prog 84:=⟨fun w args=>by kernel_rfl⟩
instance fn.i85:bU prog 85:=⟨fun w args=>by kernel_rfl⟩
instance fn.i86:bU prog 86:=⟨fun w args=>by kernel_rfl⟩
instance fn.i87:bU prog 87:=⟨fun w args=>by kernel_rfl⟩
instance fn.i88:bU prog 88:=⟨fun w args=>by kernel_rfl⟩
instance fn.i89:bU prog 89:=⟨fun w args=>by kernel_rfl⟩
instance fn.i90:bU prog 90:=⟨fun w args=>by kernel_rfl⟩
instance fn.i91:bU prog 91:=⟨fun w args=>by kernel_rfl⟩
instance fn.i92:bU prog 92:=⟨fun w args=>by kernel_rfl⟩
instance fn.i93:bU prog 93:=⟨fun w args=>by kernel_rfl⟩
instance fn.i94:bU prog 94:=⟨fun w args=>by kernel_rfl⟩
instance fn.i95:bU prog 95:=⟨fun w args=>by kernel_rfl⟩
instance fn.i96:bU prog 96:=⟨fun w args=>by kernel_rfl⟩
instance fn.i97:bU prog 97:=⟨fun w args=>by kernel_rfl⟩
instance fn.i98:bU prog 98:=⟨fun w args=>by kernel_rfl⟩
instance fn.i99:bU prog 99:=⟨fun w args=>by kernel_rfl⟩
instance fn.i100:bU prog 100:=⟨fun w args=>by kernel_rfl⟩
instance fn.i101:bU prog 101:=⟨fun w args=>by kernel_rfl⟩
instance fn.i102:bU prog 102:=⟨fun w args=>by kernel_rfl⟩
instance fn.i103:bU prog 103:=⟨fun w args=>by kernel_rfl⟩
instance fn.i104:bU prog 104:=⟨fun w args=>by kernel_rfl⟩
instance fn.i105:bU prog 105:=⟨fun w args=>by kernel_rfl⟩
instance fn.i106:bU prog 106:=⟨fun w args=>by kernel_rfl⟩
instance fn.i107:bU prog 107:=⟨fun w args=>by kernel_rfl⟩
instance fn.i108:bU prog 108:=⟨fun w args=>by kernel_rfl⟩
instance fn.i109:bU prog 109:=⟨fun w args=>by kernel_rfl⟩
instance fn.i110:bU prog 110:=⟨fun w args=>by kernel_rfl⟩
instance fn.i111:bU prog 111:=⟨fun w args=>by kernel_rfl⟩
instance fn.i112:bU prog 112:=⟨fun w args=>by kernel_rfl⟩
instance fn.i114:bU prog 114:=⟨fun w args=>by kernel_rfl⟩
instance fn.i116:bU prog 116:=⟨fun w args=>by kernel_rfl⟩
instance fn.i119:bU prog 119:=⟨fun w args=>by kernel_rfl⟩
instance fn.i120:bU prog 120:=⟨fun w args=>by kernel_rfl⟩
instance fn.i121:bU prog 121:=⟨fun w args=>by kernel_rfl⟩
instance fn.i122:bU prog 122:=⟨fun w args=>by kernel_rfl⟩
instance fn.i123:bU prog 123:=⟨fun w args=>by kernel_rfl⟩
instance fn.i124:bU prog 124:=⟨fun w args=>by kernel_rfl⟩
instance fn.i125:bU prog 125:=⟨fun w args=>by kernel_rfl⟩
instance fn.i126:bU prog 126:=⟨fun w args=>by kernel_rfl⟩
instance fn.i127:bU prog 127:=⟨fun w args=>by kernel_rfl⟩
instance fn.i128:bU prog 128:=⟨fun w args=>by kernel_rfl⟩
instance fn.i129:bU prog 129:=⟨fun w args=>by kernel_rfl⟩
instance fn.i130:bU prog 130:=⟨fun w args=>by kernel_rfl⟩
instance fn.i131:bU prog 131:=⟨fun w args=>by kernel_rfl⟩
instance fn.i132:bU prog 132:=⟨fun w args=>by kernel_rfl⟩
instance fn.i133:bU prog 133:=⟨fun w args=>by kernel_rfl⟩
instance fn.i134:bU prog 134:=⟨fun w args=>by kernel_rfl⟩
instance fn.i135:bU prog 135:=⟨fun w args=>by kernel_rfl⟩
instance fn.i136:bU prog 136:=⟨fun w args=>by kernel_rfl⟩
instance fn.i137:bU prog 137:=⟨fun w args=>by kernel_rfl⟩
instance fn.i138:bU prog 138:=⟨fun w args=>by kernel_rfl⟩
instance fn.i139:bU prog 139:=⟨fun w args=>by kernel_rfl⟩
instance fn.i140:bU prog 140:=⟨fun w args=>by kernel_rfl⟩
instance fn.i141:bU prog 141:=⟨fun w args=>by kernel_rfl⟩
instance fn.i142:bU prog 142:=⟨fun w args=>by kernel_rfl⟩
instance fn.i143:bU prog 143:=⟨fun w args=>by kernel_rfl⟩
instance fn.i144:bU prog 144:=⟨fun w args=>by kernel_rfl⟩
instance fn.i145:bU prog 145:=⟨fun w args=>by kernel_rfl⟩
instance fn.i146:bU prog 146:=⟨fun w args=>by kernel_rfl⟩
instance fn.i147:bU prog 147:=⟨fun w args=>by kernel_rfl⟩
instance fn.i157:bU prog 157:=⟨fun w args=>by kernel_rfl⟩
instance fn.i158:bU prog 158:=⟨fun w args=>by kernel_rfl⟩
instance fn.i159:bU prog 159:=⟨fun w args=>by kernel_rfl⟩
instance fn.i160:bU prog 160:=⟨fun w args=>by kernel_rfl⟩
instance fn.i161:bU prog 161:=⟨fun w args=>by kernel_rfl⟩
instance fn.i162:bU prog 162:=⟨fun w args=>by kernel_rfl⟩
instance fn.i163:bU prog 163:=⟨fun w args=>by kernel_rfl⟩
instance fn.i164:bU prog 164:=⟨fun w args=>by kernel_rfl⟩
instance fn.i165:bU prog 165:=⟨fun w args=>by kernel_rfl⟩
instance fn.i166:bU prog 166:=⟨fun w args=>by kernel_rfl⟩
instance fn.i167:bU prog 167:=⟨fun w args=>by kernel_rfl⟩
instance fn.i168:bU prog 168:=⟨fun w args=>by kernel_rfl⟩
instance fn.i169:bU prog 169:=⟨fun w args=>by kernel_rfl⟩
instance fn.i170:bU prog 170:=⟨fun w args=>by kernel_rfl⟩
instance fn.i171:bU prog 171:=⟨fun w args=>by kernel_rfl⟩
instance fn.i172:bU prog 172:=⟨fun w args=>by kernel_rfl⟩
instance fn.i173:bU prog 173:=⟨fun w args=>by kernel_rfl⟩
instance fn.i179:bU prog 179:=⟨fun w args=>by kernel_rfl⟩
instance fn.i180:bU prog 180:=⟨fun w args=>by kernel_rfl⟩
instance fn.i181:bU prog 181:=⟨fun w args=>by kernel_rfl⟩
instance fn.i182:bU prog 182:=⟨fun w args=>by kernel_rfl⟩
instance fn.i183:bU prog 183:=⟨fun w args=>by kernel_rfl⟩
instance fn.i184:bU prog 184:=⟨fun w args=>by kernel_rfl⟩
instance fn.i185:bU prog 185:=⟨fun w args=>by kernel_rfl⟩
instance fn.i186:bU prog 186:=⟨fun w args=>by kernel_rfl⟩
instance fn.i187:bU prog 187:=⟨fun w args=>by kernel_rfl⟩
instance fn.i188:bU prog 188:=⟨fun w args=>by kernel_rfl⟩
instance fn.i189:bU prog 189:=⟨fun w args=>by kernel_rfl⟩
instance fn.i190:bU prog 190:=⟨fun w args=>by kernel_rfl⟩
instance fn.i191:bU prog 191:=⟨fun w args=>by kernel_rfl⟩
instance fn.i192:bU prog 192:=⟨fun w args=>by kernel_rfl⟩
instance fn.i193:bU prog 193:=⟨fun w args=>by kernel_rfl⟩
instance fn.i195:bU prog 195:=⟨fun w args=>by kernel_rfl⟩
instance fn.i196:bU prog 196:=⟨fun w args=>by kernel_rfl⟩
instance fn.i197:bU prog 197:=⟨fun w args=>by kernel_rfl⟩
instance fn.i198:bU prog 198:=⟨fun w args=>by kernel_rfl⟩
instance fn.i200:bU prog 200:=⟨fun w args=>by kernel_rfl⟩
instance fn.i209:bU prog 209:=⟨fun w args=>by kernel_rfl⟩
instance fn.i213:bU prog 213:=⟨fun w args=>by kernel_rfl⟩
instance fn.i245:bU prog 245:=⟨fun w args=>by kernel_rfl⟩
instance fn.i250:bU prog 250:=⟨fun w args=>by kernel_rfl⟩
instance fn.i251:bU prog 251:=⟨fun w args=>by kernel_rfl⟩
instance fn.i253:bU prog 253:=⟨fun w args=>by kernel_rfl⟩
instance fn.i254:bU prog 254:=⟨fun w args=>by kernel_rfl⟩
instance fn.i255:bU prog 255:=⟨fun w args=>by kernel_rfl⟩
attribute [instance] ty.u0 ty.u1 ty.u2 ty.u3 ty.u4 ty.u5 ty.u6 ty.u7 ty.u8 ty.u9 ty.UW ty.UU ty.UT ty.US ty.UR ty.UQ ty.u16 ty.UP ty.UO ty.UN ty.UM ty.UL ty.UK ty.UJ ty.UI ty.UH ty.UG ty.UF ty.UE ty.UD ty.UC ty.UB ty.u32 ty.UA ty.Uz ty.Uy ty.Ux ty.Uw ty.Uv ty.Uu ty.Ur ty.Uq ty.Up ty.Uo ty.Un ty.Um ty.Ul ty.Uk ty.Uj ty.Ui ty.Uh ty.Ug ty.Uf ty.Ue ty.Ud ty.Uc ty.Ub ty.Ua ty.T9 ty.T8 ty.T7 ty.T6 ty.T5 ty.T4 ty.u64 ty.T3 ty.T1 ty.T0 ty.TZ ty.TY ty.TX ty.TW ty.TV ty.TU ty.Sg ty.TT ty.TS ty.TR ty.TQ ty.TP ty.TO ty.TN ty.TM ty.TL ty.TK ty.TJ ty.TI ty.TH ty.TG ty.TF ty.TE ty.TD ty.TC ty.TB ty.TA ty.Tz ty.Tw ty.Tv ty.Tu ty.Tt ty.Qf ty.Qe ty.Qd ty.Qc ty.Qb ty.Qa ty.P9 ty.P8 ty.P7 ty.P6 ty.P5 ty.P4 ty.P3 ty.P2 ty.P1 ty.P0 ty.PZ ty.PY ty.PX ty.PW ty.PV ty.PU ty.PT ty.PS ty.PR ty.PQ ty.PO ty.PN ty.PM ty.PL ty.PK ty.PJ ty.PI ty.PH ty.PG ty.PF ty.PE ty.PD ty.PC ty.PB ty.PA ty.Pz ty.Py ty.Px ty.Pw ty.Pv ty.Pt ty.Ps ty.Pr ty.Pq ty.Pp ty.Po ty.Pn ty.Pm ty.Pk ty.Pj ty.Ph ty.Pg ty.Pf ty.Pe ty.Pd ty.Pc ty.Pb ty.Pa ty.O9 ty.O8 ty.O7 ty.O6 ty.O5 ty.O4 ty.O3 ty.O2 ty.O1 ty.O0 ty.OZ ty.OY ty.OX ty.OW ty.OV ty.OU ty.OT ty.OS ty.OR ty.OQ ty.OP ty.OO ty.ON ty.OM ty.OL ty.OK ty.OJ ty.OI ty.OH ty.OG ty.OE ty.OD ty.OC ty.OB ty.OA ty.Oz ty.Oy ty.Ox ty.Ow ty.Ov ty.Ou ty.Ot ty.Oq ty.Oo ty.On ty.Om ty.Ol ty.Oj ty.Oi ty.Oh ty.Og ty.Of ty.Oe ty.Od ty.Oc ty.Ob ty.Oa ty.N9 ty.N8 ty.N7 ty.N6 ty.N5 ty.N4 ty.N3 ty.N0 ty.NZ ty.NY ty.NX ty.NW ty.NV ty.NU ty.NT ty.NS ty.NR ty.NQ ty.NP ty.NO ty.NN ty.NM ty.NL ty.NK ty.NJ ty.NI ty.NH ty.NF ty.ND ty.NC ty.NB ty.NA ty.Nz ty.Ny ty.Nx ty.Nw ty.Nv ty.Nu ty.Nt ty.Ns ty.Nr ty.Nq ty.Np ty.Nl ty.Nk ty.Nj ty.Ni ty.Nh ty.Ng ty.Nf ty.Nd ty.Nc ty.Na ty.M9 ty.M8 ty.M7 ty.M6 ty.M5 ty.M4 ty.M3 ty.M1 ty.M0 ty.MZ ty.MY ty.MX ty.MW ty.MV ty.MU ty.MT ty.MS ty.MR ty.MQ ty.MP ty.MO ty.MN ty.MM ty.ML ty.MK ty.MJ ty.MI ty.MH ty.MG ty.MF ty.ME ty.MD ty.MC ty.MB ty.MA ty.Mz ty.My ty.Mx ty.Mw ty.Mv ty.Mu ty.Mt ty.Ms ty.Mr ty.Mq ty.Mp ty.Mo ty.Mn ty.Mm ty.Ml ty.Mk ty.Mj ty.Mi ty.Mh ty.Mg ty.Mf ty.Me ty.Mc ty.Mb ty.Ma ty.L9 ty.L8 ty.L7 ty.L6 ty.L5 ty.L4 ty.L3 ty.LZ ty.LY ty.LX ty.LW ty.LV ty.LU ty.LS ty.LR ty.LQ ty.LP
theorem mixed:prog.follows .mixedOrders=true:=by kernel_rfl
end
section
variable{cs:List Value}{fuel n:Nat}{e:TypeId}{w w':World}
open Go.ChangeShapes Go.WideShapes Go.ChangeAt Go.RowKit
section
variable {H:Type} {enc:TypeId×Value->H} {P:Program}
theorem Kp.below(h:Kp [] w w'):Below w.heap.size w w':=⟨h.os,h.tape,h.output,h.size,fun k a=>h.blk k a (by simp)⟩
theorem Kp.kept(h:Kp [] w w')(b:MemPlace->Prop):w.keptBut w' b:=by
 refine⟨h.os,h.output,fun i a=>?_⟩
 rw[h.blk i a (by simp)]
 cases hh:w.heap[i]? with
 |none=>rfl
 |some o=>
  cases o<;>simp
theorem nN{a:Addr}(h:w.cells? 0 a n=some cs)(r:0<n):∃b d,a=⟨b,d,none⟩/\Row w b d cs/\cs.length=n:=by
 obtain⟨z,l,j⟩:=World.cells?_some h
 obtain⟨b,d,t⟩:=a
 have m:cs[0]?=some (cs[0]'(by omega)):=by simp
 have s:t=none:=by
  have:=j 0 r
  rw[m] at this
  simpa[Addr.add] using World.cell?_spot this
 subst s
 refine⟨b,d,rfl,?_,l⟩
 have o:∀i v,cs[i]?=some v->∃c T f,w.heap[b]?=some (.cells c T f)/\c[d+i]?=some v:=by
  intro i v g
  have q:i<n:=by rw[<-l];exact(List.getElem?_eq_some_iff.1 g).1
  have:=j i q
  rw[g,dQ] at this
  unfold World.cell? at this
  split at this
  ·rename_i c T f e
   exact⟨c,T,f,e,by simpa using this⟩
  ·cases this
 obtain⟨c,T,f,e,_⟩:=o 0 _ m
 refine⟨c,T,f,e,fun i v g=>?_⟩
 obtain⟨x,u,y,k,p⟩:=o i v g
 rw[e] at k
 cases k
 exact p
theorem G4{n:Int}(h:(Lit.int .u8 n).wf=true):∃u:UInt8,n=(u.toNat:Int):=by
 have:0<=n/\n<=255:=by simpa[Lit.wf,IntKind.min,IntKind.max,IntKind.signed,IntKind.bits] using h
 refine⟨UInt8.ofNat n.toNat,?_⟩
 have a:(UInt8.ofNat n.toNat).toNat=n.toNat:=by
  rw[UInt8.toNat_ofNat'];omega
 rw[a];omega
structure V0(enc:TypeId×Value->H)(P:Program)(w:World)(e:TypeId)(a:Option Addr)(n:Nat):Prop where
 row:∀i,i<n->∃b off cs fuel y,a=some ⟨b,off,none⟩/\Row w b (off+i*P.cellsOf e) cs/\cs.length=P.cellsOf e/\DataW.trod enc P w 0 (fun _=>true) true fuel e cs=some y
theorem lJ{y:DataW H×List MemPlace}(c:P.underlying e=some (.int .u8))(h:DataW.trod enc P w 0 (fun _=>true) true fuel e cs=some y):∃a:UInt8,cs=[bv a]:=by
 obtain⟨f,b,_,d⟩:=DataW.trod_int c h
 obtain⟨a,rfl⟩:=G4 d
 exact⟨a,b⟩
theorem tZ:∀{cs:List Value},(∀x∈cs,∃u:UInt8,x=bv u)->∃l:List UInt8,cs=l.map bv
 |[],_=>⟨[],rfl⟩
 |x::cs,h=>by
  obtain⟨u,rfl⟩:=h x (by simp)
  obtain⟨l,rfl⟩:=tZ (cs:=cs) (fun y a=>h y (by simp[a]))
  exact⟨u::l,rfl⟩
theorem Cd{t:TypeId}{y:DataW H×List MemPlace}(p:P.underlying t=some (.array n e))(k:P.underlying e=some (.int .u8))(c:P.cellsOf e=1)(f:P.cellsOf t=n)(h:DataW.trod enc P w 0 (fun _=>true) true fuel t cs=some y):∃d:BA n,cs=dc d:=by
 obtain⟨v,m,_,_,b,s,g⟩:=DataW.trod_array p h
 rw[f] at b
 obtain⟨l,j⟩:∃l:List UInt8,cs=l.map bv:=by
  refine tZ (fun x r=>?_)
  obtain⟨i,o,rfl⟩:=mem_iff_getElem.1 r
  have a:=g i (by omega)
  rw[c,Nat.mul_one,drop_eq_getElem_cons o,getElem?_eq_getElem (by omega)] at a
  simp only[take_succ_cons,take_zero] at a
  obtain⟨u,q⟩:=lJ k a
  exact⟨u,by simpa using q⟩
 subst j
 exact⟨⟨l,by simpa using b⟩,rfl⟩
theorem mO(m:laidOutB P=true){W i:World}{n:Nat->Bool}(l:Below W.heap.size W i):∀{c:List TypeId} {vs:List Value} {f:List (DataW H)} {b:List MemPlace},(∀t∈c,P.readableRec t=true/\t<P.types.size)->
  (∀p∈b,p.block<W.heap.size)->(∀p∈b,n p.block=true)->DataW.TrodAll enc P W 0 (fun _=>true) true c vs f b->DataW.TrodAll enc P i 0 n true c vs f b
 |[],[],[],b,_,_,_,h=>h
 |t::c,v::vs,d::f,b,g,j,k,⟨p,q,r,s,e⟩=>by
  subst e
  exact⟨p,q,WideElems.Trod_stays m (g t (by simp)).1 (g t (by simp)).2 r (fun x a=>l.same (j x (by simp[a]))) (fun x a=>k x (by simp[a])),
   mO m l (fun u o=>g u (by simp[o])) (fun x a=>j x (by simp[a])) (fun x a=>k x (by simp[a])) s,rfl⟩
 |[],_::_,_,_,_,_,_,h=>by simp[DataW.TrodAll] at h
 |[],[],_::_,_,_,_,_,h=>by simp[DataW.TrodAll] at h
 |_::_,[],_,_,_,_,_,h=>by simp[DataW.TrodAll] at h
 |_::_,_::_,[],_,_,_,_,h=>by simp[DataW.TrodAll] at h
theorem Ec{f:Func}{s:ChangeSpec}{A E y:Bool}{W g:World}{args:Array Value}{a B:List (DataW H)}{z:List MemPlace}{tb:TypeId}(J:laidOutB P=true)(L:∀t∈f.params.toList,P.readableRec t=true/\t<P.types.size)
  (w:s.vars=[]) (k:DataW.Whole enc P f.params.toList s.vars false W args.toList a B z) (F:s.fn H a={results:=[.lit (.bool true)],args:=a}) (u:f.resultTypes= #[tb]) (r:P.underlying tb=some .bool) (m:Kp [] W g):
  s.post enc P f false A E y W args (.bool true) g:=by
 have i:=k.lt
 have n:=k
 obtain⟨p,q,C,j,rfl,G,O⟩:=k
 have N:=j
 rw[w] at j
 obtain⟨rfl,rfl⟩:=trodVars_none j
 simp only[append_nil] at i n
 have l:s.fn H (a++[])={results:=[.lit (.bool true)],args:=a}:=by rw[append_nil];exact F
 have o:∀e:Nat->Bool,(∀d∈p,e d.block=true)->DataW.TrodAll enc P g 0 e true f.params.toList args.toList (s.fn H (a++[])).args p:=fun e K=>by
  rw[l]
  exact mO J m.below L i K C
 have v:∀(b:Nat) (e:Nat->Bool) (h:Bool),DataW.TrodAll enc P g b e h f.resultTypes.toList ((Value.bool true).resultList f.resultTypes.size) (s.fn H (a++[])).results []:=fun _ _ _=>by
  rw[l,u]
  exact trodAll_mk1 (shut_bool r _)
 have x:∀e:Nat->Bool,DataW.TrodVars enc P g e s.vars (s.fn H (a++[])).vars []:=fun _=>by
  rw[l,w]
  exact rfl
 have I:∀d∈p,decide (d.block<W.heap.size)=true:=fun d c=>decide_eq_true (i d c)
 refine⟨a,[],p,[],p,[],n,v _ _ _,o (fun b=>decide (b<W.heap.size)) I,x _,World.keptBut_mono (fun d c=>⟨c,Or.inr (Or.inl c)⟩) (m.kept _),fun _=>⟨ok_one u rfl (okWide_bool_mk r _),_,_,p,⟨p,[],trodAll_append (o _ (fun _ _=>rfl)) (v _ _ _),x _,by simp,?_,?_⟩,fun d c _=>c⟩⟩
 ·intro b M c
  rw[m.fz _ (i _ c)]
  exact G b M (mem_append_left _ c)
 ·intro D
  exact absurd D (by simp)
end
end
section
variable{S:List Nat}{T:TypeId}
open Go.ChangeMaps (setBlock)
section
variable {κ ν:Type} {enc:κ->Value} {V:ν->Value} {m left:List (κ×ν)} {cur:Option (κ×ν)} {w w':World} {b r:Nat} {P:Program} {k T E:TypeId}
def kv(e:MapEntry):Value×Value:=(e.key,e.val)
def aQ(w:World)(r b:Nat)(enc:κ->Value)(V:ν->Value)(m left:List (κ×ν))(cur:Option (κ×ν)):Prop:=
 ∃es clock seen,aG w b (.map es clock)/\MapKept.Stamped es clock/\es.toList.map kv=m.map (fun p=>(enc p.1,V p.2))/\aG w r (.mapIter (some b) clock seen clock)/\
  (es.toList.filter (fun e=> !seen.contains e.born)).map kv=left.map (fun p=>(enc p.1,V p.2))/\
  ∀p,cur=some p->∃(e:MapEntry) (seen':Array Nat),e∈es.toList/\seen=seen'.push e.born/\kv e=(enc p.1,V p.2)
theorem aQ.kp(h:aQ w r b enc V m left cur)(a:Kp S w w')(o:r∉S)(n:b∉S):aQ w' r b enc V m left cur:=by
 obtain⟨d,c,p,e,f,g,i,j,l⟩:=h
 exact⟨d,c,p,e.kp a n,f,g,i.kp a o,j,l⟩
theorem aQ.az(h:aQ w r b enc V m left cur)(a:Kp [] w w'):aQ w' r b enc V m left cur:=h.kp a (by simp) (by simp)
theorem aQ.map(h:aQ w r b enc V m left cur):aF w b enc V m:=by
 obtain⟨a,c,g,d,e,f,_⟩:=h
 exact⟨a,c,d,e,f⟩
theorem aQ.Ju(h:aQ w r b enc V m left cur):r<w.heap.size:=by
 obtain⟨d,c,i,e,f,g,a,_⟩:=h
 exact a.lt
theorem sY{e j n:Type}{f:e->j}{g:n->j}:∀{i:List e} {x:e} {a:List e} {l:List n},(i++x::a).map f=l.map g->∃d p c,l=d++p::c/\i.map f=d.map g/\f x=g p/\a.map f=c.map g
 |[],x,a,l,h=>by
  cases l with
  |nil=>simp at h
  |cons p l=>
   simp only[nil_append,map_cons,List.cons.injEq] at h
   exact⟨[],p,l,rfl,rfl,h.1,h.2⟩
 |y::i,x,a,l,h=>by
  cases l with
  |nil=>simp at h
  |cons p l=>
   simp only[cons_append,map_cons,List.cons.injEq] at h
   obtain⟨d,q,c,o,s,t,u⟩:=sY h.2
   exact⟨p::d,q,c,by simp[o],by simp[h.1,s],t,u⟩
theorem filter_push{a:Array Nat}{e:MapEntry}:∀{l:List MapEntry},(l.map (·.born)).Nodup->∀{pre post:List MapEntry},l.filter (fun x=> !a.contains x.born)=pre++e::post->l.filter (fun x=> !(a.push e.born).contains x.born)=pre++post:=by
 intro l q pre post h
 have n:l.filter (fun x=> !(a.push e.born).contains x.born)=(l.filter (fun x=> !a.contains x.born)).filter (fun x=>x.born !=e.born):=by
  rw[filter_filter]
  congr 1
  funext x
  rw[Array.contains_push]
  cases a.contains x.born<;>by_cases o:x.born=e.born<;>simp[o,bne]
 rw[n,h,filter_append,filter_cons]
 have g:((pre++e::post).map (·.born)).Nodup:=by
  rw[<-h]
  exact q.sublist (filter_sublist.map _)
 rw[map_append,map_cons] at g
 have f:=nodup_append.1 g
 have p:=nodup_cons.1 f.2.1
 have i:pre.filter (fun x=>x.born !=e.born)=pre:=by
  rw[filter_eq_self]
  intro x d
  have:=f.2.2 x.born (mem_map.2 ⟨x,d,rfl⟩) e.born (by simp)
  simpa[bne] using this
 have j:post.filter (fun x=>x.born !=e.born)=post:=by
  rw[filter_eq_self]
  intro x d
  have:e.born≠x.born:=fun c=>p.1 (c▸mem_map.2 ⟨x,d,rfl⟩)
  simpa[bne] using fun c=>this c.symm
 rw[i,j]
 simp
theorem Ba[u:Ut P T (.map k E)](h:aF w b enc V m):∃a,(Instr.range T (.map (some b))).run P w= .ok (.pointer (some ⟨w.heap.size,0,none⟩)) {w with heap:=w.heap.push a}/\Obj.soft a=true/\aQ {w with heap:=w.heap.push a} w.heap.size b enc V m m none:=by
 obtain⟨d,c,e,i,f⟩:=h
 have g:w.heap[b]?=some (.map d c):=e
 refine⟨.mapIter (some b) c #[] c,?_,rfl,d,c,#[],?_,i,f,aG.push w _,?_,fun p j=>by cases j⟩
 ·simp[Instr.range,run_underlying u.eq,MapKept.run_getObj_map g,newObj,Sem.run,Result.andThen]
 ·exact aG.az e (Kp.push w _ rfl)
 ·rw[filter_eq_self.2 (by simp)]
  exact f
theorem Dl(ty:TypeId)(h:aQ w r b enc V m left cur):
  (left=[]/\(Instr.next (.pointer (some ⟨r,0,none⟩)) false ty).run P w= .ok (.tuple #[.bool false]) w)\/
  ∃j p i w',left=j++p::i/\(Instr.next (.pointer (some ⟨r,0,none⟩)) false ty).run P w= .ok (.tuple #[.bool true,enc p.1,V p.2]) w'/\Kp [r] w w'/\aQ w' r b enc V m (j++i) (some p):=by
 obtain⟨d,c,a,l,n,C,f,g,L⟩:=h
 have x:=(MapKept.stamped_iff d c).1 n
 rcases run_next_at (P:=P) w ty r b c c a d c f l x.1 (Nat.le_refl _) with⟨g1,g2⟩|⟨e,g1,w1,g2,g3⟩
 ·refine Or.inl ⟨?_,g2⟩
  have:d.toList.filter (fun e=> !a.contains e.born)=[]:=by
   have:(leftOf d a).toList=[]:=by
    rw[<-length_eq_zero_iff];simpa using g1
   simpa[leftOf] using this
  rw[this] at g
  simpa using g.symm
 ·have v:e∈d.toList.filter (fun e=> !a.contains e.born):=by simpa[leftOf] using g1
  obtain⟨M,N,u⟩:=append_of_mem v
  rw[u] at g
  obtain⟨j,p,i,I,J,z,K⟩:=sY g
  have F:b≠r:=fun B=>by
   subst B
   have:=l.uniq f
   cases this
  have y:w1.heap=w.heap:=by rcases g2 with rfl|rfl<;>rfl
  have s:Kp [r] w (setBlock w1 r (.mapIter (some b) c (a.push e.born) c)):=by
   have A:Kp [r] w w1:=by
    rcases g2 with rfl|rfl
    ·exact Kp.refl _ _
    ·exact(Kp.refl [r] w).drew
   exact A.trans (Kp.set w1 (b:=r) (o:= .mapIter (some b) c a c) (by unfold aG;rw[y];exact f) rfl rfl)
  have D:aG (setBlock w1 r (.mapIter (some b) c (a.push e.born) c)) r (.mapIter (some b) c (a.push e.born) c):=aG.set (w:=w1) (o:= .mapIter (some b) c a c) (by unfold aG;rw[y];exact f) _
  have G:kv e=(enc p.1,V p.2):=z
  have t:e.key=enc p.1/\e.val=V p.2:=by
   have:=Prod.mk.inj G
   exact this
  refine Or.inr ⟨j,p,i,_,I,?_,s,d,c,a.push e.born,l.kp s (bQ F),n,C,D,?_,fun q H=>?_⟩
  ·rw[g3,t.1,t.2]
  ·rw[filter_push x.2.1 u,map_append,map_append,J,K]
  ·cases H
   exact⟨e,a,(mem_filter.1 v).1,rfl,z⟩
theorem Bb{p:κ×ν}(h:aQ w r b enc V m left (some p)):(Instr.entry (.pointer (some ⟨r,0,none⟩))).run P w= .ok (.tuple #[enc p.1,V p.2]) w:=by
 obtain⟨a,c,t,g,i,q,j,s,l⟩:=h
 obtain⟨e,o,d,rfl,f⟩:=l p rfl
 have n:=(MapKept.stamped_iff a c).1 i
 rw[run_entry_at (P:=P) w r b c o a c e j g d n.2.1]
 have:=Prod.mk.inj f
 rw[this.1,this.2]
end
section
variable {κ ν:Type} {enc:κ->Value} {V:ν->Value} {m left:List (κ×ν)} {cur:Option (κ×ν)} {b r:Nat} {P:Program} {k T E:TypeId}
 {n:Nat} {Q:Exit->Act->World->Prop} {L:Env} {w:World} {ops rest:List Oper} {d:Nat} {ty:TypeId} {pos:String} {af:Array Edge} {g:Option (Nat×Bool)} {x:Operand}
theorem SG.range[u:Ut P T (.map k E)](i:Nat.blt d n=true)(o:want ops L ⟨some d,.range T x,ty,pos,af,g⟩=some true)(j:known L x=true)(p:bH L x= .map (some b))(l:aF w b enc V m)
  (h:∀r a,Kp [] w a->w.heap.size<=r->aQ a r b enc V m m none->SG P n ops Q rest ((d,.pointer (some ⟨r,0,none⟩))::L) a):SG P n ops Q (⟨some d,.range T x,ty,pos,af,g⟩::rest) L w:=by
 refine SG.op (by simpa using i) rfl o (by simpa[Op.operands] using j) ?_
 unfold bD
 obtain⟨q,c,e,f⟩:=Ba (P:=P) (u:=u) l
 have:(execOp (bH L) ⟨some d,.range T x,ty,pos,af,g⟩).run P w= .ok (.value (.pointer (some ⟨w.heap.size,0,none⟩))) {w with heap:=w.heap.push q}:=by
  simp only[execOp,p,Sem.run_bind,c,Result.andThen,Sem.run_pure]
 rw[this]
 exact h _ _ (Kp.push w _ e) (Nat.le_refl _) f
theorem SG.next(j:Nat.blt d n=true)(q:want ops L ⟨some d,.next x false,ty,pos,af,g⟩=some true)(o:known L x=true)(f:bH L x= .pointer (some ⟨r,0,none⟩))(l:aQ w r b enc V m left cur)
  (h:left=[]->SG P n ops Q rest ((d,.tuple #[.bool false])::L) w)
  (i:∀e p c a,left=e++p::c->Kp [r] w a->aQ a r b enc V m (e++c) (some p)->SG P n ops Q rest ((d,.tuple #[.bool true,enc p.1,V p.2])::L) a):SG P n ops Q (⟨some d,.next x false,ty,pos,af,g⟩::rest) L w:=by
 refine SG.op (by simpa using j) rfl q (by simpa[Op.operands] using o) ?_
 unfold bD
 rcases Dl (P:=P) ty l with⟨g1,g2⟩|⟨e,p,c,a,g1,g2,g3,g4⟩
 ·have:(execOp (bH L) ⟨some d,.next x false,ty,pos,af,g⟩).run P w= .ok (.value (.tuple #[.bool false])) w:=by
   simp only[execOp,f,Sem.run_bind,g2,Result.andThen,Sem.run_pure]
  rw[this]
  exact h g1
 ·have:(execOp (bH L) ⟨some d,.next x false,ty,pos,af,g⟩).run P w= .ok (.value (.tuple #[.bool true,enc p.1,V p.2])) a:=by
   simp only[execOp,f,Sem.run_bind,g2,Result.andThen,Sem.run_pure]
  rw[this]
  exact i e p c a g1 g3 g4
theorem Lz{w0:World}{F:World->Prop}{d:Option Nat}{p:κ×ν}(h:ro L x=some (.pointer (some ⟨r,0,none⟩)))(c:aQ w0 r b enc V m left (some p))(f:r∉S)(a:b∉S):aP P S w0 F L ⟨d,.entry x,ty,pos,af,g⟩ (.tuple #[enc p.1,V p.2]):=fun w e _=>by
 simp only[execOp,ag h,Sem.run_bind,Bb (c.kp e f a),Result.andThen,Sem.run_pure]
end
section
variable {P:Program} {n:Nat} {Q:Exit->Act->World->Prop} {L:Env} {w:World} {ops:List Oper} {rest:List Oper} {ty:TypeId} {pos:String} {af:Array Edge} {g:Option (Nat×Bool)}
theorem um{k E:TypeId}[u:Ut P T (.map k E)]{q:IntKind}{z:Int}:(Instr.makeMap T (some (.int q z))).run P w= .ok (.map (some w.heap.size)) {w with heap:=w.heap.push (.map #[] 0)}:=by
 simp[Instr.makeMap,run_underlying u.eq,asInt,asIntOf,newObj,Sem.run,Result.andThen]
theorem SG.makeMap{f i:Type}(enc:f->Value)(V:i->Value){d:Nat}(c:Nat.blt d n=true)(e:want ops L ⟨some d,.makeMap T none,ty,pos,af,g⟩=some true)
  (h:∀b a,Kp [] w a->w.heap.size<=b->aF a b enc V []->SG P n ops Q rest ((d,.map (some b))::L) a):SG P n ops Q (⟨some d,.makeMap T none,ty,pos,af,g⟩::rest) L w:=by
 refine SG.op (by simpa using c) rfl e (by simp[Op.operands]) ?_
 unfold bD
 have:(execOp (bH L) ⟨some d,.makeMap T none,ty,pos,af,g⟩).run P w= .ok (.value (.map (some w.heap.size))) {w with heap:=w.heap.push (.map #[] 0)}:=by
  simp[execOp,Instr.makeMap,newObj,Sem.run,Result.andThen]
 rw[this]
 exact h w.heap.size _ (Kp.push w _ rfl) (Nat.le_refl _) (aF.made w enc V)
end
theorem BX{P:Program}(m:Nat)(t:m<=10000)(p:P.keyTypeAt m T=true)(u:P.tiled m T=true)(a:(match P.underlying T with|some (.array _ _)|some (.struct _)=>true|_=>false)=true)(s:P.keyType T=true){l l':List Value}
  (c:(Value.agg l.toArray).formed P T=true) (o:(Value.agg l'.toArray).formed P T=true) (g:(P.keyLits (P.types.size+1) T l).isSome=true) (v:(P.keyLits (P.types.size+1) T l').isSome=true) (w:World):
  ∃r:Bool,(Op.equal T (.agg l.toArray) (.agg l'.toArray)).run P w= .ok r w/\(r=true↔l=l'):=by
 have h:∀{l:List Value},(Value.agg l.toArray).formed P T=true->(P.keyLits (P.types.size+1) T l).isSome=true->∃q,keyOf P T (.agg l.toArray)=some q:=by
  intro l c g
  obtain⟨L,k⟩:=Option.isSome_iff_exists.1 g
  refine⟨.string (keyBytes L),?_⟩
  have n:(Value.agg l.toArray).cells.toList=l:=by simp[Value.cells]
  unfold keyOf
  cases hu:P.underlying T with
  |none=>rw[hu] at a;simp at a
  |some d=>
   rw[hu] at a
   cases d<;>simp at a<;>simp only[s,c,Bool.and_self,if_true,n,k,Option.map_some]
 obtain⟨q,f⟩:=h c g
 obtain⟨x,b⟩:=h o v
 obtain⟨r,i,j⟩:=run_equal_deep w t p a f b
 refine⟨r,i,j.trans ⟨fun e=>?_,fun e=>?_⟩⟩
 ·subst e
  have:=keyOf_inj_deep u a f b
  simpa using this
 ·subst e
  rw[f] at b
  cases b
  rfl
end
section
theorem da.deep{P:Program}{k:TypeId}{o:Type}{enc:o->List Value}(m:Nat)(j:m+1<=10000)(g:P.keyTypeAt m k=true)(l:P.tiled m k=true)(a:(match P.underlying k with|some (.array _ _)|some (.struct _)=>true|_=>false)=true)(i:P.keyType k=true)
  (e:∀x,(Value.agg (enc x).toArray).formed P k=true) (n:∀x,(P.keyLits (P.types.size+1) k (enc x)).isSome=true) (f:∀x y,enc x=enc y->x=y):da P k (fun x=>Value.agg (enc x).toArray):=by
 refine⟨Maps.Keyed.of_law (deep_law j g l a),fun x=>?_,fun x y h=>f x y (by simpa using h)⟩
 obtain⟨L,b⟩:=Option.isSome_iff_exists.1 (n x)
 refine⟨.string (keyBytes L),?_⟩
 have c:(Value.agg (enc x).toArray).cells.toList=enc x:=by simp[Value.cells]
 unfold keyOf
 cases hu:P.underlying k with
 |none=>rw[hu] at a;simp at a
 |some d=>
  rw[hu] at a
  cases d<;>simp at a<;>simp only[i,e,Bool.and_self,if_true,c,b,Option.map_some]
end
section
variable{a b:Int}{k:IntKind}{i n:Nat}{x y:Operand}{T T':TypeId}
def mH(a b:Int):Int:=IntKind.wrap .u64 (a+b)
def Vi(a b:Int):Int:=IntKind.wrap .u64 (a*b)
def iZ(a b:Int):Int:=IntKind.wrap .u64 ((BitVec.ofInt 64 a^^^BitVec.ofInt 64 b).toNat:Int)
def xY(a b:Int):Int:=IntKind.wrap .u64 ((BitVec.ofInt 64 a|||BitVec.ofInt 64 b).toNat:Int)
def rZ(a b:Int):Int:=IntKind.wrap .u64 ((BitVec.ofInt 64 a&&&BitVec.ofInt 64 b).toNat:Int)
def Gm(a b:Int):Int:=IntKind.wrap .u8 ((BitVec.ofInt 8 a|||BitVec.ofInt 8 b).toNat:Int)
def mA(a b:Int):Int:=IntKind.wrap .u64 (a*2^(min b.toNat 64))
def nc(a b:Int):Int:=a.fdiv (2^(min b.toNat 64))
section
variable {P:Program} {S:List Nat} {w0:World} {F:World->Prop} {L:Env} {d:Option Nat} {ty:TypeId} {pos:String} {af:Array Edge} {g:Option (Nat×Bool)}
theorem Dt[u:Ut P T (.int .u64)](c:ro L x=some (.int .u64 a))(e:ro L y=some (.int .u64 b)):aP P S w0 F L ⟨d,.binOp .add T x y T',ty,pos,af,g⟩ (.int .u64 (mH a b)):=fun w _ _=>by
 simp only[execOp,ag c,ag e,eqGuard,binOp,Op.intArith,Sem.run_bind,Sem.run_pure,Result.andThen,mH];rfl
theorem Bp[u:Ut P T (.int .u64)](c:ro L x=some (.int .u64 a))(e:ro L y=some (.int .u64 b)):aP P S w0 F L ⟨d,.binOp .xor T x y T',ty,pos,af,g⟩ (.int .u64 (iZ a b)):=fun w _ _=>by
 simp only[execOp,ag c,ag e,eqGuard,binOp,Op.intBits,Sem.run_bind,Sem.run_pure,Result.andThen,iZ];rfl
theorem F7[u:Ut P T (.int .u64)](c:ro L x=some (.int .u64 a))(e:ro L y=some (.int .u64 b)):aP P S w0 F L ⟨d,.binOp .or T x y T',ty,pos,af,g⟩ (.int .u64 (xY a b)):=fun w _ _=>by
 simp only[execOp,ag c,ag e,eqGuard,binOp,Op.intBits,Sem.run_bind,Sem.run_pure,Result.andThen,xY];rfl
theorem Ql[u:Ut P T (.int .u8)](c:ro L x=some (.int .u8 a))(e:ro L y=some (.int .u8 b)):aP P S w0 F L ⟨d,.binOp .or T x y T',ty,pos,af,g⟩ (.int .u8 (Gm a b)):=fun w _ _=>by
 simp only[execOp,ag c,ag e,eqGuard,binOp,Op.intBits,Sem.run_bind,Sem.run_pure,Result.andThen,Gm];rfl
theorem Qm[u:Ut P T (.int .u64)](c:ro L x=some (.int .u64 a))(e:ro L y=some (.int .u64 b)):aP P S w0 F L ⟨d,.binOp .and T x y T',ty,pos,af,g⟩ (.int .u64 (rZ a b)):=fun w _ _=>by
 simp only[execOp,ag c,ag e,eqGuard,binOp,Op.intBits,Sem.run_bind,Sem.run_pure,Result.andThen,rZ];rfl
theorem F6[u:Ut P T (.int .u64)](e:ro L x=some (.int .u64 a))(f:ro L y=some (.int k b))(h:Ar (0<=b)):aP P S w0 F L ⟨d,.binOp .shl T x y T',ty,pos,af,g⟩ (.int .u64 (mA a b)):=fun w _ _=>by
 have c:¬b<0:=by have:=h.h;omega
 simp only[execOp,ag e,ag f,eqGuard,binOp,Op.shift,if_neg c,Sem.run_bind,Sem.run_pure,Result.andThen,mA];rfl
theorem Ic[u:Ut P T (.int .u64)](e:ro L x=some (.int .u64 a))(f:ro L y=some (.int k b))(h:Ar (0<=b)):aP P S w0 F L ⟨d,.binOp .shr T x y T',ty,pos,af,g⟩ (.int .u64 (nc a b)):=fun w _ _=>by
 have c:¬b<0:=by have:=h.h;omega
 simp only[execOp,ag e,ag f,eqGuard,binOp,Op.shift,if_neg c,Sem.run_bind,Sem.run_pure,Result.andThen,nc];rfl
theorem Hy[u:Ut P T (.int .i64)](f:ro L x=some (.int .i64 a))(i:ro L y=some (.int .i64 b))(h:Ar (-9223372036854775808<=a*b/\a*b<=9223372036854775807)):aP P S w0 F L ⟨d,.binOp .mul T x y T',ty,pos,af,g⟩ (.int .i64 (a*b)):=fun w _ _=>by
 have e:IntKind.wrap .i64 (a*b)=a*b:=by
  have j:=h.h
  generalize a*b=c at*
  simp only[IntKind.wrap,IntKind.signed,IntKind.bits]
  simp
  omega
 simp only[execOp,ag f,ag i,eqGuard,binOp,Op.intArith,Sem.run_bind,Sem.run_pure,Result.andThen,e];rfl
theorem Qs[u:Ut P T (.int .i64)](j:ro L x=some (.int .i64 a))(k:ro L y=some (.int .i64 b))(h:Ar (0<=a/\a<=9223372036854775807/\0<b)):aP P S w0 F L ⟨d,.binOp .quo T x y T',ty,pos,af,g⟩ (.int .i64 (a/b)):=fun w _ _=>by
 obtain⟨f,l,m⟩:=h.h
 have e:IntKind.wrap .i64 (a.tdiv b)=a/b:=by
  rw[Int.tdiv_eq_ediv_of_nonneg f]
  have n:a/b<=a:=Int.ediv_le_self b f
  have o:0<=a/b:=Int.ediv_nonneg f (by omega)
  generalize a/b=c at*
  simp only[IntKind.wrap,IntKind.signed,IntKind.bits]
  simp
  omega
 have i:b≠0:=by omega
 simp only[execOp,ag j,ag k,eqGuard,binOp,Op.intDiv,if_neg i,Sem.run_bind,Sem.run_pure,Result.andThen,e];rfl
theorem Jr[u:Ut P T (.int .i64)](f:ro L x=some (.int .i64 a))(i:ro L y=some (.int .i64 b))(h:Ar (0<=a/\0<b)):aP P S w0 F L ⟨d,.binOp .rem T x y T',ty,pos,af,g⟩ (.int .i64 (a%b)):=fun w _ _=>by
 obtain⟨c,j⟩:=h.h
 have e:b≠0:=by omega
 simp only[execOp,ag f,ag i,eqGuard,binOp,Op.intDiv,if_neg e,Sem.run_bind,Sem.run_pure,Result.andThen,Int.tmod_eq_emod_of_nonneg c];rfl
theorem Qk[u:Ut P T (.int .u64)](f:ro L x=some (.int .u64 a))(i:ro L y=some (.int .u64 b))(h:Ar (0<=a-b/\a-b<18446744073709551616)):aP P S w0 F L ⟨d,.binOp .sub T x y T',ty,pos,af,g⟩ (.int .u64 (a-b)):=fun w _ _=>by
 have e:IntKind.wrap .u64 (a-b)=a-b:=by
  have j:=h.h
  generalize a-b=c at*
  simp only[IntKind.wrap,IntKind.signed,IntKind.bits]
  simp
  omega
 simp only[execOp,ag f,ag i,eqGuard,binOp,Op.intArith,Sem.run_bind,Sem.run_pure,Result.andThen,e];rfl
theorem Kh{E:TypeId}[u:Ut P T (.array n E)][s:Sz P E 1][c:cQ P E]{z:Int}{j:Nat}{l:List Value}{v:Value}(q:ro L x=some (.agg l.toArray))(r:ro L y=some (.int k z))(t:z=(j:Int))(a:Ar (j<n))(p:l[j]?=some v):
  aP P S w0 F L ⟨d,.index T x y,ty,pos,af,g⟩ v:=fun w _ _=>by
 obtain⟨i,b,e⟩:=s.eq
 obtain⟨A,f,m⟩:=c.eq
 subst t
 have o:(0:Int)<=(j:Int)/\(j:Int)<(n:Int):=⟨by omega,by have:=a.h;omega⟩
 simp[execOp,ag q,ag r,Instr.index,asIntOf,run_underlying u.eq,o,sizeOf,typeInfo,b,e,part,jD (u:=⟨f⟩),m,p]
 intro B
 have:=a.h
 omega
theorem Ie[u:Ut P T (.int .u8)][u':Ut P T' (.int .u64)]{a:UInt8}(b:ro L x=some (bv a)):aP P S w0 F L ⟨d,.convert T T' x,ty,pos,af,g⟩ (.int .u64 (a.toNat:Int)):=by
 have h:=xX (P:=P) (S:=S) (w0:=w0) (F:=F) (d:=d) (ty:=ty) (pos:=pos) (af:=af) (g:=g) (T:=T) (T':=T') (k':= .u64) b
 have e:IntKind.wrap .u64 (a.toNat:Int)=(a.toNat:Int):=by
  have:a.toNat<256:=a.toNat_lt
  simp only[IntKind.wrap,IntKind.signed,IntKind.bits]
  simp
  omega
 rwa [e] at h
def H2(z:Int):UInt8:=UInt8.ofNat (z%256).toNat
theorem qp(n:Nat):H2 (n:Int)=UInt8.ofNat n:=by
 unfold H2
 apply UInt8.toNat.inj
 rw[UInt8.toNat_ofNat',UInt8.toNat_ofNat']
 omega
theorem JL(z:Int):IntKind.wrap .u8 z=((H2 z).toNat:Int):=by
 unfold H2
 rw[UInt8.toNat_ofNat']
 simp only[IntKind.wrap,IntKind.signed,IntKind.bits]
 simp
 omega
theorem Dw[u:Ut P T (.int k)][u':Ut P T' (.int .u8)](b:ro L x=some (.int k a)):aP P S w0 F L ⟨d,.convert T T' x,ty,pos,af,g⟩ (bv (H2 a)):=by
 have h:=xX (P:=P) (S:=S) (w0:=w0) (F:=F) (d:=d) (ty:=ty) (pos:=pos) (af:=af) (g:=g) (T:=T) (T':=T') (k':= .u8) b
 rwa [JL] at h
theorem Gb[u:Ut P T (.int .i64)][u':Ut P T' (.int .u64)]{a:Nat}(c:ro L x=some (.int .i64 (a:Int)))(h:Ar (a<9223372036854775808)):aP P S w0 F L ⟨d,.convert T T' x,ty,pos,af,g⟩ (.int .u64 (a:Int)):=by
 have b:=xX (P:=P) (S:=S) (w0:=w0) (F:=F) (d:=d) (ty:=ty) (pos:=pos) (af:=af) (g:=g) (T:=T) (T':=T') (k':= .u64) c
 have e:IntKind.wrap .u64 (a:Int)=(a:Int):=by
  have:=h.h
  simp only[IntKind.wrap,IntKind.signed,IntKind.bits]
  simp
  omega
 rwa [e] at b
end
theorem mV(h:n<18446744073709551616):IntKind.wrap .u64 (n:Int)=(n:Int):=by
 simp only[IntKind.wrap,IntKind.signed,IntKind.bits]
 simp
 omega
theorem oR(z:Int):0<=IntKind.wrap .u64 z/\IntKind.wrap .u64 z<18446744073709551616:=by
 simp only[IntKind.wrap,IntKind.signed,IntKind.bits]
 simp
 omega
theorem FH(a b:Int):0<=iZ a b/\iZ a b<18446744073709551616:=oR _
theorem Cx(a b:Int):∃n:Nat,iZ a b=(n:Int)/\n<18446744073709551616:=by
 have:=FH a b
 exact⟨(iZ a b).toNat,by omega,by omega⟩
theorem Am{a c:Nat}(d:a<2^i)(e:a+c*2^i<18446744073709551616):xY (a:Int) ((c*2^i:Nat):Int)=((a+c*2^i:Nat):Int):=by
 unfold xY
 have b:(BitVec.ofInt 64 (a:Int)|||BitVec.ofInt 64 ((c*2^i:Nat):Int)).toNat=a+c*2^i:=by
  rw[BitVec.toNat_or,BitVec.ofInt_natCast,BitVec.ofInt_natCast,BitVec.toNat_ofNat,BitVec.toNat_ofNat,Nat.mod_eq_of_lt (by omega),Nat.mod_eq_of_lt (by omega)]
  have:=Nat.two_pow_add_eq_or_of_lt d c
  rw[Nat.mul_comm c,Nat.or_comm,<-this]
  omega
 rw[b,mV e]
theorem vP{a:Nat}(h:a*2^i<18446744073709551616)(b:i<=64):mA (a:Int) (i:Int)=((a*2^i:Nat):Int):=by
 unfold mA
 rw[Int.toNat_natCast,Nat.min_eq_left b]
 have:(a:Int)*2^i=((a*2^i:Nat):Int):=by simp
 rw[this,mV h]
theorem vO{a:Nat}(b:i<=64):nc (a:Int) (i:Int)=((a/2^i:Nat):Int):=by
 unfold nc
 rw[Int.toNat_natCast,Nat.min_eq_left b]
 have:((2:Int)^i)=((2^i:Nat):Int):=by simp
 rw[this,Int.fdiv_eq_ediv_of_nonneg _ (Int.natCast_nonneg _)]
 rfl
def val:List UInt8->Nat
 |[]=>0
 |b::l=>b.toNat+256*val l
theorem ug:∀l:List UInt8,val l<256^l.length
 |[]=>by simp[val]
 |b::l=>by
  have h:=ug l
  have a:b.toNat<256:=b.toNat_lt
  simp only[val,length_cons,Nat.pow_succ]
  omega
theorem na:∀(a b:List UInt8),val (a++b)=val a+256^a.length*val b
 |[],b=>by simp[val]
 |x::a,b=>by
  simp only[cons_append,val,length_cons,Nat.pow_succ]
  rw[na a b,Nat.mul_add,<-Nat.mul_assoc,Nat.mul_comm (256^a.length) 256]
  omega
theorem CV{l:List UInt8}(h:i<l.length):val (l.take (i+1))=val (l.take i)+l[i].toNat*2^(8*i):=by
 rw[take_succ_eq_append_getElem h,na]
 have:(l.take i).length=i:=by simp;omega
 rw[this]
 have e:(256:Nat)^i=2^(8*i):=by rw[Nat.pow_mul]
 simp only[val,Nat.mul_zero,Nat.add_zero]
 rw[e,Nat.mul_comm]
def EX(n:Nat):Nat->List UInt8
 |0=>[]
 |k+1=>UInt8.ofNat n::EX (n/256) k
theorem nu(n k:Nat):(EX n k).length=k:=by
 induction k generalizing n with
 |zero=>rfl
 |succ k a=>simp[EX,a]
abbrev Dg:=BA 8
def num(d:Dg):Nat:=val d.1
def frm(n:Nat):Dg:=⟨EX n 8,nu n 8⟩
theorem rk(d:Dg):num d<18446744073709551616:=by
 have:=ug d.1
 rw[d.2] at this
 exact this
structure Hs where
 a:Int
 b:Int
 c:Int
 d:Int
def uq(x k:Int):Int:=xY (mA x k) (nc x (64-k))
def H9(s:Hs)(i:Int):Hs:=
 let w0:=iZ (mH s.a s.b) i
 let w3:=uq (iZ s.d w0) 32
 let w2:=mH s.c w3
 let w1:=uq (iZ s.b w2) 24
 let w0:=mH w0 w1
 let w3:=uq (iZ w3 w0) 16
 let w2:=mH w2 w3
 let w1:=uq (iZ w1 w2) 63
 ⟨w0,w1,w2,w3⟩
def jW(s:Hs):Nat->Hs
 |0=>s
 |k+1=>H9 (jW s k) ((k+1:Nat):Int)
def Hu(s:Hs):Hs:=jW s 6
def dy(s:Hs)(n:Int):Hs:=Hu ⟨iZ s.a n,s.b,s.c,s.d⟩
def cL(k:Int):Hs:=⟨2611923443488327891,1376283091369227076,11820040416388919760,k⟩
def cV(s:Hs):Dg:=frm (iZ s.a s.c).toNat
def iy(s:Hs):List UInt8->Nat->Hs
 |_,0=>s
 |l,k+1=>iy (dy s (val (l.take 8):Int)) (l.drop 8) k
def dH(s:Hs)(l:List UInt8):Hs:=
 let s:=iy s l (l.length/8)
 let s:=dy s (val (l.drop (l.length/8*8)++[1]):Int)
 dy s (l.length:Int)
def mB(l:List UInt8):Dg:=cV (dH (cL 1) l)
def jR(a b:Dg):Dg:=cV (dy (dy (cL 3) (num a:Int)) (num b:Int))
def Vf(a:Dg):Dg:=cV (dy (cL 2) (num a:Int))
def pU(s:Hs):List Dg->Hs
 |[]=>s
 |d::l=>pU (dy s (num d:Int)) l
def tB(l:List Dg):Dg:=cV (dy (pU (cL 5) l) (l.length:Int))
theorem uD(s:Hs)(a b:List Dg):pU s (a++b)=pU (pU s a) b:=by
 induction a generalizing s with
 |nil=>rfl
 |cons x a c=>simp[pU,c]
def qT:Nat->Nat->List UInt8
 |0,n=>[UInt8.ofNat n]
 |f+1,n=>if n<128 then[UInt8.ofNat n] else UInt8.ofNat (128+n%128)::qT f (n/128)
def cU(n:Nat):List UInt8:=qT 10 n
theorem vX:∀f n,(qT f n).length<=f+1
 |0,n=>by simp[qT]
 |f+1,n=>by
  unfold qT
  split
  ·simp
  ·have:=vX f (n/128)
   simp
   omega
theorem Gl:Gm ((H2 (n:Int)).toNat:Int) 128=((UInt8.ofNat (128+n%128)).toNat:Int):=by
 rw[qp]
 have b:∀m:_root_.Fin 256,Gm (m.val:Int) 128=((128+m.val%128:Nat):Int):=by decide+kernel
 have a:(UInt8.ofNat n).toNat=n%256:=UInt8.toNat_ofNat' ..
 rw[a,UInt8.toNat_ofNat']
 have:=b ⟨n%256,Nat.mod_lt _ (by omega)⟩
 simp only at this
 rw[this]
 omega
end
section
variable{i:Nat}{D:Nat->Bool}{V:Nat->Value}
structure GD where
 X:Type
 x0:X
 val:X->Value
 phi:X->World->Prop
def GD.none:GD:=⟨Unit,(),fun _=>undef,fun _ _=>True⟩
def fc:List (Nat×GD)->Nat->Option GD
 |[],_=>Option.none
 |(j,d)::G,i=>bif Nat.beq j i then some d else fc G i
def cu(G:List (Nat×GD))(i:Nat):GD:=(fc G i).getD GD.none
def jd(G:List (Nat×GD))(i:Nat):Bool:=(fc G i).isSome
abbrev Fact:=Nat×(World->Prop)
def fS(ops:List Oper)(i:Nat)(Γ:List Fact)(w:World):Prop:=∀p∈Γ,kR ops i p.1=true->p.2 w
def Fo(S:List Nat×Nat)(w0:World)(G:List (Nat×GD))(i:Nat)(w w':World):Prop:=Kp [] w w'\/((i=S.2/\Kp S.1 w0 w'\/∀X,Kp X w0 w->Kp X w0 w')/\∀j x,j≠i->(cu G j).phi x w->(cu G j).phi x w')
section
variable (P:Program) (S:List Nat×Nat) (w0:World) (ops:List Oper) (G:List (Nat×GD)) (K:Env->List Fact->Prop)
def Live(D:Nat->Bool)(V:Nat->Value)(ξ:(i:Nat)->(cu G i).X):List Nat->Env->List Fact->Prop
 |[],L,Γ=>K L Γ
 |i::ord,L,Γ=>∃o,ops[i]?=some o/\
   ((jd G i=false/\((D i=true/\Live D V ξ ord (im o.dst (V i) L) Γ)\/
     (D i=false/\want ops L o=some false/\Live D V ξ ord (im o.dst undef L) Γ)\/
     (D i=false/\want ops L o=some true/\∃v,o.op.operands.toList.all (known L)=true/\(∀w,Kp S.1 w0 w->fS ops i Γ w->bD P (bH L) o w (fun v' w'=>v'=v/\Kp [] w w'))/\Live D V ξ ord (im o.dst v L) Γ)))\/
    (jd G i=true/\((D i=true/\Live D V ξ ord (im o.dst ((cu G i).val (ξ i)) L) ((i,(cu G i).phi (ξ i))::Γ))\/
     (D i=false/\want ops L o=some true/\o.op.operands.toList.all (known L)=true/\
      (∀w,Kp S.1 w0 w->(i=S.2->Kp [] w0 w)->fS ops i Γ w->bD P (bH L) o w (fun v w'=>∃x,v=(cu G i).val x/\(cu G i).phi x w'/\Fo S w0 G i w w'))/\
      ∀x,Live D V ξ ord (im o.dst ((cu G i).val x) L) ((i,(cu G i).phi x)::Γ))\/
     (D i=false/\want ops L o=some true/\o.op.operands.toList.all (known L)=true/\(∀p∈Γ,kR ops i p.1=true)/\∃x,
      (∀w,Kp S.1 w0 w->(i=S.2->Kp [] w0 w)->fS ops i Γ w->bD P (bH L) o w (fun v w'=>v=(cu G i).val x/\(cu G i).phi x w'/\Fo S w0 G i w w'))/\
      Live D V ξ ord (im o.dst ((cu G i).val x) L) ((i,(cu G i).phi x)::Γ)))))
def bG:List Nat->Env->List Fact->Prop:=Live P S w0 ops G K (fun _=>false) (fun _=>undef) (fun i=>(cu G i).x0)
end
section
variable {P:Program} {n:Nat} {ops:List Oper} {Q:Exit->Act->World->Prop} {S:List Nat×Nat} {w0:World} {L0:Env} {G:List (Nat×GD)} {K:Env->List Fact->Prop}
theorem Live.congr{D d:Nat->Bool}{V e:Nat->Value}{g k:(i:Nat)->(cu G i).X}:∀{c:List Nat} {L:Env} {f:List Fact},(∀i∈c,D i=d i/\V i=e i/\g i=k i)->Live P S w0 ops G K D V g c L f->Live P S w0 ops G K d e k c L f
 |[],_,_,_,h=>h
 |i::c,L,f,l,⟨o,r,h⟩=>by
  obtain⟨a,m,p⟩:=l i (by simp)
  have b:∀j∈c,D j=d j/\V j=e j/\g j=k j:=fun j q=>l j (by simp[q])
  refine⟨o,r,?_⟩
  rcases h with⟨hg,h⟩|⟨hg,h⟩
  ·refine Or.inl ⟨hg,?_⟩
   rcases h with⟨hd,h⟩|⟨hd,hw,h⟩|⟨hd,hw,v,hk,hc,h⟩
   ·exact Or.inl ⟨by rw[<-a];exact hd,by rw[<-m];exact Live.congr b h⟩
   ·exact Or.inr (Or.inl ⟨by rw[<-a];exact hd,hw,Live.congr b h⟩)
   ·exact Or.inr (Or.inr ⟨by rw[<-a];exact hd,hw,v,hk,hc,Live.congr b h⟩)
  ·refine Or.inr ⟨hg,?_⟩
   rcases h with⟨hd,h⟩|⟨hd,hw,hk,hc,h⟩|⟨hd,hw,hk,ha,x,hc,h⟩
   ·exact Or.inl ⟨by rw[<-a];exact hd,by rw[<-p];exact Live.congr b h⟩
   ·exact Or.inr (Or.inl ⟨by rw[<-a];exact hd,hw,hk,hc,fun x=>Live.congr b (h x)⟩)
   ·exact Or.inr (Or.inr ⟨by rw[<-a];exact hd,hw,hk,ha,x,hc,Live.congr b h⟩)
def je(G:List (Nat×GD))(V:Nat->Value)(ξ:(i:Nat)->(cu G i).X)(i:Nat):Value:=bif jd G i then(cu G i).val (ξ i) else V i
def Way(ops:List Oper)(G:List (Nat×GD))(L0:Env)(D:Nat->Bool)(V:Nat->Value)(ξ:(i:Nat)->(cu G i).X)(pre:List Nat)(L:Env):Prop:=
 ∀t v,look L t=some v->(∃j∈pre,dA ops j=some t/\(D j=true->v=je G V ξ j))\/((∀j∈pre,dA ops j≠some t)/\look L0 t=some v)
theorem Way.nil{a:(i:Nat)->(cu G i).X}:Way ops G L0 D V a [] L0:=fun t v h=>Or.inr ⟨by simp,h⟩
theorem Way.cons{c:(i:Nat)->(cu G i).X}{pre:List Nat}{L:Env}{o:Oper}{u:Value}(h:Way ops G L0 D V c pre L)(f:ops[i]?=some o)(hu:D i=true->u=je G V c i):Way ops G L0 D V c (i::pre) (im o.dst u L):=by
 intro t v b
 rw[pd] at b
 have d:dA ops i=o.dst:=by simp[dA,f]
 by_cases e:o.dst=some t
 ·rw[if_pos e] at b
  cases b
  exact Or.inl ⟨i,by simp,by rw[d,e],hu⟩
 ·rw[if_neg e] at b
  rcases h t v b with⟨j,a,h1,h2⟩|⟨h1,h2⟩
  ·exact Or.inl ⟨j,by simp[a],h1,h2⟩
  ·refine Or.inr ⟨fun j a=>?_,h2⟩
   rcases mem_cons.1 a with rfl|a
   ·rw[d];exact e
   ·exact h1 j a
def kV(V:Nat->Value)(i:Nat)(v:Value):Nat->Value:=fun j=>if j=i then v else V j
def nG(ξ:(i:Nat)->(cu G i).X)(i:Nat)(x:(cu G i).X):(j:Nat)->(cu G j).X:=fun j=>if h:j=i then h▸x else ξ j
theorem iB{a:(i:Nat)->(cu G i).X}{x:(cu G i).X}:nG a i x i=x:=by simp[nG]
theorem nF{a:(i:Nat)->(cu G i).X}{j:Nat}{x:(cu G i).X}(h:j≠i):nG a i x j=a j:=by simp[nG,h]
theorem Live.plain{D:Nat->Bool}{V:Nat->Value}{k:(i:Nat)->(cu G i).X}{r:Nat}(Z:jd G r=false)(W:D r=false){w:World}:∀{b pre:List Nat} {L:Env} {y:List Fact},b.Nodup->r∈b->
  (∀g A B,b=A++g::B->r∈B->jd G g=true->D g=true)->Way ops G L0 D V k pre L->(∀p∈y,D p.1=true->p.2 w)->(∀i,jd G i=true->D i=true->(cu G i).phi (k i) w)->Live P S w0 ops G K D V k b L y->
  ∃o a f A B,b=A++r::B/\ops[r]?=some o/\Way ops G L0 D V k (A.reverse++pre) a/\(∀p∈f,D p.1=true->p.2 w)/\
   ((want ops a o=some false/\Live P S w0 ops G K (fw D r) (kV V r undef) k b L y)\/
    (want ops a o=some true/\∃v,o.op.operands.toList.all (known a)=true/\(∀w,Kp S.1 w0 w->fS ops r f w->bD P (bH a) o w (fun F R=>F=v/\Kp [] w R))/\Live P S w0 ops G K (fw D r) (kV V r v) k b L y))
 |[],_,_,_,_,N,_,_,_,_,_=>by cases N
 |i::b,pre,L,y,hn,N,Y,E,C,ad,⟨o,c,h⟩=>by
  have ab:=nodup_cons.1 hn
  by_cases I:i=r
  ·subst I
   have J:∀j∈b,D j=fw D i j/\∀v,V j=kV V i v j:=fun j x=>by
    have ac:j≠i:=fun e=>ab.1 (e▸x)
    exact⟨(bL ac).symm,fun v=>by simp[kV,ac]⟩
   refine⟨o,L,y,[],b,rfl,c,by simpa using E,C,?_⟩
   rcases h with⟨hg,h⟩|⟨hg,h⟩
   ·rcases h with⟨hd,h⟩|⟨hd,hw,h⟩|⟨hd,hw,v,hk,hc,h⟩
    ·rw[W] at hd;cases hd
    ·refine Or.inl ⟨hw,o,c,Or.inl ⟨hg,Or.inl ⟨cW,?_⟩⟩⟩
     have e:kV V i undef i=undef:=by simp[kV]
     rw[e]
     exact Live.congr (fun j x=>⟨(J j x).1,(J j x).2 _,rfl⟩) h
    ·refine Or.inr ⟨hw,v,hk,hc,o,c,Or.inl ⟨hg,Or.inl ⟨cW,?_⟩⟩⟩
     have e:kV V i v i=v:=by simp[kV]
     rw[e]
     exact Live.congr (fun j x=>⟨(J j x).1,(J j x).2 _,rfl⟩) h
   ·rw[Z] at hg;cases hg
  ·have aa:r∈b:=by
    rcases mem_cons.1 N with h|h
    ·exact absurd h.symm I
    ·exact h
   have af:∀g A B,b=A++g::B->r∈B->jd G g=true->D g=true:=fun g A B e hb=>Y g (i::A) B (by rw[e];rfl) hb
   have M:∀{L1:Env} {H:List Fact},Way ops G L0 D V k (i::pre) L1->(∀p∈H,D p.1=true->p.2 w)->Live P S w0 ops G K D V k b L1 H->
     ∃d a f A B,i::b=A++r::B/\ops[r]?=some d/\Way ops G L0 D V k (A.reverse++pre) a/\(∀p∈f,D p.1=true->p.2 w)/\
      ((want ops a d=some false/\Live P S w0 ops G K (fw D r) (kV V r undef) k b L1 H)\/
       (want ops a d=some true/\∃v,d.op.operands.toList.all (known a)=true/\(∀w,Kp S.1 w0 w->fS ops r f w->bD P (bH a) d w (fun F R=>F=v/\Kp [] w R))/\Live P S w0 ops G K (fw D r) (kV V r v) k b L1 H)):=by
    intro L1 H ah ae h1
    obtain⟨d,a,f,A,B,l,m,q,s,t⟩:=Live.plain Z W ab.2 aa af ah ae ad h1
    exact⟨d,a,f,i::A,B,by rw[l];rfl,m,by simpa using q,s,t⟩
   have u:fw D r i=D i:=bL I
   have T:∀v,kV V r v i=V i:=fun v=>by simp[kV,I]
   rcases h with⟨hg,h⟩|⟨hg,h⟩
   ·rcases h with⟨hd,h⟩|⟨hd,hw,h⟩|⟨hd,hw,v,hk,hc,h⟩
    ·obtain⟨d,a,f,A,B,l,m,q,s,t⟩:=M (E.cons c (fun _=>by simp[je,hg])) C h
     refine⟨d,a,f,A,B,l,m,q,s,?_⟩
     rcases t with⟨f1,f2⟩|⟨f1,v,f2,f3,f4⟩
     ·exact Or.inl ⟨f1,o,c,Or.inl ⟨hg,Or.inl ⟨by rw[u];exact hd,by rw[T];exact f2⟩⟩⟩
     ·exact Or.inr ⟨f1,v,f2,f3,o,c,Or.inl ⟨hg,Or.inl ⟨by rw[u];exact hd,by rw[T];exact f4⟩⟩⟩
    ·obtain⟨d,a,f,A,B,l,m,q,s,t⟩:=M (E.cons c (fun z=>by rw[hd] at z;cases z)) C h
     refine⟨d,a,f,A,B,l,m,q,s,?_⟩
     rcases t with⟨f1,f2⟩|⟨f1,v,f2,f3,f4⟩
     ·exact Or.inl ⟨f1,o,c,Or.inl ⟨hg,Or.inr (Or.inl ⟨by rw[u];exact hd,hw,f2⟩)⟩⟩
     ·exact Or.inr ⟨f1,v,f2,f3,o,c,Or.inl ⟨hg,Or.inr (Or.inl ⟨by rw[u];exact hd,hw,f4⟩)⟩⟩
    ·obtain⟨d,a,f,A,B,l,m,q,s,t⟩:=M (E.cons c (fun z=>by rw[hd] at z;cases z)) C h
     refine⟨d,a,f,A,B,l,m,q,s,?_⟩
     rcases t with⟨f1,f2⟩|⟨f1,F,f2,f3,f4⟩
     ·exact Or.inl ⟨f1,o,c,Or.inl ⟨hg,Or.inr (Or.inr ⟨by rw[u];exact hd,hw,v,hk,hc,f2⟩)⟩⟩
     ·exact Or.inr ⟨f1,F,f2,f3,o,c,Or.inl ⟨hg,Or.inr (Or.inr ⟨by rw[u];exact hd,hw,v,hk,hc,f4⟩)⟩⟩
   ·have U:D i=true:=Y i [] b rfl aa hg
    rcases h with⟨hd,h⟩|⟨hd,_⟩|⟨hd,_⟩
    ·obtain⟨d,a,f,A,B,l,m,q,s,t⟩:=M (E.cons c (fun _=>by simp[je,hg])) (fun p O ag=>by
      rcases mem_cons.1 O with rfl|O
      ·exact ad i hg hd
      ·exact C p O ag) h
     refine⟨d,a,f,A,B,l,m,q,s,?_⟩
     rcases t with⟨f1,f2⟩|⟨f1,v,f2,f3,f4⟩
     ·exact Or.inl ⟨f1,o,c,Or.inr ⟨hg,Or.inl ⟨by rw[u];exact hd,f2⟩⟩⟩
     ·exact Or.inr ⟨f1,v,f2,f3,o,c,Or.inr ⟨hg,Or.inl ⟨by rw[u];exact hd,f4⟩⟩⟩
    ·rw[U] at hd;cases hd
    ·rw[U] at hd;cases hd
def AW(P:Program)(S:List Nat×Nat)(w0:World)(ops:List Oper)(G:List (Nat×GD))(K:Env->List Fact->Prop)(D:Nat->Bool)(V:Nat->Value)(ξ:(i:Nat)->(cu G i).X)(r:Nat)(o:Oper)(L':Env)(Γ':List Fact)(ord:List Nat)(L:Env)(Γ:List Fact):Prop:=
 ((∀w,Kp S.1 w0 w->(r=S.2->Kp [] w0 w)->fS ops r Γ' w->bD P (bH L') o w (fun v w'=>∃x,v=(cu G r).val x/\(cu G r).phi x w'/\Fo S w0 G r w w'))/\∀x,Live P S w0 ops G K (fw D r) V (nG ξ r x) ord L Γ)\/
 ((∀p∈Γ,D p.1=true)/\∃x,(∀w,Kp S.1 w0 w->(r=S.2->Kp [] w0 w)->fS ops r Γ' w->bD P (bH L') o w (fun v w'=>v=(cu G r).val x/\(cu G r).phi x w'/\Fo S w0 G r w w'))/\Live P S w0 ops G K (fw D r) V (nG ξ r x) ord L Γ)
theorem Live.effect{D:Nat->Bool}{V:Nat->Value}{e:(i:Nat)->(cu G i).X}{r:Nat}(aa:jd G r=true)(Y:D r=false)(U:∀j,kR ops r j=true->D j=true){w:World}(ad:∀i,jd G i=true->D i=true->(cu G i).phi (e i) w):∀{d pre:List Nat} {L:Env} {E:List Fact},d.Nodup->r∈d->
  Way ops G L0 D V e pre L->(∀p∈E,D p.1=true->p.2 w)->Live P S w0 ops G K D V e d L E->
  ∃o a c A B,d=A++r::B/\ops[r]?=some o/\Way ops G L0 D V e (A.reverse++pre) a/\(∀p∈c,D p.1=true->p.2 w)/\want ops a o=some true/\o.op.operands.toList.all (known a)=true/\AW P S w0 ops G K D V e r o a c d L E
 |[],_,_,_,_,T,_,_,_=>by cases T
 |i::d,pre,L,E,hn,T,H,J,⟨o,f,h⟩=>by
  have ab:=nodup_cons.1 hn
  by_cases R:i=r
  ·subst R
   have W:∀(x:(cu G i).X) {L1:Env} {z:List Fact},Live P S w0 ops G K D V e d L1 z->Live P S w0 ops G K (fw D i) V (nG e i x) d L1 z:=fun x {L1 z} F=>Live.congr (fun j hj=>by
    have ac:j≠i:=fun af=>ab.1 (af▸hj)
    exact⟨(bL ac).symm,rfl,(nF ac).symm⟩) F
   rcases h with⟨hg,h⟩|⟨hg,h⟩
   ·rw[aa] at hg;cases hg
   ·rcases h with⟨hd,h⟩|⟨hd,hw,hk,hc,h⟩|⟨hd,hw,hk,ha,x,hc,h⟩
    ·rw[Y] at hd;cases hd
    ·refine⟨o,L,E,[],d,rfl,f,by simpa using H,J,hw,hk,Or.inl ⟨hc,fun x=>⟨o,f,Or.inr ⟨hg,Or.inl ⟨cW,?_⟩⟩⟩⟩⟩
     rw[iB]
     exact W x (h x)
    ·refine⟨o,L,E,[],d,rfl,f,by simpa using H,J,hw,hk,Or.inr ⟨fun p b=>U p.1 (ha p b),x,hc,⟨o,f,Or.inr ⟨hg,Or.inl ⟨cW,?_⟩⟩⟩⟩⟩
     rw[iB]
     exact W x h
  ·have ah:r∈d:=by
    rcases mem_cons.1 T with h|h
    ·exact absurd h.symm R
    ·exact h
   have N:fw D r i=D i:=bL R
   have eX:∀x,nG e r x i=e i:=fun x=>nF R
   have M:∀{L1:Env} {z:List Fact},Way ops G L0 D V e (i::pre) L1->(∀p∈z,D p.1=true->p.2 w)->Live P S w0 ops G K D V e d L1 z->
     ∃o a c A B,i::d=A++r::B/\ops[r]?=some o/\Way ops G L0 D V e (A.reverse++pre) a/\(∀p∈c,D p.1=true->p.2 w)/\want ops a o=some true/\o.op.operands.toList.all (known a)=true/\AW P S w0 ops G K D V e r o a c d L1 z:=by
    intro L1 z ai ag F
    obtain⟨o',a,c,A,B,k,l,m,q,s,t,g⟩:=Live.effect aa Y U ad ab.2 ah ai ag F
    exact⟨o',a,c,i::A,B,by rw[k];rfl,l,by simpa using m,q,s,t,g⟩
   have O:∀{L1:Env} {z:List Fact} {o':Oper} {a:Env} {c:List Fact},(∀p∈E,p∈z)->(∀x,Live P S w0 ops G K (fw D r) V (nG e r x) d L1 z->Live P S w0 ops G K (fw D r) V (nG e r x) (i::d) L E)->AW P S w0 ops G K D V e r o' a c d L1 z->AW P S w0 ops G K D V e r o' a c (i::d) L E:=by
    intro L1 z o' a c hs hl he
    rcases he with⟨F,h2⟩|⟨F,x,h2,h3⟩
    ·exact Or.inl ⟨F,fun x=>hl x (h2 x)⟩
    ·exact Or.inr ⟨fun p b=>F p (hs p b),x,h2,hl x h3⟩
   rcases h with⟨hg,h⟩|⟨hg,h⟩
   ·rcases h with⟨hd,h⟩|⟨hd,hw,h⟩|⟨hd,hw,v,hk,hc,h⟩
    ·obtain⟨o',a,c,A,B,k,l,m,q,s,t,g⟩:=M (H.cons f (fun _=>by simp[je,hg])) J h
     exact⟨o',a,c,A,B,k,l,m,q,s,t,O (fun p b=>b) (fun x I=>⟨o,f,Or.inl ⟨hg,Or.inl ⟨by rw[N];exact hd,I⟩⟩⟩) g⟩
    ·obtain⟨o',a,c,A,B,k,l,m,q,s,t,g⟩:=M (H.cons f (fun u=>by rw[hd] at u;cases u)) J h
     exact⟨o',a,c,A,B,k,l,m,q,s,t,O (fun p b=>b) (fun x I=>⟨o,f,Or.inl ⟨hg,Or.inr (Or.inl ⟨by rw[N];exact hd,hw,I⟩)⟩⟩) g⟩
    ·obtain⟨o',a,c,A,B,k,l,m,q,s,t,g⟩:=M (H.cons f (fun u=>by rw[hd] at u;cases u)) J h
     exact⟨o',a,c,A,B,k,l,m,q,s,t,O (fun p b=>b) (fun x I=>⟨o,f,Or.inl ⟨hg,Or.inr (Or.inr ⟨by rw[N];exact hd,hw,v,hk,hc,I⟩)⟩⟩) g⟩
   ·rcases h with⟨hd,h⟩|⟨hd,hw,hk,hc,h⟩|⟨hd,hw,hk,ha,y,hc,h⟩
    ·obtain⟨o',a,c,A,B,k,l,m,q,s,t,g⟩:=M (H.cons f (fun _=>by simp[je,hg])) (fun p b C=>by
      rcases mem_cons.1 b with rfl|b
      ·exact ad i hg hd
      ·exact J p b C) h
     exact⟨o',a,c,A,B,k,l,m,q,s,t,O (fun p b=>mem_cons_of_mem _ b) (fun x I=>⟨o,f,Or.inr ⟨hg,Or.inl ⟨by rw[N];exact hd,by rw[eX];exact I⟩⟩⟩) g⟩
    ·have Z:∀(y:(cu G i).X),∀p∈((i,(cu G i).phi y)::E:List Fact),D p.1=true->p.2 w:=fun y p b C=>by
      rcases mem_cons.1 b with rfl|b
      ·simp only at C;rw[hd] at C;cases C
      ·exact J p b C
     have ae:∀y,∀x,Live P S w0 ops G K (fw D r) V (nG e r x) d (im o.dst ((cu G i).val y) L) ((i,(cu G i).phi y)::E):=fun y=>by
      obtain⟨o',a,c,A,B,k,l,m,q,s,t,g⟩:=M (H.cons f (fun u=>by rw[hd] at u;cases u)) (Z y) (h y)
      rcases g with⟨_,h2⟩|⟨F,_⟩
      ·exact h2
      ·have:=F _ mem_cons_self
       simp only at this
       rw[hd] at this
       cases this
     obtain⟨o',a,c,A,B,k,l,m,q,s,t,g⟩:=M (H.cons f (fun u=>by rw[hd] at u;cases u)) (Z (cu G i).x0) (h (cu G i).x0)
     exact⟨o',a,c,A,B,k,l,m,q,s,t,O (fun p b=>mem_cons_of_mem _ b) (fun x _=>⟨o,f,Or.inr ⟨hg,Or.inr (Or.inl ⟨by rw[N];exact hd,hw,hk,hc,fun y=>ae y x⟩)⟩⟩) g⟩
    ·obtain⟨o',a,c,A,B,k,l,m,q,s,t,g⟩:=M (H.cons f (fun u=>by rw[hd] at u;cases u)) (fun p b C=>by
      rcases mem_cons.1 b with rfl|b
      ·simp only at C;rw[hd] at C;cases C
      ·exact J p b C) h
     exact⟨o',a,c,A,B,k,l,m,q,s,t,O (fun p b=>mem_cons_of_mem _ b) (fun x I=>⟨o,f,Or.inr ⟨hg,Or.inr (Or.inr ⟨by rw[N];exact hd,hw,hk,ha,y,hc,I⟩)⟩⟩) g⟩
theorem Live.done{D:Nat->Bool}{V:Nat->Value}{k:(i:Nat)->(cu G i).X}{w:World}(s:∀i,jd G i=true->D i=true->(cu G i).phi (k i) w):∀{c pre:List Nat} {L:Env} {d:List Fact},(∀i∈c,D i=true)->Way ops G L0 D V k pre L->(∀p∈d,p.2 w)->Live P S w0 ops G K D V k c L d->
  ∃a b,Way ops G L0 D V k (c.reverse++pre) a/\(∀p∈b,p.2 w)/\K a b
 |[],pre,L,d,_,g,f,h=>⟨L,d,by simpa using g,f,h⟩
 |i::c,pre,L,d,t,g,f,⟨o,v,h⟩=>by
  have e:=t i (by simp)
  have u:∀j∈c,D j=true:=fun j x=>t j (by simp[x])
  rcases h with⟨hg,h⟩|⟨hg,h⟩
  ·rcases h with⟨hd,h⟩|⟨hd,_⟩|⟨hd,_⟩
   ·obtain⟨a,b,l,m,q⟩:=Live.done s u (g.cons v (fun _=>by simp[je,hg])) f h
    exact⟨a,b,by simpa using l,m,q⟩
   ·rw[e] at hd;cases hd
   ·rw[e] at hd;cases hd
  ·rcases h with⟨hd,h⟩|⟨hd,_⟩|⟨hd,_⟩
   ·obtain⟨a,b,l,m,q⟩:=Live.done s u (g.cons v (fun _=>by simp[je,hg])) (fun p r=>by
     rcases mem_cons.1 r with rfl|r
     ·exact s i hg hd
     ·exact f p r) h
    exact⟨a,b,by simpa using l,m,q⟩
   ·rw[e] at hd;cases hd
   ·rw[e] at hd;cases hd
end
end
section
variable{a:Act}{K:Env->List Fact->Prop}{i id r:Nat}{D:Nat->Bool}{V:Nat->Value}{o:Oper}{v:Value}{w:World}
def DI(ops:List Oper)(gi:List Nat):List Nat->List Nat->Bool
 |_,[]=>true
 |pre,i::rest=>
  ((ops[i]?).map fun o=>(xj ops o).all fun t=>pre.all (fun j=> !(dA ops j==some t)||kR ops i j)&&rest.all (fun j=> !(dA ops j==some t)||kR ops j i)).getD false&&
  (!gi.elem i||rest.all (fun j=>gi.elem j||kR ops j i))&&DI ops gi (i::pre) rest
def GZ(n:Nat)(ops:List Oper)(ord gi:List Nat)(k:Nat):Bool:=
 ops.all (fun o=> !fm o.op)&&ops.all (fun o=>o.dst.all (fun d=>Nat.blt d n))&&jt (ops.filterMap (·.dst))&&
 (range k).all (fun i=>ord.elem i)&&jt ord&&DI ops gi [] ord&&ord.all (fun i=>Nat.blt i k)&&Nat.ble k ops.length&&
 ((range ops.length).all fun i=>((ops[i]?).map fun o=>(eE o).all (fun e=>Nat.blt e i)).getD false)&&
 ((range ops.length).all fun i=>Nat.blt i k||(range i).all (fun j=>kR ops i j))&&gi.all (fun i=>ord.elem i)
section
variable {P:Program} {n:Nat} {ops:List Oper} {Q:Exit->Act->World->Prop} {S:List Nat×Nat} {w0:World} {L0:Env} {G:List (Nat×GD)} {ord gi:List Nat} {k:Nat}
theorem o0:∀(l pre:List Nat),DI ops gi pre l=true->∀A r B,l=A++r::B->∀o,ops[r]?=some o->
  (∀t∈xj ops o,(∀j,j∈A\/j∈pre->dA ops j=some t->kR ops r j=true)/\(∀j∈B,dA ops j=some t->kR ops j r=true))/\(gi.elem r=true->∀j∈B,gi.elem j=true\/kR ops j r=true)
 |[],_,_,A,r,B,h,_,_=>by cases A<;>simp at h
 |i::l,pre,h,A,r,B,d,o,p=>by
  simp only[DI,Bool.and_eq_true] at h
  obtain⟨⟨f,g⟩,s⟩:=h
  cases A with
  |nil=>
   simp only[nil_append,List.cons.injEq] at d
   obtain⟨rfl,rfl⟩:=d
   rw[p] at f
   simp only[Option.map_some,Option.getD_some] at f
   refine⟨fun t e=>?_,fun u j b=>?_⟩
   ·have:=all_eq_true.1 f t e
    simp only[Bool.and_eq_true] at this
    refine⟨fun j b c=>?_,fun j b c=>?_⟩
    ·rcases b with b|b
     ·cases b
     ·have:=all_eq_true.1 this.1 j b
      simpa[c] using this
    ·have:=all_eq_true.1 this.2 j b
     simpa[c] using this
   ·rw[u] at g
    simp only[Bool.not_true,Bool.false_or] at g
    have:=all_eq_true.1 g j b
    simpa using this
  |cons a A=>
   simp only[cons_append,List.cons.injEq] at d
   obtain⟨rfl,rfl⟩:=d
   obtain⟨m,q⟩:=o0 _ (i::pre) s A r B rfl o p
   refine⟨fun t e=>⟨fun j b c=>(m t e).1 j ?_ c,(m t e).2⟩,q⟩
   rcases b with b|b
   ·rcases mem_cons.1 b with rfl|b
    ·exact Or.inr (by simp)
    ·exact Or.inl b
   ·exact Or.inr (by simp[b])
structure Cl(n:Nat)(ops:List Oper)(ord gi:List Nat)(k:Nat):Prop where
 sel:∀o∈ops,fm o.op=false
 dlt:∀o∈ops,∀d,o.dst=some d->d<n
 one:∀(i j:Nat) (oi oj:Oper) (t:Nat),ops[i]?=some oi->ops[j]?=some oj->oi.dst=some t->oj.dst=some t->i=j
 cover:∀i,i<k->i∈ord
 nodup:ord.Nodup
 ok:DI ops gi [] ord=true
 lt:∀i∈ord,i<k
 le:k<=ops.length
 ed:∀(i:Nat) (o:Oper),ops[i]?=some o->∀e∈eE o,e<i
 tl:∀i,i<ops.length->k<=i->∀j,j<i->kR ops i j=true
 gi:∀i∈gi,i∈ord
theorem Cl.of(h:GZ n ops ord gi k=true):Cl n ops ord gi k:=by
 simp only[GZ,Bool.and_eq_true] at h
 obtain⟨⟨⟨⟨⟨⟨⟨⟨⟨⟨c,l⟩,m⟩,p⟩,q⟩,r⟩,s⟩,t⟩,u⟩,f⟩,g⟩:=h
 refine⟨fun o b=>?_,fun o b d v=>?_,eH ops (fk _ m),fun i a=>?_,fk _ q,r,fun i a=>?_,by simpa[Nat.ble_eq] using t,fun i o b e w=>?_,fun i a y j x=>?_,fun i a=>?_⟩
 ·simpa using all_eq_true.1 c o b
 ·have:=all_eq_true.1 l o b
  rw[v] at this
  simpa[Nat.blt_eq] using this
 ·have:=all_eq_true.1 p i (by simpa using a)
  rw[elem_eq_mem] at this
  exact of_decide_eq_true this
 ·simpa[Nat.blt_eq] using all_eq_true.1 s i a
 ·have:=all_eq_true.1 u i (by simpa using(List.getElem?_eq_some_iff.1 b).1)
  rw[b] at this
  simp only[Option.map_some,Option.getD_some] at this
  simpa[Nat.blt_eq] using all_eq_true.1 this e w
 ·have:=all_eq_true.1 f i (by simpa using a)
  simp only[Bool.or_eq_true,Nat.blt_eq] at this
  rcases this with h|h
  ·omega
  ·exact all_eq_true.1 h j (by simpa using x)
 ·have:=all_eq_true.1 g i a
  rw[elem_eq_mem] at this
  exact of_decide_eq_true this
theorem ou:∀{G:List (Nat×GD)} {i:Nat},jd G i=(G.map (·.1)).elem i
 |[],i=>rfl
 |(j,d)::G,i=>by
  have c:=ou (G:=G) (i:=i)
  unfold jd at*
  simp only[fc,map_cons,elem_cons]
  by_cases e:j=i
  ·subst e;simp
  ·have a:Nat.beq j i=false:=by rw[<-Bool.not_eq_true,Nat.beq_eq];exact e
   have b:(i==j)=false:=by simp;exact fun h=>e h.symm
   rw[a,b]
   simpa using c
structure Hm(P:Program)(n:Nat)(ops:List Oper)(S:List Nat×Nat)(w0:World)(L0:Env)(G:List (Nat×GD))(K:Env->List Fact->Prop)(ord:List Nat)(D:Nat->Bool)(V:Nat->Value)(ξ:(i:Nat)->(cu G i).X)(a:Act)(w:World):Prop where
 closed:∀(i:Nat) (o:Oper),ops[i]?=some o->D i=true->∀e∈eE o,D e=true
 size:a.tmps.size=n
 defers:a.defers=[]
 slot:∀(i:Nat) (o:Oper) (d:Nat),ops[i]?=some o->D i=true->o.dst=some d->a.tmps[d]?=some (je G V ξ i)
 old:∀t v,look L0 t=some v->(∀(i:Nat) (o:Oper),ops[i]?=some o->D i=true->o.dst≠some t)->a.tmps[t]?=some v
 kp:Kp S.1 w0 w
 k0:D S.2=false->Kp [] w0 w
 ph:∀i,jd G i=true->D i=true->(cu G i).phi (ξ i) w
 live:Live P S w0 ops G K D V ξ ord L0 []
theorem Hm.looks{C:(i:Nat)->(cu G i).X}(c:Cl n ops ord gi k)(f:Hm P n ops S w0 L0 G K ord D V C a w)(N:∀i,i<ops.length->k<=i->D i=false)
    {A B:List Nat} {l:Env} (u:ord=A++r::B) (M:ops[r]?=some o) (s:D r=false) (H:∀j,kR ops r j=true->D j=true) (R:Way ops G L0 D V C (A.reverse++[]) l):
  ∀t∈xj ops o,∀v,look l t=some v->a.tmps[t]?=some v:=by
 intro t y v O
 obtain⟨m,_⟩:=o0 ord [] c.ok A r B u o M
 rcases R t v O with⟨j,hj,h1,h2⟩|⟨h1,h2⟩
 ·have L:j∈A:=by simpa using hj
  have q:=H j ((m t y).1 j (Or.inl L) h1)
  unfold dA at h1
  cases hoj:ops[j]? with
  |none=>rw[hoj] at h1;simp at h1
  |some T=>
   rw[hoj] at h1
   simp only[Option.bind_some] at h1
   rw[f.slot j T t hoj q h1,h2 q]
 ·refine f.old t v h2 (fun i z d b e=>?_)
  have J:=(List.getElem?_eq_some_iff.1 d).1
  have I:i<k:=by
   by_cases h:i<k
   ·exact h
   ·rw[N i J (by omega)] at b;cases b
  have x:=c.cover i I
  have p:dA ops i=some t:=by simp[dA,d,e]
  rw[u] at x
  rcases mem_append.1 x with F|g
  ·exact h1 i (by simpa using F) p
  ·rcases mem_cons.1 g with rfl|g
   ·rw[s] at b;cases b
   ·have E:=(m t y).2 i g p
    have:=fp f.closed i z d (f.closed i z d b) r E
    rw[s] at this
    cases this
theorem tI{a:(i:Nat)->(cu G i).X}(h:i≠r):je G (kV V r v) a i=je G V a i:=by simp[je,kV,h]
theorem tH{a:(i:Nat)->(cu G i).X}{x:(cu G r).X}(h:i≠r):je G V (nG a r x) i=je G V a i:=by simp[je,nF h]
theorem vW{n:Nat}{b:Option Nat}(f:a.tmps.size=n)(t:Nat)(u:Value)(h:a.tmps[t]?=some u)(c:b≠some t):(a.put b v).tmps[t]?=some u:=by
 cases b with
 |none=>exact h
 |some d=>
  have:d≠t:=fun e=>c (by rw[e])
  simp only[Act.put]
  rw[Array.getElem?_setIfInBounds_ne this]
  exact h
theorem Dz{n d:Nat}(c:a.tmps.size=n)(b:d<n):(a.put (some d) v).tmps[d]?=some v:=by simp[Act.put,c,b]
theorem Hm.did{y:Nat->Value}{C q:(i:Nat)->(cu G i).X}{z:World}(c:Cl n ops ord gi k)(f:Hm P n ops S w0 L0 G K ord D V C a w)(s:ops[r]?=some o)(I:∀e∈eE o,D e=true)
  (B:Fo S w0 G r w z) (N:∀i x,cH [] ((cu G i).phi x)) (R:je G y q r=v) (L:∀i,i≠r->je G y q i=je G V C i) (T:∀i,i≠r->q i=C i) (M:jd G r=true->(cu G r).phi (q r) z) (J:Live P S w0 ops G K (fw D r) y q ord L0 []):
  Hm P n ops S w0 L0 G K ord (fw D r) y q (a.put o.dst v) z:=by
 refine⟨fun i p l j e F=>?_,?_,?_,fun i p d l j m=>?_,fun t u O H=>?_,(B.elim (fun h=>f.kp.trans h.any) (fun h=>h.1.elim (fun g=>g.2) (fun g=>g _ f.kp))),(fun m=>?_),fun i A j=>?_,J⟩
 ·by_cases b:i=r
  ·subst b
   rw[s] at l
   cases l
   exact jV (I e F)
  ·rw[bL b] at j
   exact jV (f.closed i p l j e F)
 ·cases hdd:o.dst with
  |none=>exact f.size
  |some d=>simp[Act.put,f.size]
 ·cases hdd:o.dst<;>exact f.defers
 ·by_cases b:i=r
  ·subst b
   rw[s] at l
   cases l
   rw[m,R]
   exact Dz f.size (c.dlt o (mem_of_getElem? s) d m)
  ·rw[bL b] at j
   rw[L i b]
   exact vW f.size d _ (f.slot i p d l j m) (fun e=>b (c.one i r p o d l s m e))
 ·refine vW f.size t u (f.old t u O (fun i p l j=>H i p l (jV j))) (H r o s cW)
 ·by_cases b:S.2=r
  ·rw[b,cW] at m
   cases m
  ·rw[bL b] at m
   have E:=f.k0 m
   rcases B with h|⟨⟨h,-⟩|h,-⟩
   ·exact E.trans h
   ·exact absurd h.symm b
   ·exact h [] E
 ·by_cases b:i=r
  ·subst b
   exact M A
  ·rw[bL b] at j
   rw[T i b]
   exact B.elim (fun h=>N i _ w z h (f.ph i A j)) (fun h=>h.2 i _ b (f.ph i A j))
def KX(n:Nat)(S:List Nat×Nat)(w0:World)(P:Program)(ops:List Oper)(Q:Exit->Act->World->Prop)(k:Nat)(L:Env)(Γ:List Fact):Prop:=
 ∀w',Kp S.1 w0 w'->(∀p∈Γ,p.2 w')->∀a,Fits n a L->wpList P ops.toArray Q (ops.drop k) a w'
theorem Hm.wpAny(c:Cl n ops ord (G.map (·.1)) k)(ad:∀i x,cH [] ((cu G i).phi x)):∀(v:Nat) (b:Array Bool) (V:Nat->Value) (r:(i:Nat)->(cu G i).X) (a:Act) (w:World),
  b.size=ops.length->Hm P n ops S w0 L0 G (KX n S w0 P ops Q k) ord (fun j=>b.getD j true) V r a w->(∀i,i<ops.length->k<=i->b.getD i true=false)->
  (range ops.length).countP (fun i=> !b.getD i true)=v->Go.wpAny P .any ops.toArray Q v b a w:=by
 have aq:∀(b:Array Bool) (V:Nat->Value) (r:(i:Nat)->(cu G i).X) (a:Act) (w:World),Hm P n ops S w0 L0 G (KX n S w0 P ops Q k) ord (fun j=>b.getD j true) V r a w->(∀i,i<ops.length->k<=i->b.getD i true=false)->(∀i,i<k->b.getD i true=true)->wpList P ops.toArray Q (ops.drop k) a w:=by
  intro b V r a w d s H
  obtain⟨L',Γ',t,u,M⟩:=Live.done (L0:=L0) (pre:=[]) d.ph (fun i m=>H i (c.lt i m)) Way.nil (by simp) d.live
  refine M w d.kp u a ⟨fun ak al hv=>?_,d.size,d.defers⟩
  rcases t ak al hv with⟨j,f,g1,L⟩|⟨g1,L⟩
  ·have aD:j∈ord:=by simpa using f
   have ap:=H j (c.lt j aD)
   unfold dA at g1
   cases hoj:ops[j]? with
   |none=>rw[hoj] at g1;simp at g1
   |some oj=>
    rw[hoj] at g1
    simp only[Option.bind_some] at g1
    rw[d.slot j oj ak hoj ap g1,L ap]
  ·refine d.old ak al L (fun i oi av ao e=>?_)
   have aa:=(List.getElem?_eq_some_iff.1 av).1
   have z:i<k:=by
    by_cases h:i<k
    ·exact h
    ·simp only[s i aa (by omega)] at ao;cases ao
   exact g1 i (by simpa using c.cover i z) (by simp[dA,av,e])
 intro v
 induction v with
 |zero=>
  intro b V r a w K d s ah
  rw[countP_eq_zero] at ah
  have ag:∀i,i<ops.length->b.getD i true=true:=fun i m=>by simpa using ah i (by simpa using m)
  have au:=c.le
  have hk:k=ops.length:=by
   by_cases h:k<ops.length
   ·have:=s k h (Nat.le_refl _)
    rw[ag k h] at this
    cases this
   ·omega
  exact jO c.ed 0 k b a w (by omega) K c.tl d.closed (fun i m=>by rw[ag i m];simp;omega) (aq b V r a w d s (fun i m=>ag i (by omega)))
 |succ v ih=>
  intro b V r a w K d s ah
  have au:=c.le
  by_cases H:∀i,i<k->b.getD i true=true
  ·have an:∀i,i<ops.length->b.getD i true=decide (i<k):=by
    intro i m
    by_cases z:i<k
    ·rw[H i z];simp[z]
    ·rw[s i m (by omega)];simp[z]
   have hm:k+(v+1)=ops.length:=by
    have:(range ops.length).countP (fun i=> !b.getD i true)=ops.length-k:=by
     have C:(range ops.length).countP (fun i=> !b.getD i true)=(range ops.length).countP (fun i=> !decide (i<k)):=by
      apply countP_congr
      intro i m
      rw[an i (by simpa using m)]
     rw[C]
     have:ops.length=k+(ops.length-k):=by omega
     rw[this,range_add,countP_append,countP_map]
     have t:(range k).countP (fun i=> !decide (i<k))=0:=by
      rw[countP_eq_zero];intro i m;simp at m;simp[m]
     have u:(range (ops.length-k)).countP ((fun i=> !decide (i<k))∘fun x=>k+x)=(range (ops.length-k)).length:=by
      rw[countP_eq_length];intro i m;simp
     rw[t,u]
     simp
    omega
   exact jO c.ed (v+1) k b a w hm K c.tl d.closed an (aq b V r a w d s H)
  ·constructor
   ·intro I
    exfalso
    apply H
    intro i
    induction i using Nat.strongRecOn with
    |_ i aH=>
     intro z
     cases hd:b.getD i true with
     |true=>rfl
     |false=>
      exfalso
      have:i∈Region.ready .any ops.toArray b:=by
       refine(eY K).2 ⟨ops[i],by simp,hd,fun e J=>?_⟩
       have ay:=c.ed i ops[i] (by simp) e J
       have:=aH e ay (by omega)
       simp only[Array.getD_eq_getD_getElem?] at this⊢
       rw[Array.getElem?_eq_getElem (by omega)] at this⊢
       exact this
      rw[I] at this
      cases this
   ·intro i m
    obtain⟨o,q,F,ax⟩:=(eY K).1 m
    have aa:i<ops.length:=(List.getElem?_eq_some_iff.1 q).1
    have O:∀e∈eE o,b.getD e true=true:=by
     intro e J
     have:=ax e J
     simp only[Array.getD_eq_getD_getElem?] at this⊢
     cases h:b[e]? with
     |none=>rfl
     |some aK=>rw[h] at this;exact this
    have y:∀j,kR ops i j=true->b.getD j true=true:=fp d.closed i o q O
    have ae:(b.setIfInBounds i true).size=ops.length:=by simp[K]
    have ac:(fun j=>(b.setIfInBounds i true).getD j true)=fw (fun j=>b.getD j true) i:=funext fun j=>dN (by omega)
    by_cases z:i<k
    ·have af:∀j,j<ops.length->k<=j->(b.setIfInBounds i true).getD j true=false:=by
      intro j f aE
      rw[dN (by omega),bL (by omega)]
      exact s j f aE
     have Z:(range ops.length).countP (fun j=> !(b.setIfInBounds i true).getD j true)=v:=by
      have aJ:∀(l:List Nat),l.Nodup->i∈l->l.countP (fun j=> !b.getD j true)=l.countP (fun j=> !(b.setIfInBounds i true).getD j true)+1:=by
       intro l
       induction l with
       |nil=>intro _ h;cases h
       |cons am l aI=>
        intro aj hm
        rw[nodup_cons] at aj
        rw[countP_cons,countP_cons]
        by_cases e:am=i
        ·subst e
         have aG:l.countP (fun j=> !b.getD j true)=l.countP (fun j=> !(b.setIfInBounds am true).getD j true):=by
          apply countP_congr
          intro j f
          rw[dN (by omega),bL (show j≠am from fun C=>aj.1 (C▸f))]
         rw[aG,dN (by omega),cW,F]
         simp
        ·have aF:i∈l:=by
          rcases mem_cons.1 hm with h|h
          ·exact absurd h.symm e
          ·exact h
         rw[aI aj.2 aF,dN (by omega),bL e]
         omega
      have:=aJ (range ops.length) nodup_range (by simpa using aa)
      omega
     have ar:=c.cover i z
     cases hg:jd G i with
     |false=>
      have az:∀g A B,ord=A++g::B->i∈B->jd G g=true->b.getD g true=true:=by
       intro g A B J hb aA
       have aC:g∈ord:=by rw[J];simp
       have aB:g<ops.length:=Nat.lt_of_lt_of_le (c.lt g aC) au
       obtain⟨_,L⟩:=o0 ord [] c.ok A g B J ops[g] (by simp[aB])
       rcases L (by rw[<-ou];exact aA) i hb with h|h
       ·rw[<-ou,hg] at h;cases h
       ·exact y g h
      obtain⟨o',L',Γ',A,B,C,e2,e3,Y,e5⟩:=Live.plain (D:=fun j=>b.getD j true) hg F c.nodup ar az Way.nil (by simp) d.ph d.live
      have ai:o=o':=Option.some.inj (q.symm.trans e2)
      subst ai
      have E:=d.looks c s C q F y e3
      rcases e5 with⟨U,hl⟩|⟨U,al,ab,hrun,hl⟩
      ·refine fu q (dx E U) (fun h=>by cases h) (fun _=>?_)
       refine ih _ (kV V i undef) r _ w ae ?_ af Z
       rw[ac]
       exact d.did c q O (Or.inl (Kp.refl _ _)) ad (by simp[je,hg,kV]) (fun j f=>tI f) (fun j f=>rfl) (fun h=>by rw[hg] at h;cases h) hl
      ·refine fu q (dx E U) (fun _=>?_) (fun h=>by cases h)
       have I:=hrun w d.kp (fun p R N=>Y p R (y p.1 N))
       have T:=bD.congr (c.sel o (mem_of_getElem? q)) (fZ E ab) I
       refine T.wp (fun v' W ⟨t,u⟩=>?_)
       subst t
       refine ih _ (kV V i v') r _ W ae ?_ af Z
       rw[ac]
       exact d.did c q O (Or.inl u) ad (by simp[je,hg,kV]) (fun j f=>tI f) (fun j f=>rfl) (fun h=>by rw[hg] at h;cases h) hl
     |true=>
      obtain⟨o',L',Γ',A,B,C,e2,e3,Y,U,ab,aw⟩:=Live.effect (D:=fun j=>b.getD j true) hg F y d.ph c.nodup ar Way.nil (by simp) d.live
      have ai:o=o':=Option.some.inj (q.symm.trans e2)
      subst ai
      have E:=d.looks c s C q F y e3
      refine fu q (dx E U) (fun _=>?_) (fun h=>by cases h)
      rcases aw with⟨hrun,hl⟩|⟨_,x,hrun,hl⟩
      ·have I:=hrun w d.kp (fun e=>d.k0 (by rw[<-e];exact F)) (fun p R N=>Y p R (y p.1 N))
       have T:=bD.congr (c.sel o (mem_of_getElem? q)) (fZ E ab) I
       refine T.wp (fun v' W ⟨x,t,u,M⟩=>?_)
       subst t
       refine ih _ V (nG r i x) _ W ae ?_ af Z
       rw[ac]
       exact d.did c q O M ad (by simp[je,hg,iB]) (fun j f=>tH f) (fun j f=>nF f) (fun _=>by rw[iB];exact u) (hl x)
      ·have I:=hrun w d.kp (fun e=>d.k0 (by rw[<-e];exact F)) (fun p R N=>Y p R (y p.1 N))
       have T:=bD.congr (c.sel o (mem_of_getElem? q)) (fZ E ab) I
       refine T.wp (fun v' W ⟨t,u,M⟩=>?_)
       subst t
       refine ih _ V (nG r i x) _ W ae ?_ af Z
       rw[ac]
       exact d.did c q O M ad (by simp[je,hg,iB]) (fun j f=>tH f) (fun j f=>nF f) (fun _=>by rw[iB];exact u) hl
    ·exfalso
     apply H
     intro j f
     exact y j (c.tl i aa (by omega) j (by omega))
theorem CG.Ev(B:P.follows .mixedOrders=true)(S:List Nat×Nat)(k:Nat)(ord:List Nat)(G:List (Nat×GD))(z:GZ n ops ord (G.map (·.1)) k=true)(D:∀p∈G,∀x,cH [] (p.2.phi x))
  (h:bG P S w0 ops G (KX n S w0 P ops Q k) ord L0 []):CG P n (.region id ops.toArray true) Q L0 w0:=by
 intro a g
 have c:=Cl.of z
 refine wp_region_any B ?_
 have l:∀j,(Array.replicate ops.toArray.size false).getD j true= !decide (j<ops.length):=by
  intro j
  simp[Array.getD_eq_getD_getElem?,Array.getElem?_replicate]
  split<;>simp_all
 have E:∀i x,cH [] ((cu G i).phi x):=by
  have:∀(G:List (Nat×GD)),(∀p∈G,∀x,cH [] (p.2.phi x))->∀i,∀x,cH [] ((cu G i).phi x):=by
   intro G
   induction G with
   |nil=>intro _ i x w J _ _;exact trivial
   |cons p G H=>
    intro h i
    obtain⟨j,d⟩:=p
    have e:cu ((j,d)::G) i=(if Nat.beq j i=true then d else cu G i):=by
     unfold cu
     simp only[fc]
     cases Nat.beq j i<;>rfl
    by_cases s:Nat.beq j i=true
    ·rw[e,if_pos s]
     exact h (j,d) (by simp)
    ·rw[e,if_neg s]
     exact H (fun q C=>h q (by simp[C])) i
  exact this G D
 refine Hm.wpAny (S:=S) (w0:=w0) (L0:=L0) (G:=G) c E _ _ (fun _=>undef) (fun i=>(cu G i).x0) a _ (by simp) ?_ ?_ ?_
 ·have y:(fun j=>(Array.replicate ops.toArray.size false).getD j true)=fun j=> !decide (j<ops.length):=funext l
  rw[y]
  refine⟨fun i o r f=>?_,g.size,g.defers,fun i o d r f=>?_,fun t v F _=>g.slot t v F,(Kp.refl S.1 w0).drew,fun _=>(Kp.refl [] w0).drew,fun i u f=>?_,?_⟩
  ·simp[(List.getElem?_eq_some_iff.1 r).1] at f
  ·simp[(List.getElem?_eq_some_iff.1 r).1] at f
  ·rw[ou,elem_eq_mem] at u
   have:=c.lt i (c.gi i (of_decide_eq_true u))
   have A:=c.le
   have m:i<ops.length:=by omega
   simp[m] at f
  ·refine Live.congr (fun i b=>⟨?_,rfl,rfl⟩) h
   have I:=c.lt i b
   have A:=c.le
   have m:i<ops.length:=by omega
   simp[m]
 ·intro i b _
  rw[l];simp[b]
 ·have:(range ops.length).countP (fun i=> !(Array.replicate ops.toArray.size false).getD i true)=(range ops.length).length:=by
   rw[countP_eq_length]
   intro i b
   rw[l]
   simp at b
   simp[b]
  rw[this]
  simp
theorem CG.free(b:P.follows .mixedOrders=true)(k:Nat)(ord:List Nat)(G:List (Nat×GD))(a:GZ n ops ord (G.map (·.1)) k=true)(c:∀p∈G,∀x,cH [] (p.2.phi x))
  (h:bG P ([],100000) w0 ops G (KX n ([],100000) w0 P ops Q k) ord L0 []):CG P n (.region id ops.toArray true) Q L0 w0:=CG.Ev b ([],100000) k ord G a c h
end
end
section
variable{tys:Array TypeId}{f:FuncId}{args:List Operand}{vs:List Value}{d m sz:Nat}{op:Op}{o:Oper}{α:Type}{v:Value}
section
variable {P:Program} {n:Nat} {ops:List Oper} {Q:Exit->Act->World->Prop} {S:List Nat×Nat} {w0:World} {L:Env} {G:List (Nat×GD)} {K:Env->List Fact->Prop} {Γ:List Fact} {i:Nat} {ord:List Nat} {ty:TypeId} {pos:String} {af:Array Edge} {g:Option (Nat×Bool)}
theorem bG.val(b:jd G i=false)(f:ops[i]?=some ⟨some d,op,ty,pos,af,g⟩)(k:want ops L ⟨some d,op,ty,pos,af,g⟩=some true)(c:op.operands.toList.all (known L)=true)
  (j:aP P S.1 w0 (fS ops i Γ) L ⟨some d,op,ty,pos,af,g⟩ v) (h:bG P S w0 ops G K ord ((d,v)::L) Γ):bG P S w0 ops G K (i::ord) L Γ:=
 ⟨_,f,Or.inl ⟨b,Or.inr (Or.inr ⟨rfl,k,v,c,fun w e a=>by unfold bD;rw[j w e a];exact⟨rfl,Kp.refl _ _⟩,h⟩)⟩⟩
theorem xZ(b:ops[i]?=some ⟨some d,op,ty,pos,af,g⟩)(a:(!jd G i&&(want ops L ⟨some d,op,ty,pos,af,g⟩==some true&&op.operands.toList.all (known L)))=true)
  (c:aP P S.1 w0 (fS ops i Γ) L ⟨some d,op,ty,pos,af,g⟩ v) (h:bG P S w0 ops G K ord ((d,v)::L) Γ):bG P S w0 ops G K (i::ord) L Γ:=by
 simp only[Bool.and_eq_true,Bool.not_eq_true',beq_iff_eq] at a
 exact bG.val a.1 b a.2.1 a.2.2 c h
theorem bG.call[bU P f](m:jd G i=false)
  (p:ops[i]?=some ⟨some d,.call ⟨.value (.func f),args.toArray,tys⟩,ty,pos,af,g⟩) (q:want ops L ⟨some d,.call ⟨.value (.func f),args.toArray,tys⟩,ty,pos,af,g⟩=some true) (o:(Op.call ⟨.value (.func f),args.toArray,tys⟩).operands.toList.all (known L)=true)
  (l:bg L args vs) (k:∀w,Kp S.1 w0 w->fS ops i Γ w->dq P f vs.toArray w v) (h:bG P S w0 ops G K ord ((d,v)::L) Γ):bG P S w0 ops G K (i::ord) L Γ:=
 ⟨_,p,Or.inl ⟨m,Or.inr (Or.inr ⟨rfl,q,v,o,fun w c j=>fR (by rw[l.arr];exact(k w c j).mono (fun e r ⟨a,b⟩=>⟨v,a,rfl,b⟩)),h⟩)⟩⟩
theorem bG.Jw(D:GD)(b:fc G i=some D)(p:ops[i]?=some o)(q:want ops L o=some true)(m:o.op.operands.toList.all (known L)=true)
  (l:∀w,Kp S.1 w0 w->fS ops i Γ w->bD P (bH L) o w (fun v a=>∃x,v=D.val x/\D.phi x a/\Kp [] w a))
  (h:∀x,bG P S w0 ops G K ord (im o.dst (D.val x) L) ((i,D.phi x)::Γ)):bG P S w0 ops G K (i::ord) L Γ:=by
 have e:cu G i=D:=by simp[cu,b]
 refine⟨o,p,Or.inr ⟨by simp[jd,b],Or.inr (Or.inl ⟨rfl,q,m,?_,?_⟩)⟩⟩
 ·rw[e];exact fun w j _ k=>(l w j k).mono (fun v a ⟨x,c,d,f⟩=>⟨x,c,d,Or.inl f⟩)
 ·rw[e];exact h
theorem bG.KO(D:GD)(x:D.X)(c:fc G i=some D)(u:ops[i]?=some o)(A:want ops L o=some true)(t:o.op.operands.toList.all (known L)=true)(r:Γ.all (fun p=>kR ops i p.1)=true)
  (s:∀w,Kp S.1 w0 w->fS ops i Γ w->bD P (bH L) o w (fun v a=>v=D.val x/\D.phi x a/\(∀b,Kp b w0 w->Kp b w0 a)/\∀j y,j≠i->(cu G j).phi y w->(cu G j).phi y a))
  (h:bG P S w0 ops G K ord (im o.dst (D.val x) L) ((i,D.phi x)::Γ)):bG P S w0 ops G K (i::ord) L Γ:=by
 have e:cu G i=D:=by simp[cu,c]
 subst e
 refine⟨o,u,Or.inr ⟨by simp[jd,c],Or.inr (Or.inr ⟨rfl,A,t,fun p z=>all_eq_true.1 r p z,x,?_,h⟩)⟩⟩
 exact fun w m _ q=>(s w m q).mono (fun v a ⟨d,f,k,l⟩=>⟨d,f,Or.inr ⟨Or.inr k,l⟩⟩)
theorem bG.HQ[bU P f](D:GD)(k:i=S.2)(c:fc G i=some D)
  (z:ops[i]?=some ⟨some d,.call ⟨.value (.func f),args.toArray,tys⟩,ty,pos,af,g⟩) (B:want ops L ⟨some d,.call ⟨.value (.func f),args.toArray,tys⟩,ty,pos,af,g⟩=some true) (u:(Op.call ⟨.value (.func f),args.toArray,tys⟩).operands.toList.all (known L)=true)
  (s:bg L args vs) (r:∀w,Kp [] w0 w->fS ops i Γ w->Calls P f vs.toArray w (fun e a=>∃x,e= .returned (D.val x)/\D.phi x a/\Kp S.1 w a)) (v:∀j,j≠i->∀w a x,Kp S.1 w a->(cu G j).phi x w->(cu G j).phi x a)
  (h:∀x,bG P S w0 ops G K ord ((d,D.val x)::L) ((i,D.phi x)::Γ)):bG P S w0 ops G K (i::ord) L Γ:=by
 have e:cu G i=D:=by simp[cu,c]
 refine⟨_,z,Or.inr ⟨by simp[jd,c],Or.inr (Or.inl ⟨rfl,B,u,?_,?_⟩)⟩⟩
 ·rw[e]
  exact fun w p o q=>fR (by rw[s.arr];exact(r w (o k) q).mono (fun C a ⟨x,l,m,b⟩=>⟨_,l,x,rfl,m,Or.inr ⟨Or.inl ⟨k,p.trans b⟩,fun j y t A=>v j t _ _ y b A⟩⟩))
 ·rw[e]
  exact h
theorem bG.xL[bU P f](D:GD)(p:fc G i=some D)
  (r:ops[i]?=some ⟨some d,.call ⟨.value (.func f),args.toArray,tys⟩,ty,pos,af,g⟩) (s:want ops L ⟨some d,.call ⟨.value (.func f),args.toArray,tys⟩,ty,pos,af,g⟩=some true) (q:(Op.call ⟨.value (.func f),args.toArray,tys⟩).operands.toList.all (known L)=true)
  (o:bg L args vs) (m:∀w,Kp S.1 w0 w->fS ops i Γ w->Calls P f vs.toArray w (fun e a=>∃x,e= .returned (D.val x)/\D.phi x a/\Kp [] w a))
  (h:∀x,bG P S w0 ops G K ord ((d,D.val x)::L) ((i,D.phi x)::Γ)):bG P S w0 ops G K (i::ord) L Γ:=
 bG.Jw D p r s q (fun w k l=>fR (by rw[o.arr];exact(m w k l).mono (fun e a ⟨x,b,c,j⟩=>⟨D.val x,b,x,rfl,c,j⟩))) h
def gS{α:Type}(m:Nat)(enc:α->List Value)(sz:Nat)(l:List α):GD:=⟨Option Addr×Nat,(none,0),fun q=> .slice q.1 l.length q.2,fun q w=>sr m enc sz w q.1 q.2 l⟩
theorem AB{enc:α->List Value}{l:List α}(x:(gS m enc sz l).X):cH [] ((gS m enc sz l).phi x):=fun w b a h=>sr.az h a
theorem bG.mR{enc:α->List Value}[bU P f](l:List α)(s:fc G i=some (gS m enc sz l))
  (v:ops[i]?=some ⟨some d,.call ⟨.value (.func f),args.toArray,tys⟩,ty,pos,af,g⟩) (y:want ops L ⟨some d,.call ⟨.value (.func f),args.toArray,tys⟩,ty,pos,af,g⟩=some true) (t:(Op.call ⟨.value (.func f),args.toArray,tys⟩).operands.toList.all (known L)=true)
  (r:bg L args vs) (u:m<=w0.heap.size) (q:∀w,Kp S.1 w0 w->fS ops i Γ w->Hn P enc sz f vs.toArray w l)
  (h:∀(a:Option Addr) (c:Nat),bG P S w0 ops G K ord ((d,.slice a l.length c)::L) ((i,fun w=>sr m enc sz w a c l)::Γ)):bG P S w0 ops G K (i::ord) L Γ:=
 bG.xL (gS m enc sz l) s v y t r (fun w b p=>(q w b p).mono (fun e z ⟨a,c,j,k,o⟩=>⟨(a,c),j,k.mono (Nat.le_trans u b.size),o⟩)) (fun x=>h x.1 x.2)
theorem bG.tl{k:Nat}(h:∀a,Kp S.1 w0 a->(∀p∈Γ,p.2 a)->SG P n ops Q (ops.drop k) L a):bG P S w0 ops G (KX n S w0 P ops Q k) [] L Γ:=h
end
end
end Go.Proofs.YtpnjgjddabeapaaGreatDoor
