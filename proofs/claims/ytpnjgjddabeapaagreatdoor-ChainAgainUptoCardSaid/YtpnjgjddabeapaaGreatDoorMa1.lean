import Derived.Test.YtpnjgjddabeapaaGreatDoorCards
import Derived.Test.YtpnjgjddabeapaaGreatDoorTie
import Derived.Deep.DeepHandedRow
import Derived.Test.YtpnjgjddabeapaaGreatDoorProg
import Derived.Tactics
import Derived.Orders
import Derived.Scope
import Derived.KernelRfl
import Derived.Laws.Entries
import Derived.ChangeKeysEq
import Derived.DeepKeys4
import Derived.WideKeyArr
import Derived.IntWalk
import Derived.Maps.Keyed
import Derived.Laws.OwnMore
import Derived.ProofKit
import Derived.OpenShut
import Derived.Carry
import Derived.Deep.Slices
import Derived.Maps.RangeRun
import Derived.Laws.IdiomStrings
import Derived.Laws.Strings
import Derived.Lib.AppendStr
import Derived.Laws.MakeOwn
import Derived.WideKeyEntry
import Derived.Shelf.SlSortCmp.NoneTotal
import Derived.Lib.BytesEntry
import Derived.RangeFuncSeq
import Derived.TacticsIn
import Derived.RangeFuncLeaves
import Derived.Below
import Derived.OrdersIn
namespace Go.Proofs.YtpnjgjddabeapaaGreatDoor
set_option linter.all false
set_option maxHeartbeats 400000000
section
structure Kp(S:List Nat)(w w':World):Prop where
 size:w.heap.size≤w'.heap.size
 blk:∀b,b<w.heap.size→b∉S→w'.heap[b]?=w.heap[b]?
 os:w'.os=w.os
 tape:w'.tape=w.tape
 output:w'.output=w.output
 fz:∀a,a.block<w.heap.size→w'.frozen? a=w.frozen? a
 drawn:w.drawn≤w'.drawn
theorem Kp.refl(S:List Nat)(w:World):Kp S w w:=⟨Nat.le_refl _,fun _ _ _=>rfl,rfl,rfl,rfl,fun _ _=>rfl,Nat.le_refl _⟩
theorem Kp.trans{S:List Nat}{a b c:World}(h:Kp S a b)(k:Kp S b c):Kp S a c:=
 ⟨Nat.le_trans h.size k.size,fun i hi hs=>(k.blk i (Nat.lt_of_lt_of_le hi h.size) hs).trans (h.blk i hi hs),k.os.trans h.os,k.tape.trans h.tape,k.output.trans h.output,fun a ha=>(k.fz a (Nat.lt_of_lt_of_le ha h.size)).trans (h.fz a ha),Nat.le_trans h.drawn k.drawn⟩
theorem Kp.mono{S T:List Nat}{w w':World}(h:Kp S w w')(hs:∀x∈S,x∈T):Kp T w w':=
 ⟨h.size,fun b hb hn=>h.blk b hb (fun hm=>hn (hs b hm)),h.os,h.tape,h.output,h.fz,h.drawn⟩
theorem Kp.any{S:List Nat}{w w':World}(h:Kp [] w w'):Kp S w w':=h.mono (fun _ h=>by cases h)
theorem Kp.ai{S T:List Nat}{a b c:World}(h:Kp S a b)(k:Kp T b c)(hT:∀x∈T,x∈S∨a.heap.size≤x):Kp S a c:=
 ⟨Nat.le_trans h.size k.size,fun i hi hs=>(k.blk i (Nat.lt_of_lt_of_le hi h.size) (fun hm=>(hT i hm).elim hs (fun hh=>by omega))).trans (h.blk i hi hs),k.os.trans h.os,k.tape.trans h.tape,k.output.trans h.output,fun a ha=>(k.fz a (Nat.lt_of_lt_of_le ha h.size)).trans (h.fz a ha),Nat.le_trans h.drawn k.drawn⟩
theorem Kp.drew{S:List Nat}{a w:World}(h:Kp S a w):Kp S a {w with drawn:=w.drawn+1}:=⟨h.size,h.blk,h.os,h.tape,h.output,h.fz,Nat.le_succ_of_le h.drawn⟩
def aF(w:World)(b:Nat)(o:Obj):Prop:=w.heap[b]?=some o
theorem aF.lt{w:World}{b:Nat}{o:Obj}(h:aF w b o):b<w.heap.size:=(Array.getElem?_eq_some_iff.1 h).1
theorem aF.kp{S:List Nat}{w w':World}{b:Nat}{o:Obj}(h:aF w b o)(k:Kp S w w')(hb:b∉S):aF w' b o:=(k.blk b h.lt hb).trans h
theorem aF.ay{w w':World}{b:Nat}{o:Obj}(h:aF w b o)(k:Kp [] w w'):aF w' b o:=h.kp k (by simp)
theorem aF.uniq{w:World}{b:Nat}{o o':Obj}(h:aF w b o)(h':aF w b o'):o=o':=Option.some.inj (h.symm.trans h')
def Obj.soft:Obj→Bool
 | .cells _ _ (lo,hi)=>Nat.ble hi lo
 |_=>true
theorem fR{w:World}{a:Addr}{o:Obj}(h:w.heap[a.block]?=some o)(hs:Obj.soft o=true):w.frozen? a=false:=by
 unfold World.frozen?
 rw[h]
 cases o<;>try rfl
 rename_i c e f
 obtain⟨lo,hi⟩:=f
 simp only[Obj.soft,Nat.ble_eq] at hs
 simp
 omega
theorem uG{w:World}{a:Addr}(h:w.heap[a.block]?=none):w.frozen? a=false:=by
 unfold World.frozen?
 rw[h]
theorem ix{w w':World}{a:Addr}(h:w'.heap[a.block]?=w.heap[a.block]?):w'.frozen? a=w.frozen? a:=by
 unfold World.frozen?
 rw[h]
theorem Kp.push(w:World)(o:Obj)(hs:Obj.soft o=true):Kp [] w {w with heap:=w.heap.push o}:=by
 refine⟨by simp,fun b hb _=>?_,rfl,rfl,rfl,fun a _=>?_,Nat.le_refl _⟩
 ·show(w.heap.push o)[b]?=_
  rw[Array.getElem?_push,if_neg (by omega)]
 ·by_cases h:a.block=w.heap.size
  ·rw[fR (o:=o) (by show(w.heap.push o)[a.block]?=_;rw[h];simp) hs,uG (by rw[h];simp)]
  ·refine ix ?_
   show(w.heap.push o)[a.block]?=_
   rw[Array.getElem?_push,if_neg h]
theorem aF.push(w:World)(o:Obj):aF {w with heap:=w.heap.push o} w.heap.size o:=by simp[aF]
theorem Kp.set(w:World){b:Nat}{o o':Obj}(h:aF w b o)(hs:Obj.soft o=true)(hs':Obj.soft o'=true):Kp [b] w {w with heap:=w.heap.setIfInBounds b o'}:=by
 refine⟨by simp,fun i hi hn=>?_,rfl,rfl,rfl,fun a _=>?_,Nat.le_refl _⟩
 ·show(w.heap.setIfInBounds b o')[i]?=_
  rw[Array.getElem?_setIfInBounds_ne (fun e=>hn (by simp[e]))]
 ·by_cases e:a.block=b
  ·rw[fR (o:=o') (by show(w.heap.setIfInBounds b o')[a.block]?=_;rw[e];simp[h.lt]) hs',fR (o:=o) (by rw[e];exact h) hs]
  ·refine ix ?_
   show(w.heap.setIfInBounds b o')[a.block]?=_
   rw[Array.getElem?_setIfInBounds_ne (fun e1=>e e1.symm)]
theorem aF.set{w:World}{b:Nat}{o:Obj}(h:aF w b o)(o':Obj):aF {w with heap:=w.heap.setIfInBounds b o'} b o':=by simp[aF,h.lt]
theorem bP{x a:Nat}(h:x≠a):x∉[a]:=by simp[h]
theorem fG{x a b:Nat}(h:x≠a)(h2:x≠b):x∉[a,b]:=by simp[h,h2]
theorem aV{S:List Nat}{n a:Nat}(h:n≤a):∀x∈[a],x∈S∨n≤x:=by intro x hx;simp at hx;right;omega
theorem gj{S:List Nat}{n a b:Nat}(h:n≤a)(h2:n≤b):∀x∈[a,b],x∈S∨n≤x:=by intro x hx;simp at hx;right;omega
abbrev Env:=List (Nat×Value)
def look:Env→Nat→Option Value
 |[],_=>none
 |(s,v)::L,t=>bif Nat.beq s t then some v else look L t
theorem iQ(t:Nat)(v:Value)(L:Env):look ((t,v)::L) t=some v:=by simp[look]
theorem mN{s t:Nat}{u:Value}{L:Env}(h:s≠t):look ((s,u)::L) t=look L t:=by
 have:Nat.beq s t=false:=by rw[←Bool.not_eq_true,Nat.beq_eq];exact h
 simp[look,this]
structure Fits(n:Nat)(a:Act)(L:Env):Prop where
 slot:∀t v,look L t=some v→a.tmps[t]?=some v
 size:a.tmps.size=n
 defers:a.defers=[]
def bB(L:Env):Operand→Value
 | .tmp t=>(look L t).getD undef
 | .const v=>v
 | .global g=> .pointer (some ⟨g,0,none⟩)
 | .func f=> .func (.func f) #[] #[]
theorem D0{L:Env}{t:Nat}{v:Value}(h:look L t=some v):bB L (.tmp t)=v:=by simp[bB,h]
theorem yV{L:Env}{v:Value}:bB L (.const v)=v:=rfl
def known(L:Env):Operand→Bool
 | .tmp t=>(look L t).isSome
 |_=>true
theorem Fits.eval{n:Nat}{a:Act}{L:Env}(h:Fits n a L){x:Operand}(hx:known L x=true):a.eval x=bB L x:=by
 cases x with
 |tmp t=>
  simp only[known,Option.isSome_iff_exists] at hx
  obtain⟨v,hv⟩:=hx
  have:=h.slot t v hv
  simp[Act.eval,bB,hv,Array.getD_eq_getD_getElem?,this]
 |_=>rfl
theorem Fits.sub{n:Nat}{a:Act}{L L':Env}(h:Fits n a L)(hs:∀t v,look L' t=some v→look L t=some v):Fits n a L':=
 ⟨fun t v hv=>h.slot t v (hs t v hv),h.size,h.defers⟩
def kept(ks:List Nat):Env→Env
 |[]=>[]
 |(s,v)::L=>bif ks.elem s then(s,v)::kept ks L else kept ks L
theorem Fits.put{n:Nat}{a:Act}{L:Env}(h:Fits n a L)(d:Nat)(v:Value)(hd:d<n):Fits n (a.put (some d) v) ((d,v)::L):=by
 refine⟨fun t u hu=>?_,by simp[Act.put,h.size],h.defers⟩
 by_cases e:d=t
 ·subst e
  rw[iQ] at hu
  cases hu
  simp[Act.put,h.size,hd]
 ·rw[mN e] at hu
  simp only[Act.put]
  rw[Array.getElem?_setIfInBounds_ne e]
  exact h.slot t u hu
def bh(P:Program)(ρ:Operand→Value)(o:Oper)(w:World)(R:Value→World→Prop):Prop:=
 match(execOp ρ o).run P w with
 | .ok (.value v) w'=>R v w'
 | .ok .skip w'=>R undef w'
 | .ok (.enter f args) w'=>Calls P f args w' fun e w''=>∃v,e= .returned v∧R v w''
 |_=>False
theorem bh.mono{P:Program}{ρ:Operand→Value}{o:Oper}{w:World}{R R':Value→World→Prop}(h:bh P ρ o w R)(hr:∀v w',R v w'→R' v w'):bh P ρ o w R':=by
 unfold bh at*
 generalize (execOp ρ o).run P w=r at*
 cases r with
 |ok n w'=>
  cases n<;>simp only at h⊢
  case value v=>exact hr _ _ h
  case skip=>exact hr _ _ h
  case enter f args=>exact Calls.mono h (fun e w'' ⟨v,he,hR⟩=>⟨v,he,hr _ _ hR⟩)
 |halt x w'=>exact h
theorem bh.wp{P:Program}{o:Oper}{a:Act}{w:World}{K:Act→World→Prop}{Q:Exit→Act→World→Prop}{R:Value→World→Prop}
  (h:bh P a.eval o w R) (hK:∀v w',R v w'→K (a.put o.dst v) w'):o.wp P a w K Q:=by
 unfold bh at h
 unfold Oper.wp
 generalize (execOp a.eval o).run P w=r at*
 cases r with
 |ok n w'=>
  cases n<;>simp only[Oper.upon] at h⊢
  case value v=>exact hK _ _ h
  case skip=>exact hK _ _ h
  case enter f args=>exact Calls.mono h (fun e w'' ⟨v,he,hR⟩=>by subst he;exact hK _ _ hR)
 |halt x w'=>exact h.elim
def eJ:Op→Bool
 | .select .. =>true
 |_=>false
theorem bh.congr{P:Program}{ρ ρ':Operand→Value}{o:Oper}{w:World}{R:Value→World→Prop}(hs:eJ o.op=false)
  (h:∀x∈o.op.operands,ρ x=ρ' x) (hr:bh P ρ o w R):bh P ρ' o w R:=by
 unfold bh at*
 rw[←execOp_congr o (fun cs b e=>by rw[e] at hs;cases hs) h]
 exact hr
end
section
def dI(o:Oper):List Nat:=(o.after.toList.filter (Region.binds .any)).map (·.on)
def C2(acc:List Nat)(l:List Nat):Nat:=l.foldl (fun s j=>s|||2^j|||acc.getD j 0) 0
def sX:List Oper→List Nat→List Nat
 |[],acc=>acc
 |o::r,acc=>sX r (acc++[C2 acc (dI o)])
def jG(ops:List Oper)(i j:Nat):Bool:=((sX ops []).getD i 0).testBit j
theorem uH(acc:List Nat)(j:Nat):∀(l:List Nat) (s:Nat),(l.foldl (fun s j=>s|||2^j|||acc.getD j 0) s).testBit j=true→s.testBit j=true∨∃e∈l,e=j∨(acc.getD e 0).testBit j=true
 |[],s,h=>Or.inl h
 |e::l,s,h=>by
  rcases uH acc j l _ h with h|⟨e',he',h'⟩
  ·simp only[Nat.testBit_or,Bool.or_eq_true,Nat.testBit_two_pow,decide_eq_true_eq] at h
   rcases h with(h|h)|h
   ·exact Or.inl h
   ·exact Or.inr ⟨e,by simp,Or.inl h⟩
   ·exact Or.inr ⟨e,by simp,Or.inr h⟩
  ·exact Or.inr ⟨e',by simp[he'],h'⟩
theorem qb:∀(r:List Oper) (acc:List Nat) (i:Nat),i<acc.length→(sX r acc).getD i 0=acc.getD i 0
 |[],_,_,_=>rfl
 |o::r,acc,i,h=>by
  simp only[sX]
  rw[qb r _ i (by simp;omega)]
  simp[List.getD_eq_getElem?_getD,List.getElem?_append_left h]
theorem uZ:∀(r:List Oper) (acc:List Nat) (k:Nat) (o:Oper),r[k]?=some o→∃acc':List Nat,acc'.length=acc.length+k∧(∀i,i<acc'.length→acc'.getD i 0=(sX r acc).getD i 0)∧(sX r acc).getD (acc.length+k) 0=C2 acc' (dI o)
 |[],_,_,_,h=>by simp at h
 |o'::r,acc,0,o,h=>by
  simp at h
  subst h
  refine⟨acc,rfl,fun i hi=>(qb _ _ i hi).symm,?_⟩
  simp only[sX,Nat.add_zero]
  rw[qb r _ acc.length (by simp)]
  simp[List.getD_eq_getElem?_getD]
 |o'::r,acc,k+1,o,h=>by
  simp only[List.getElem?_cons_succ] at h
  obtain⟨acc',h1,h2,h3⟩:=uZ r (acc++[C2 acc (dI o')]) k o h
  simp only[List.length_append,List.length_singleton] at h1 h3
  refine⟨acc',by omega,fun i hi=>?_,?_⟩
  ·simp only[sX];exact h2 i hi
  ·simp only[sX]
   rw[show acc.length+(k+1)=acc.length+1+k from by omega]
   exact h3
theorem eK{ops:List Oper}{D:Nat→Bool}(hc:∀i o,ops[i]?=some o→D i=true→∀e∈dI o,D e=true):
  ∀(i:Nat) (o:Oper),ops[i]?=some o→(∀e∈dI o,D e=true)→∀j,jG ops i j=true→D j=true:=by
 intro i
 induction i using Nat.strongRecOn with
 |_ i ih=>
  intro o ho he j hj
  obtain⟨acc',h1,h2,h3⟩:=uZ ops [] i o ho
  simp only[List.length_nil,Nat.zero_add] at h1 h3
  unfold jG at hj
  rw[h3] at hj
  rcases uH acc' j _ 0 hj with h|⟨e,hem,h⟩
  ·simp at h
  ·rcases h with rfl|h
   ·exact he _ hem
   ·by_cases hlt:e<i
    ·have hio:i<ops.length:=(List.getElem?_eq_some_iff.1 ho).1
     have heo:ops[e]?=some ops[e]:=by simp
     refine ih e hlt _ heo (hc e _ heo (he e hem)) j ?_
     unfold jG
     rw[←h2 e (by omega)]
     exact h
    ·rw[List.getD_eq_getElem?_getD,List.getElem?_eq_none (by omega)] at h
     simp at h
def fY(d:Option Nat)(v:Value)(L:Env):Env:=
 match d with
 |some d=>(d,v)::L
 |none=>L
def want(ops:List Oper)(L:Env)(o:Oper):Option Bool:=
 match o.guard with
 |none=>some true
 |some (j,b)=>match(ops[j]?).bind (·.dst) with
  |none=>none
  |some d=>match look L d with
   |some (.bool c)=>some (c==b)
   |some _=>some false
   |none=>none
def Plain(P:Program)(S:List Nat)(w0:World)(F:World→Prop)(L:Env)(o:Oper)(v:Value):Prop:=
 o.op.operands.toList.all (known L)=true∧∀w,Kp S w0 w→F w→bh P (bB L) o w (fun v' w'=>v'=v∧Kp [] w w')
def Dn(P:Program)(S:List Nat)(w0:World)(F R:World→Prop)(L:Env)(o:Oper)(v:Value):Prop:=
 o.op.operands.toList.all (known L)=true∧∀w,Kp S w0 w→F w→R w→bh P (bB L) o w (fun v' w'=>v'=v∧Kp [] w w')
def cm(S:List Nat)(F:World→Prop):Prop:=∀w w',Kp S w w'→F w→F w'
def FW(P:Program)(S:List Nat)(w0:World)(F R:World→Prop)(L:Env)(o:Oper)(X:Type)(val:X→Value)(F' R':X→World→Prop):Prop:=
 o.op.operands.toList.all (known L)=true∧(∀x,cm [] (F' x))∧(∀x,cm [] (R' x))∧
  ∀w,Kp S w0 w→F w→R w→bh P (bB L) o w (fun v w'=>∃x,v=val x∧(F w'∧F' x w')∧R' x w'∧Kp S w0 w')
def aI(P:Program)(S:List Nat)(w0:World)(ops:List Oper)(gh:List Nat)(K:Env→(World→Prop)→(World→Prop)→Prop):List Nat→Env→(World→Prop)→(World→Prop)→Prop
 |[],L,F,R=>K L F R
 |i::ord,L,F,R=>∃o,ops[i]?=some o∧
   ((want ops L o=some false∧aI P S w0 ops gh K ord (fY o.dst undef L) F R)∨
    (want ops L o=some true∧∃v,Plain P S w0 F L o v∧aI P S w0 ops gh K ord (fY o.dst v L) F R)∨
    (want ops L o=some true∧(i+1000)∈gh∧∃v,Dn P S w0 F R L o v∧aI P S w0 ops gh K ord (fY o.dst v L) F R)∨
    (want ops L o=some true∧i∈gh∧∃(X:Type) (val:X→Value) (F' R':X→World→Prop),FW P S w0 F R L o X val F' R'∧
     ∀x,aI P S w0 ops gh K ord (fY o.dst (val x) L) (fun w=>F w∧F' x w) (R' x)))
structure oQ where
 i:Nat
 o:Oper
 v:Value
def env(L0:Env):List oQ→Env
 |[]=>L0
 |e::r=>fY e.o.dst e.v (env L0 r)
def jq(L0:Env)(D:Nat→Bool):List oQ→Nat→Option Value
 |[],t=>look L0 t
 |e::r,t=>if e.o.dst=some t then(if D e.i=true then some e.v else look L0 t) else jq L0 D r t
theorem nL{d:Option Nat}{v:Value}{L:Env}{t:Nat}:look (fY d v L) t=if d=some t then some v else look L t:=by
 cases d with
 |none=>simp[fY]
 |some d=>
  by_cases h:d=t
  ·subst h;simp[fY,iQ]
  ·simp[fY,mN h,h]
theorem pX{L0:Env}{t:Nat}:∀(l:List oQ),(∀e∈l,e.o.dst≠some t)→look (env L0 l) t=look L0 t
 |[],_=>rfl
 |e::r,h=>by
  simp only[env]
  rw[nL,if_neg (h e (by simp)),pX r (fun e he=>h e (by simp[he]))]
theorem rG{L0:Env}{D:Nat→Bool}{t:Nat}:∀(l:List oQ),(∀e∈l,e.o.dst≠some t)→jq L0 D l t=look L0 t
 |[],_=>rfl
 |e::r,h=>by
  simp only[jq]
  rw[if_neg (h e (by simp)),rG r (fun e he=>h e (by simp[he]))]
theorem fT{L0:Env}{D:Nat→Bool}{t:Nat}:∀(l:List oQ),(∀e∈l,e.o.dst=some t→D e.i=true)→jq L0 D l t=look (env L0 l) t
 |[],_=>rfl
 |e::r,h=>by
  simp only[jq,env]
  rw[nL]
  by_cases hd:e.o.dst=some t
  ·rw[if_pos hd,if_pos hd,if_pos (h e (by simp) hd)]
  ·rw[if_neg hd,if_neg hd,fT r (fun e he=>h e (by simp[he]))]
def kO(l:List oQ):Prop:=l.Pairwise (fun a b=>∀t,a.o.dst=some t→b.o.dst≠some t)
theorem ym{L0:Env}{D:Nat→Bool}{t:Nat}{x:oQ}:∀(pre post:List oQ),kO (pre++x::post)→
  (∀e∈post,e.o.dst=some t→D e.i=true)→(∀e∈pre,e.o.dst=some t→D e.i=false)→(x.o.dst=some t→D x.i=false)→
  jq L0 D (pre++x::post) t=look (env L0 post) t
 |[],post,hu,h1,h2,h3=>by
  simp only[List.nil_append,jq]
  by_cases hd:x.o.dst=some t
  ·rw[if_pos hd,if_neg (by simp[h3 hd])]
   rw[pX post (fun e he=>(List.pairwise_cons.1 hu).1 e he t hd)]
  ·rw[if_neg hd]
   exact fT post h1
 |p::pre,post,hu,h1,h2,h3=>by
  simp only[List.cons_append,jq]
  have hu':=List.pairwise_cons.1 hu
  by_cases hd:p.o.dst=some t
  ·rw[if_pos hd,if_neg (by simp[h2 p (by simp) hd])]
   rw[pX post (fun e he=>hu'.1 e (by simp[he]) t hd)]
  ·rw[if_neg hd]
   exact ym pre post hu'.2 h1 (fun e he=>h2 e (by simp[he])) h3
def eN(D:Nat→Bool)(i:Nat)(j:Nat):Bool:=if j=i then true else D j
theorem bH{D:Nat→Bool}{i j:Nat}(h:j≠i):eN D i j=D j:=by simp[eN,h]
theorem cS{D:Nat→Bool}{i:Nat}:eN D i i=true:=by simp[eN]
theorem jf{D:Nat→Bool}{i j:Nat}(h:D j=true):eN D i j=true:=by unfold eN;split<;>simp[h]
theorem iS{L0:Env}{D:Nat→Bool}{t i:Nat}:∀(m:List oQ),(∀e'∈m,e'.i≠i)→jq L0 (eN D i) m t=jq L0 D m t
 |[],_=>rfl
 |q::m,hq=>by simp only[jq,bH (hq q (by simp)),iS m (fun e' he'=>hq e' (by simp[he']))]
theorem p9{L0:Env}{D:Nat→Bool}{t:Nat}{x:oQ}:∀(l:List oQ),kO l→x∈l→(∀e∈l,e.i=x.i→e=x)→
  jq L0 (eN D x.i) l t=if x.o.dst=some t then some x.v else jq L0 D l t
 |[],_,hm,_=>by cases hm
 |e::r,hu,hm,hi=>by
  have hu':=List.pairwise_cons.1 hu
  simp only[jq]
  by_cases hex:e=x
  ·subst hex
   by_cases hd:e.o.dst=some t
   ·simp[hd,cS]
   ·simp only[hd,if_false]
    by_cases hin:e∈r
    ·have:=p9 (L0:=L0) (D:=D) (t:=t) r hu'.2 hin (fun e' he'=>hi e' (by simp[he']))
     rw[this,if_neg hd]
    ·exact iS r (fun e' he' hh=>hin ((hi e' (by simp[he']) hh)▸he'))
  ·have hne:e.i≠x.i:=fun h=>hex (hi e (by simp) h)
   have hm':x∈r:=by
    rcases List.mem_cons.1 hm with h|h
    ·exact absurd h.symm hex
    ·exact h
   by_cases hd:e.o.dst=some t
   ·have hxd:x.o.dst≠some t:=hu'.1 x hm' t hd
    simp[hd,hxd,bH hne]
   ·simp only[hd,if_false]
    exact p9 r hu'.2 hm' (fun e' he'=>hi e' (by simp[he']))
end
section
structure Vr where
 al:Nat
 pt:Nat
 d:Nat
 T:TypeId
 x:Operand
 z:Array Value
 c:Array Value
def ur(ops:List Oper)(o:Oper):List Nat:=o.looksAt ops.toArray
def da(ops:List Oper)(i:Nat):Option Nat:=(ops[i]?).bind (·.dst)
def iF:List Nat→Bool
 |[]=>true
 |x::l=> !l.elem x&&iF l
theorem eH:∀(l:List Nat),iF l=true→l.Nodup
 |[],_=>List.nodup_nil
 |x::l,h=>by
  simp only[iF,Bool.and_eq_true,Bool.not_eq_true'] at h
  refine List.nodup_cons.2 ⟨fun hm=>?_,eH l h.2⟩
  have h1:=h.1
  rw[List.elem_eq_mem] at h1
  exact absurd hm (of_decide_eq_false h1)
def oD(ops:List Oper)(gh:List Nat)(vd:List Nat):List Nat→List Nat→Bool
 |_,[]=>true
 |pre,i::rest=>
  ((ops[i]?).map fun o=>(ur ops o).all fun t=>
   pre.all (fun j=> !(da ops j==some t)||jG ops i j)&&rest.all (fun j=> !(da ops j==some t)||jG ops j i)&& !vd.elem t).getD false&&
  (!gh.elem i||(rest.all (fun j=>jG ops j i)&&pre.all (fun j=> !gh.elem (j+1000)||jG ops i j)))&&oD ops gh vd (i::pre) rest
def BH:Operand→List Nat
 | .tmp t=>[t]
 |_=>[]
def FO(n:Nat)(ops:List Oper)(ord gh:List Nat)(vs:List (Nat×Nat×Nat×Operand)):Bool:=
 ops.all (fun o=> !eJ o.op)&&ops.all (fun o=>o.dst.all (fun d=>Nat.blt d n))&&iF (ops.filterMap (·.dst))&&
 (List.range ops.length).all (fun i=>ord.elem i||vs.any (fun v=>Nat.beq v.1 i||Nat.beq v.2.1 i))&&iF ord&&
 oD ops gh (vs.map (·.2.2.1)) [] ord&&ord.all (fun i=>Nat.blt i ops.length)&&
 ((List.range ops.length).all fun i=>((ops[i]?).map fun o=>(dI o).all (fun e=>Nat.blt e i)).getD false)&&
 iF (vs.map (·.1)++vs.map (·.2.1)++ord)&&
 vs.all (fun v=>jG ops v.2.1 v.1&&(BH v.2.2.2).all (fun t=> !(vs.map (·.2.2.1)).elem t&&ord.all (fun j=> !(da ops j==some t)||jG ops v.2.1 j)))&&
 (vs.isEmpty||gh.isEmpty)
theorem rH{p q:Nat→Bool}:∀(l:List Nat) (h:∀x,q x=true→p x=true) (i:Nat),i∈l→p i=true→q i=false→l.countP q<l.countP p
 |[],_,_,hi,_,_=>by cases hi
 |y::l,h,i,hi,hp,hq=>by
  have hle:∀(m:List Nat),m.countP q≤m.countP p:=fun m=>List.countP_mono_left (fun x _=>h x)
  rw[List.countP_cons,List.countP_cons]
  by_cases e:y=i
  ·subst e
   have:=hle l
   simp[hp,hq]
   omega
  ·have hm:i∈l:=by
    rcases List.mem_cons.1 hi with h|h
    ·exact absurd h.symm e
    ·exact h
   have:=rH l h i hm hp hq
   by_cases hqy:q y=true
   ·simp[hqy,h y hqy];omega
   ·simp[hqy];omega
section
variable {P:Program} {n:Nat} {ops:List Oper} {Q:Exit→Act→World→Prop} {S:List Nat} {w0:World} {L0:Env} {ord0 gh:List Nat} {vs:List Vr}
def kQ(vs:List Vr):List (Nat×Nat×Nat×Operand):=vs.map (fun v=>(v.al,v.pt,v.d,v.x))
def I4(P:Program)(S:List Nat)(w0:World)(ops:List Oper)(gh:List Nat)(L0:Env)(F R:World→Prop)(e:oQ)(post:List oQ):Prop:=
 (want ops (env L0 post) e.o=some true∧Plain P S w0 F (env L0 post) e.o e.v)∨(want ops (env L0 post) e.o=some false∧e.v=undef)∨(want ops (env L0 post) e.o=some true∧(e.i+1000)∈gh∧Dn P S w0 F R (env L0 post) e.o e.v)
theorem I4.mono{F F' R R':World→Prop}{e:oQ}{post:List oQ}(h:I4 P S w0 ops gh L0 F R e post)(hF:∀w,F' w→F w)(hR:(e.i+1000)∉gh):I4 P S w0 ops gh L0 F' R' e post:=by
 rcases h with⟨h1,h2,h3⟩|h|⟨_,h,_⟩
 ·exact Or.inl ⟨h1,h2,fun w hk hf=>h3 w hk (hF w hf)⟩
 ·exact Or.inr (Or.inl h)
 ·exact absurd h hR
structure fC(P:Program)(ops:List Oper)(L:Env)(v:Vr):Prop where
 al:∃oa,ops[v.al]?=some oa∧oa.op= .alloc v.T∧oa.dst=some v.d∧oa.guard=none
 pt:∃op,ops[v.pt]?=some op∧op.op= .store v.T (.tmp v.d) v.x∧op.dst=none∧op.guard=none
 kn:known L v.x=true
 runAl:∀w:World,(Instr.alloc v.T true (.tuple #[])).run P w= .ok (.pointer (some ⟨w.heap.size,0,none⟩)) {w with heap:=w.heap.push (.cells v.z v.T)}
 runPt:∀(w:World) (b:Nat),aF w b (.cells v.z v.T)→(Instr.storeAt v.T (.pointer (some ⟨b,0,none⟩)) (bB L v.x)).run P w= .ok () {w with heap:=w.heap.setIfInBounds b (.cells v.c v.T)}
structure Fin(n:Nat)(S:List Nat)(w0:World)(vs:List Vr)(L:Env)(F R:World→Prop)(β:Nat→Nat)(a:Act)(w:World):Prop where
 fits:Fits n a (vs.map (fun v=>(v.d,Value.pointer (some ⟨β v.al,0,none⟩)))++L)
 kp:Kp S w0 w
 hF:F w
 hR:R w
 vw:∀v∈vs,w0.heap.size≤β v.al∧aF w (β v.al) (.cells v.c v.T)
 vd:∀v∈vs,∀v'∈vs,v.al≠v'.al→β v.al≠β v'.al
structure St(P:Program)(n:Nat)(ops:List Oper)(gh:List Nat)(S:List Nat)(w0:World)(L0:Env)(ord0:List Nat)(vs:List Vr)
  (D:Nat→Bool) (Dv:List oQ) (ord:List Nat) (F R:World→Prop) (β:Nat→Nat) (a:Act) (w:World):Prop where
 closed:∀(i:Nat) (o:Oper),ops[i]?=some o→D i=true→∀e∈dI o,D e=true
 fresh:∀i∈ord,D i=false
 idx:(Dv.map (·.i)).reverse++ord=ord0
 ent:∀e∈Dv,ops[e.i]?=some e.o
 obl:∀pre e post,Dv=pre++e::post→D e.i=false→I4 P S w0 ops gh L0 F R e post
 size:a.tmps.size=n
 defers:a.defers=[]
 frame:∀t v,jq L0 D Dv t=some v→(∀x∈vs,x.d≠t)→a.tmps[t]?=some v
 vfr:∀x∈vs,D x.al=true→a.tmps[x.d]?=some (.pointer (some ⟨β x.al,0,none⟩))
 kp:Kp S w0 w
 hF:F w
 hR:R w
 vw:∀x∈vs,D x.al=true→w0.heap.size≤β x.al∧aF w (β x.al) (.cells (if D x.pt=true then x.c else x.z) x.T)
 vd:∀x∈vs,∀y∈vs,D x.al=true→D y.al=true→x.al≠y.al→β x.al≠β y.al
theorem cZ{L:Env}{a:Act}{o:Oper}{r:Bool}(hL:∀t∈ur ops o,∀v,look L t=some v→a.tmps[t]?=some v)(h:want ops L o=some r):
  Region.wanted o (yielded ops.toArray a.tmps)=r:=by
 unfold want at h
 unfold Region.wanted
 cases hg:o.guard with
 |none=>simp[hg] at h;simp[h]
 |some jb=>
  obtain⟨j,b⟩:=jb
  simp only[hg] at h
  cases hd:(ops[j]?).bind (·.dst) with
  |none=>simp[hd] at h
  |some d=>
   simp only[hd] at h
   have hmem:d∈ur ops o:=by
    unfold ur Oper.looksAt
    simp only[hg,List.getElem?_toArray,hd]
    simp
   cases hl:look L d with
   |none=>simp[hl] at h
   |some v=>
    have hv:=hL d hmem v hl
    simp only[hl] at h
    simp only[yielded,List.getElem?_toArray,hd,Option.bind_some,hv]
    cases v<;>simp at h⊢<;>simp_all
theorem fx{L:Env}{a:Act}{o:Oper}(hL:∀t∈ur ops o,∀v,look L t=some v→a.tmps[t]?=some v)(hk:o.op.operands.toList.all (known L)=true):
  ∀x∈o.op.operands,bB L x=a.eval x:=by
 intro x hx
 have hkx:known L x=true:=List.all_eq_true.1 hk x (by simpa using hx)
 cases x with
 |tmp t=>
  have hmem:t∈ur ops o:=by
   unfold ur Oper.looksAt
   simp only[List.mem_append,List.mem_filterMap]
   exact Or.inl ⟨.tmp t,by simpa using hx,rfl⟩
  simp only[known,Option.isSome_iff_exists] at hkx
  obtain⟨v,hv⟩:=hkx
  have:=hL t hmem v hv
  simp[Act.eval,bB,hv,Array.getD_eq_getD_getElem?,this]
 |_=>rfl
structure tC(n:Nat)(ops:List Oper)(ord gh:List Nat)(vs:List (Nat×Nat×Nat×Operand)):Prop where
 sel:∀o∈ops,eJ o.op=false
 dlt:∀o∈ops,∀d,o.dst=some d→d<n
 one:∀(i j:Nat) (oi oj:Oper) (t:Nat),ops[i]?=some oi→ops[j]?=some oj→oi.dst=some t→oj.dst=some t→i=j
 nodup:ord.Nodup
 ok:oD ops gh (vs.map (·.2.2.1)) [] ord=true
 lt:∀i∈ord,i<ops.length
 ed:∀(i:Nat) (o:Oper),ops[i]?=some o→∀e∈dI o,e<i
 nd:(vs.map (·.1)++vs.map (·.2.1)++ord).Nodup
 va:∀v∈vs,jG ops v.2.1 v.1=true
 vx:∀v∈vs,∀t∈BH v.2.2.2,(∀u∈vs,u.2.2.1≠t)∧∀j∈ord,da ops j=some t→jG ops v.2.1 j=true
 ng:vs=[]∨gh=[]
theorem dL:∀(l:List Oper),(l.filterMap (·.dst)).Nodup→∀(i j:Nat) (oi oj:Oper) (t:Nat),l[i]?=some oi→l[j]?=some oj→oi.dst=some t→oj.dst=some t→i=j
 |[],_,_,_,_,_,_,h,_,_,_=>by simp at h
 |o::l,hn,i,j,oi,oj,t,hi,hj,di,dj=>by
  have hmem:∀(k:Nat) (ok:Oper),l[k]?=some ok→ok.dst=some t→t∈l.filterMap (·.dst):=fun k ok hk hd=>
   List.mem_filterMap.2 ⟨ok,List.mem_of_getElem? hk,hd⟩
  have hn':(l.filterMap (·.dst)).Nodup:=by
   rw[List.filterMap_cons] at hn
   split at hn
   ·exact hn
   ·exact(List.nodup_cons.1 hn).2
  have hno:o.dst=some t→t∉l.filterMap (·.dst):=fun h=>by
   rw[List.filterMap_cons,h] at hn
   exact(List.nodup_cons.1 hn).1
  cases i with
  |zero=>
   simp at hi
   subst hi
   cases j with
   |zero=>rfl
   |succ j=>
    simp only[List.getElem?_cons_succ] at hj
    exact absurd (hmem j oj hj dj) (hno di)
  |succ i=>
   simp only[List.getElem?_cons_succ] at hi
   cases j with
   |zero=>
    simp at hj
    subst hj
    exact absurd (hmem i oi hi di) (hno dj)
   |succ j=>
    simp only[List.getElem?_cons_succ] at hj
    rw[dL l hn' i j oi oj t hi hj di dj]
theorem tC.of{vs:List (Nat×Nat×Nat×Operand)}(h:FO n ops ord0 gh vs=true):tC n ops ord0 gh vs:=by
 simp only[FO,Bool.and_eq_true] at h
 obtain⟨⟨⟨⟨⟨⟨⟨⟨⟨⟨h1,h2⟩,h3⟩,h4⟩,h5⟩,h6⟩,h7⟩,h8⟩,h9⟩,h10⟩,h11⟩:=h
 refine⟨fun o ho=>?_,fun o ho d hd=>?_,dL ops (eH _ h3),eH _ h5,h6,fun i hi=>?_,fun i o ho e he=>?_,eH _ h9,fun v hv=>?_,fun v hv t ht=>?_,?_⟩
 ·simpa using List.all_eq_true.1 h1 o ho
 ·have:=List.all_eq_true.1 h2 o ho
  rw[hd] at this
  simpa[Nat.blt_eq] using this
 ·simpa[Nat.blt_eq] using List.all_eq_true.1 h7 i hi
 ·have:=List.all_eq_true.1 h8 i (by simpa using(List.getElem?_eq_some_iff.1 ho).1)
  rw[ho] at this
  simp only[Option.map_some,Option.getD_some] at this
  simpa[Nat.blt_eq] using List.all_eq_true.1 this e he
 ·have:=List.all_eq_true.1 h10 v hv
  simp only[Bool.and_eq_true] at this
  exact this.1
 ·have:=List.all_eq_true.1 h10 v hv
  simp only[Bool.and_eq_true] at this
  have:=List.all_eq_true.1 this.2 t ht
  simp only[Bool.and_eq_true,Bool.not_eq_true'] at this
  refine⟨fun u hu e=>?_,fun j hj hd=>?_⟩
  ·have h1:=this.1
   rw[List.elem_eq_mem] at h1
   exact absurd (List.mem_map.2 ⟨u,hu,e⟩) (of_decide_eq_false h1)
  ·have:=List.all_eq_true.1 this.2 j hj
   simpa[hd] using this
 ·simp only[Bool.or_eq_true,List.isEmpty_iff] at h11
  exact h11
theorem CC{vs:List (Nat×Nat×Nat×Operand)}(h:FO n ops ord0 gh vs=true):∀i,i<ops.length→i∈ord0∨∃v∈vs,v.1=i∨v.2.1=i:=by
 simp only[FO,Bool.and_eq_true] at h
 obtain⟨⟨⟨⟨⟨⟨⟨⟨⟨⟨h1,h2⟩,h3⟩,h4⟩,h5⟩,h6⟩,h7⟩,h8⟩,h9⟩,h10⟩,h11⟩:=h
 intro i hi
 have:=List.all_eq_true.1 h4 i (by simpa using hi)
 simp only[Bool.or_eq_true,List.any_eq_true] at this
 rcases this with h|⟨v,hv,h⟩
 ·left;rw[List.elem_eq_mem] at h;exact of_decide_eq_true h
 ·right
  refine⟨v,hv,?_⟩
  rcases h with h|h
  ·left;exact Nat.eq_of_beq_eq_true h
  ·right;exact Nat.eq_of_beq_eq_true h
theorem gG{vd:List Nat}:∀(pre l:List Nat),oD ops gh vd pre l=true→∀(l1:List Nat) (i:Nat) (l2:List Nat),l=l1++i::l2→∀o,ops[i]?=some o→
  (∀t∈ur ops o,(∀j,j∈pre∨j∈l1→da ops j=some t→jG ops i j=true)∧(∀j∈l2,da ops j=some t→jG ops j i=true)∧t∉vd)∧(i∈gh→(∀j∈l2,jG ops j i=true)∧∀j,j∈pre∨j∈l1→(j+1000)∈gh→jG ops i j=true)
 |pre,[],_,l1,i,l2,h,_,_=>by simp at h
 |pre,k::l,hk,[],i,l2,h,o,ho=>by
  simp only[List.nil_append,List.cons.injEq] at h
  obtain⟨rfl,rfl⟩:=h
  simp only[oD,Bool.and_eq_true,ho,Option.map_some,Option.getD_some] at hk
  obtain⟨⟨h1,h2⟩,_⟩:=hk
  refine⟨fun t ht=>?_,fun hg=>?_⟩
  ·have:=List.all_eq_true.1 h1 t ht
   simp only[Bool.and_eq_true,Bool.not_eq_true'] at this
   refine⟨fun j hj hd=>?_,fun j hj hd=>?_,fun hm=>?_⟩
   ·rcases hj with hj|hj
    ·simpa[hd] using List.all_eq_true.1 this.1.1 j hj
    ·cases hj
   ·simpa[hd] using List.all_eq_true.1 this.1.2 j hj
   ·have h1:=this.2
    rw[List.elem_eq_mem] at h1
    exact absurd hm (of_decide_eq_false h1)
  ·simp only[Bool.or_eq_true,Bool.not_eq_true'] at h2
   rcases h2 with h2|h2
   ·rw[List.elem_eq_mem] at h2
    exact absurd hg (of_decide_eq_false h2)
   ·simp only[Bool.and_eq_true] at h2
    refine⟨fun j hj=>List.all_eq_true.1 h2.1 j hj,fun j hj hr=>?_⟩
    rcases hj with hj|hj
    ·have:=List.all_eq_true.1 h2.2 j hj
     have hr':gh.elem (j+1000)=true:=by rw[List.elem_eq_mem];exact decide_eq_true hr
     simpa only[hr',Bool.not_true,Bool.false_or] using this
    ·cases hj
 |pre,k::l,hk,m::l1,i,l2,h,o,ho=>by
  simp only[List.cons_append,List.cons.injEq] at h
  obtain⟨rfl,rfl⟩:=h
  simp only[oD,Bool.and_eq_true] at hk
  obtain⟨h1,h2⟩:=gG (k::pre) _ hk.2 l1 i l2 rfl o ho
  refine⟨fun t ht=>?_,fun hg=>⟨(h2 hg).1,fun j hj hr=>(h2 hg).2 j (by
   rcases hj with hj|hj
   ·exact Or.inl (by simp[hj])
   ·rcases List.mem_cons.1 hj with rfl|hj
    ·exact Or.inl (by simp)
    ·exact Or.inr hj) hr⟩⟩
  obtain⟨a1,a2,a3⟩:=h1 t ht
  refine⟨fun j hj hd=>a1 j ?_ hd,a2,a3⟩
  rcases hj with hj|hj
  ·exact Or.inl (by simp[hj])
  ·rcases List.mem_cons.1 hj with rfl|hj
   ·exact Or.inl (by simp)
   ·exact Or.inr hj
end
end
section
section
variable {P:Program} {n:Nat} {ops:List Oper} {Q:Exit→Act→World→Prop} {S:List Nat} {w0:World} {L0:Env} {ord0 gh:List Nat} {vs:List Vr}
variable {D:Nat→Bool} {Dv:List oQ} {ord:List Nat} {F R:World→Prop} {β:Nat→Nat} {a:Act} {w:World}
def iI(n:Nat)(S:List Nat)(w0:World)(P:Program)(ops:List Oper)(Q:Exit→Act→World→Prop)(vs:List Vr)(L:Env)(F R:World→Prop):Prop:=
 (∀v∈vs,fC P ops L v)∧∀β a w,Fin n S w0 vs L F R β a w→Q .normal a w
theorem St.xX(h:St P n ops gh S w0 L0 ord0 vs D Dv ord F R β a w){i:Nat}(hi:i∈ord0):(∃e∈Dv,e.i=i)∨i∈ord:=by
 rw[←h.idx,List.mem_append,List.mem_reverse,List.mem_map] at hi
 exact hi
theorem St.fa(h:St P n ops gh S w0 L0 ord0 vs D Dv ord F R β a w){e:oQ}(he:e∈Dv):e.i∈ord0:=by
 rw[←h.idx,List.mem_append,List.mem_reverse,List.mem_map]
 exact Or.inl ⟨e,he,rfl⟩
theorem St.uniq(c:tC n ops ord0 gh (kQ vs))(h:St P n ops gh S w0 L0 ord0 vs D Dv ord F R β a w):∀e∈Dv,∀e'∈Dv,e.i=e'.i→e=e':=by
 have hn:(Dv.map (·.i)).Nodup:=by
  have:=c.nodup
  rw[←h.idx] at this
  have:=(List.nodup_append.1 this).1
  rw[←List.reverse_reverse (Dv.map (·.i))]
  exact(List.pairwise_reverse.2 (this.imp (fun hh=>hh.symm)))
 have key:∀(l:List oQ),(l.map (·.i)).Nodup→∀e∈l,∀e'∈l,e.i=e'.i→e=e':=by
  intro l
  induction l with
  |nil=>intro _ e he;cases he
  |cons x l ih=>
   intro hn e he e' he' hi
   rw[List.map_cons,List.nodup_cons] at hn
   rcases List.mem_cons.1 he with h1|h1
   ·rcases List.mem_cons.1 he' with h2|h2
    ·rw[h1,h2]
    ·exact absurd (List.mem_map.2 ⟨e',h2,by rw[←hi,h1]⟩) hn.1
   ·rcases List.mem_cons.1 he' with h2|h2
    ·exact absurd (List.mem_map.2 ⟨e,h1,by rw[hi,h2]⟩) hn.1
    ·exact ih hn.2 e h1 e' h2 hi
 exact key Dv hn
theorem St.one(c:tC n ops ord0 gh (kQ vs))(h:St P n ops gh S w0 L0 ord0 vs D Dv ord F R β a w):kO Dv:=by
 have hn:(Dv.map (·.i)).Nodup:=by
  have:=c.nodup
  rw[←h.idx] at this
  have:=(List.nodup_append.1 this).1
  rw[←List.reverse_reverse (Dv.map (·.i))]
  exact(List.pairwise_reverse.2 (this.imp (fun hh=>hh.symm)))
 unfold kO
 rw[List.Nodup,List.pairwise_map] at hn
 refine List.Pairwise.imp_of_mem ?_ hn
 intro x y hx hy hne t hxt hyt
 exact hne (c.one x.i y.i x.o y.o t (h.ent x hx) (h.ent y hy) hxt hyt)
theorem St.looks(c:tC n ops ord0 gh (kQ vs))(h:St P n ops gh S w0 L0 ord0 vs D Dv ord F R β a w){pre post:List oQ}{e:oQ}(hD:Dv=pre++e::post)
  (hnd:D e.i=false) (hr:∀j,jG ops e.i j=true→D j=true):∀t∈ur ops e.o,∀v,look (env L0 post) t=some v→a.tmps[t]?=some v:=by
 intro t ht v hv
 have heD:e∈Dv:=by rw[hD];simp
 have hord:ord0=(post.map (·.i)).reverse++e.i::((pre.map (·.i)).reverse++ord):=by
  rw[←h.idx,hD]
  simp
 obtain⟨hs,_⟩:=gG [] ord0 c.ok _ e.i _ hord e.o (h.ent e heD)
 obtain⟨h1,h2,h3⟩:=hs t ht
 refine h.frame t v ?_ (fun x hx hxt=>h3 ?_)
 ·rw[hD,ym pre post (by rw[←hD];exact h.one c)]
  ·exact hv
  ·intro q hq hqt
   refine hr q.i (h1 q.i (Or.inr ?_) ?_)
   ·rw[List.mem_reverse];exact List.mem_map.2 ⟨q,hq,rfl⟩
   ·simp[da,h.ent q (by rw[hD];simp[hq]),hqt]
  ·intro q hq hqt
   have ha:jG ops q.i e.i=true:=h2 q.i (by rw[List.mem_append,List.mem_reverse];exact Or.inl (List.mem_map.2 ⟨q,hq,rfl⟩)) (by simp[da,h.ent q (by rw[hD];simp[hq]),hqt])
   cases hq':D q.i with
   |false=>rfl
   |true=>
    have hqo:=h.ent q (by rw[hD];simp[hq])
    have:=eK h.closed q.i q.o hqo (h.closed q.i q.o hqo hq') e.i ha
    rw[hnd] at this
    cases this
  ·intro _;exact hnd
 ·rw[←hxt]
  exact List.mem_map.2 ⟨(x.al,x.pt,x.d,x.x),List.mem_map.2 ⟨x,hx,rfl⟩,rfl⟩
theorem iq(hc:∀(i:Nat) (o:Oper),ops[i]?=some o→D i=true→∀e∈dI o,D e=true){i:Nat}{o:Oper}(ho:ops[i]?=some o)(he:∀e∈dI o,D e=true):
  ∀(j:Nat) (o:Oper),ops[j]?=some o→eN D i j=true→∀e∈dI o,eN D i e=true:=by
 intro j oj hj hd e hem
 by_cases hji:j=i
 ·subst hji
  rw[ho] at hj
  cases hj
  exact jf (he e hem)
 ·rw[bH hji] at hd
  exact jf (hc j oj hj hd e hem)
theorem lg(c:tC n ops ord0 gh (kQ vs)){x:Vr}(hx:x∈vs){i:Nat}(hi:i∈ord0):x.al≠i∧x.pt≠i:=by
 have hn:=c.nd
 rw[List.nodup_append] at hn
 have h1:(x.al,x.pt,x.d,x.x)∈kQ vs:=List.mem_map.2 ⟨x,hx,rfl⟩
 exact⟨fun e=>hn.2.2 x.al (List.mem_append.2 (Or.inl (List.mem_map.2 ⟨_,h1,rfl⟩))) i hi e,fun e=>hn.2.2 x.pt (List.mem_append.2 (Or.inr (List.mem_map.2 ⟨_,h1,rfl⟩))) i hi e⟩
theorem St.did(c:tC n ops ord0 gh (kQ vs))(h:St P n ops gh S w0 L0 ord0 vs D Dv ord F R β a w)(hFs:cm [] F)(hRs:cm [] R)(hva:∀x∈vs,da ops x.al=some x.d){e:oQ}(he:e∈Dv)(hnd:D e.i=false)
  (hed:∀j∈dI e.o,D j=true) {w':World} (hk:Kp [] w w'):St P n ops gh S w0 L0 ord0 vs (eN D e.i) Dv ord F R β (a.put e.o.dst e.v) w':=by
 have heo:=h.ent e he
 have hdn:∀d,e.o.dst=some d→d<n:=c.dlt e.o (List.mem_of_getElem? heo)
 have hvd:∀x∈vs,e.o.dst≠some x.d:=by
  intro x hx hd
  have h1:=hva x hx
  unfold da at h1
  cases hx1:ops[x.al]? with
  |none=>rw[hx1] at h1;simp at h1
  |some oa=>
   rw[hx1] at h1
   exact(lg c hx (h.fa he)).1 (c.one x.al e.i oa e.o x.d hx1 heo h1 hd)
 refine⟨iq h.closed heo hed,fun i hi=>?_,h.idx,h.ent,fun pre q post hD hq=>?_,?_,?_,fun t v hv ht=>?_,fun x hx hd=>?_,h.kp.trans hk.any,hFs _ _ hk h.hF,hRs _ _ hk h.hR,fun x hx hd=>?_,fun x hx y hy hdx hdy=>?_⟩
 ·rw[bH]
  ·exact h.fresh i hi
  ·intro e1
   have hn:=c.nodup
   rw[←h.idx,List.nodup_append] at hn
   exact hn.2.2 e.i (by rw[List.mem_reverse];exact List.mem_map.2 ⟨e,he,rfl⟩) i hi e1.symm
 ·by_cases hqe:q.i=e.i
  ·rw[hqe,cS] at hq;cases hq
  ·rw[bH hqe] at hq
   exact h.obl pre q post hD hq
 ·cases hd:e.o.dst<;>simp[Act.put,h.size]
 ·cases hd:e.o.dst<;>simp[Act.put,h.defers]
 ·rw[p9 Dv (h.one c) he (fun q hq hi=>h.uniq c q hq e he hi)] at hv
  by_cases hd:e.o.dst=some t
  ·rw[if_pos hd] at hv
   cases hv
   rw[hd]
   simp[Act.put,h.size,hdn t hd]
  ·rw[if_neg hd] at hv
   have:=h.frame t v hv ht
   cases hd':e.o.dst with
   |none=>exact this
   |some d=>
    have hne:d≠t:=fun e1=>hd (by rw[hd',e1])
    simp only[Act.put]
    rw[Array.getElem?_setIfInBounds_ne hne]
    exact this
 ·rw[bH (lg c hx (h.fa he)).1] at hd
  have:=h.vfr x hx hd
  cases hd':e.o.dst with
  |none=>exact this
  |some d=>
   have hne:d≠x.d:=fun e1=>hvd x hx (by rw[hd',e1])
   simp only[Act.put]
   rw[Array.getElem?_setIfInBounds_ne hne]
   exact this
 ·rw[bH (lg c hx (h.fa he)).1] at hd
  rw[bH (lg c hx (h.fa he)).2]
  obtain⟨h1,h2⟩:=h.vw x hx hd
  exact⟨h1,h2.ay hk⟩
 ·rw[bH (lg c hx (h.fa he)).1] at hdx
  rw[bH (lg c hy (h.fa he)).1] at hdy
  exact h.vd x hx y hy hdx hdy
theorem St.Hk(c:tC n ops ord0 gh (kQ vs)){i:Nat}(h:St P n ops gh S w0 L0 ord0 vs D Dv (i::ord) F R β a w){o:Oper}{v:Value}(ho:ops[i]?=some o)
  (hob:I4 P S w0 ops gh L0 F R ⟨i,o,v⟩ Dv):St P n ops gh S w0 L0 ord0 vs D (⟨i,o,v⟩::Dv) ord F R β a w:=by
 have hi:D i=false:=h.fresh i (by simp)
 refine⟨h.closed,fun j hj=>h.fresh j (by simp[hj]),?_,fun e he=>?_,fun pre e post hD hnd=>?_,h.size,h.defers,fun t u hu ht=>?_,h.vfr,h.kp,h.hF,h.hR,h.vw,h.vd⟩
 ·rw[←h.idx];simp
 ·rcases List.mem_cons.1 he with rfl|he
  ·exact ho
  ·exact h.ent e he
 ·cases pre with
  |nil=>
   simp only[List.nil_append,List.cons.injEq] at hD
   obtain⟨rfl,rfl⟩:=hD
   exact hob
  |cons p pre=>
   simp only[List.cons_append,List.cons.injEq] at hD
   exact h.obl pre e post hD.2 hnd
 ·refine h.frame t u ?_ ht
  simp only[jq] at hu
  by_cases hd:o.dst=some t
  ·rw[if_pos hd,if_neg (by simp[hi])] at hu
   rw[rG Dv,hu]
   intro e he het
   have h1:=c.one e.i i e.o o t (h.ent e he) ho het hd
   have hn:=c.nodup
   rw[←h.idx,List.nodup_append] at hn
   exact hn.2.2 e.i (by rw[List.mem_reverse];exact List.mem_map.2 ⟨e,he,rfl⟩) i (by simp) h1
  ·rw[if_neg hd] at hu
   exact hu
def Norm(P:Program)(S:List Nat)(w0:World)(ops:List Oper)(gh:List Nat)(K:Env→(World→Prop)→(World→Prop)→Prop)(ord:List Nat)(L:Env)(F R:World→Prop):Prop:=
 (ord=[]∧K L F R)∨∃i ord' o,ord=i::ord'∧ops[i]?=some o∧want ops L o=some true∧i∈gh∧∃(X:Type) (val:X→Value) (F' R':X→World→Prop),FW P S w0 F R L o X val F' R'∧
     ∀x,aI P S w0 ops gh K ord' (fY o.dst (val x) L) (fun w=>F w∧F' x w) (R' x)
theorem St.Hm(c:tC n ops ord0 gh (kQ vs)){K:Env→(World→Prop)→(World→Prop)→Prop}:∀(ord:List Nat) (Dv:List oQ),St P n ops gh S w0 L0 ord0 vs D Dv ord F R β a w→aI P S w0 ops gh K ord (env L0 Dv) F R→
  ∃Dv' ord',St P n ops gh S w0 L0 ord0 vs D Dv' ord' F R β a w∧Norm P S w0 ops gh K ord' (env L0 Dv') F R
 |[],Dv,h,hd=>⟨Dv,[],h,Or.inl ⟨rfl,hd⟩⟩
 |i::ord,Dv,h,hd=>by
  obtain⟨o,ho,hd⟩:=hd
  rcases hd with⟨hw,hd⟩|⟨hw,v,hp,hd⟩|⟨hw,hr,v,hp,hd⟩|⟨hw,hg,X,val,F',R',hgh,hd⟩
  ·exact St.Hm c ord (⟨i,o,undef⟩::Dv) (h.Hk c ho (Or.inr (Or.inl ⟨hw,rfl⟩))) hd
  ·exact St.Hm c ord (⟨i,o,v⟩::Dv) (h.Hk c ho (Or.inl ⟨hw,hp⟩)) hd
  ·exact St.Hm c ord (⟨i,o,v⟩::Dv) (h.Hk c ho (Or.inr (Or.inr ⟨hw,hr,hp⟩))) hd
  ·exact⟨Dv,i::ord,h,Or.inr ⟨i,ord,o,rfl,ho,hw,hg,X,val,F',R',hgh,hd⟩⟩
theorem St.ghost(c:tC n ops ord0 gh (kQ vs))(hv0:vs=[]){i:Nat}(h:St P n ops gh S w0 L0 ord0 vs D Dv (i::ord) F R β a w)(hFs:cm [] F){o:Oper}(ho:ops[i]?=some o)
  (hed:∀j∈dI o,D j=true) (hgi:i∈gh) {v:Value} {w':World} {F' R':World→Prop} (hk:Kp S w0 w') (hF':F w'∧F' w') (hR':R' w'):
  St P n ops gh S w0 L0 ord0 vs (eN D i) (⟨i,o,v⟩::Dv) ord (fun w=>F w∧F' w) R' β (a.put o.dst v) w':=by
 subst hv0
 have hi:D i=false:=h.fresh i (by simp)
 have hn:=c.nodup
 rw[←h.idx,List.nodup_append] at hn
 have hDvi:∀e∈Dv,e.i≠i:=fun e he=>hn.2.2 e.i (by rw[List.mem_reverse];exact List.mem_map.2 ⟨e,he,rfl⟩) i (by simp)
 refine⟨iq h.closed ho hed,fun j hj=>?_,?_,fun e he=>?_,fun pre e post hD hnd=>?_,?_,?_,fun t u hu ht=>?_,(by simp),hk,hF',hR',(by simp),(by simp)⟩
 ·rw[bH]
  ·exact h.fresh j (by simp[hj])
  ·intro e1
   have:=hn.2.1
   rw[List.nodup_cons] at this
   exact this.1 (e1▸hj)
 ·rw[←h.idx];simp
 ·rcases List.mem_cons.1 he with rfl|he
  ·exact ho
  ·exact h.ent e he
 ·cases pre with
  |nil=>
   simp only[List.nil_append,List.cons.injEq] at hD
   obtain⟨rfl,rfl⟩:=hD
   simp only[cS] at hnd
   cases hnd
  |cons p pre=>
   simp only[List.cons_append,List.cons.injEq] at hD
   have hem:e∈Dv:=by rw[hD.2];simp
   rw[bH (hDvi e hem)] at hnd
   refine(h.obl pre e post hD.2 hnd).mono (fun w hw=>hw.1) (fun hr=>?_)
   have hord:ord0=(Dv.map (·.i)).reverse++i::ord:=h.idx.symm
   have hs:=((gG [] ord0 c.ok _ i _ hord o ho).2 hgi).2 e.i (Or.inr (by rw[List.mem_reverse];exact List.mem_map.2 ⟨e,hem,rfl⟩)) hr
   have:=eK h.closed i o ho hed e.i hs
   rw[this] at hnd
   cases hnd
 ·cases hd:o.dst<;>simp[Act.put,h.size]
 ·cases hd:o.dst<;>simp[Act.put,h.defers]
 ·simp only[jq,cS,if_true] at hu
  rw[iS Dv hDvi] at hu
  by_cases hd:o.dst=some t
  ·rw[if_pos hd] at hu
   cases hu
   rw[hd]
   simp[Act.put,h.size,c.dlt o (List.mem_of_getElem? ho) t hd]
  ·rw[if_neg hd] at hu
   have:=h.frame t u hu ht
   cases hd':o.dst with
   |none=>exact this
   |some d=>
    have hne:d≠t:=fun e1=>hd (by rw[hd',e1])
    simp only[Act.put]
    rw[Array.getElem?_setIfInBounds_ne hne]
    exact this
end
end
section
section
variable {P:Program} {n:Nat} {ops:List Oper} {Q:Exit→Act→World→Prop} {S:List Nat} {w0:World} {L0:Env} {ord0 gh:List Nat} {vs:List Vr}
variable {D:Nat→Bool} {Dv:List oQ} {ord:List Nat} {F R:World→Prop} {β:Nat→Nat} {a:Act} {w:World}
def yI(β:Nat→Nat)(i b:Nat)(j:Nat):Nat:=if j=i then b else β j
theorem kz{β:Nat→Nat}{i b j:Nat}(h:j≠i):yI β i b j=β j:=by simp[yI,h]
theorem ky{β:Nat→Nat}{i b:Nat}:yI β i b i=b:=by simp[yI]
theorem qL(c:tC n ops ord0 gh (kQ vs)){x y:Vr}(hx:x∈vs)(hy:y∈vs):x.al≠y.pt:=by
 have hn:=c.nd
 rw[List.nodup_append,List.nodup_append] at hn
 have h1:(x.al,x.pt,x.d,x.x)∈kQ vs:=List.mem_map.2 ⟨x,hx,rfl⟩
 have h2:(y.al,y.pt,y.d,y.x)∈kQ vs:=List.mem_map.2 ⟨y,hy,rfl⟩
 exact hn.1.2.2 x.al (List.mem_map.2 ⟨_,h1,rfl⟩) y.pt (List.mem_map.2 ⟨_,h2,rfl⟩)
theorem fJ{α:Type}(f:α→Nat):∀(l:List α),(l.map f).Nodup→∀x∈l,∀y∈l,f x=f y→x=y
 |[],_,x,hx,_,_,_=>by cases hx
 |z::l,hn,x,hx,y,hy,h=>by
  rw[List.map_cons,List.nodup_cons] at hn
  rcases List.mem_cons.1 hx with h1|h1
  ·rcases List.mem_cons.1 hy with h2|h2
   ·rw[h1,h2]
   ·exact absurd (List.mem_map.2 ⟨y,h2,by rw[←h,h1]⟩) hn.1
  ·rcases List.mem_cons.1 hy with h2|h2
   ·exact absurd (List.mem_map.2 ⟨x,h1,by rw[h,h2]⟩) hn.1
   ·exact fJ f l hn.2 x h1 y h2 h
theorem nx(c:tC n ops ord0 gh (kQ vs)){x y:Vr}(hx:x∈vs)(hy:y∈vs)(h:x.al=y.al):x=y:=by
 have hn:=c.nd
 rw[List.nodup_append,List.nodup_append] at hn
 have h1:=hn.1.1
 unfold kQ at h1
 rw[List.map_map] at h1
 exact fJ _ vs h1 x hx y hy h
theorem yF(c:tC n ops ord0 gh (kQ vs)){x y:Vr}(hx:x∈vs)(hy:y∈vs)(h:x.pt=y.pt):x=y:=by
 have hn:=c.nd
 rw[List.nodup_append,List.nodup_append] at hn
 have h1:=hn.1.2.1
 unfold kQ at h1
 rw[List.map_map] at h1
 exact fJ _ vs h1 x hx y hy h
theorem St.made(c:tC n ops ord0 gh (kQ vs))(h:St P n ops gh S w0 L0 ord0 vs D Dv ord F R β a w)(hFs:cm [] F)(hRs:cm [] R)(hva:∀x∈vs,da ops x.al=some x.d)
  {x:Vr} (hx:x∈vs) (hnd:D x.al=false) (hnp:D x.pt=false) {o:Oper} (ho:ops[x.al]?=some o) (hed:∀j∈dI o,D j=true) (hdst:o.dst=some x.d):
  St P n ops gh S w0 L0 ord0 vs (eN D x.al) Dv ord F R (yI β x.al w.heap.size) (a.put o.dst (.pointer (some ⟨w.heap.size,0,none⟩))) {w with heap:=w.heap.push (.cells x.z x.T)}:=by
 have hk:Kp [] w {w with heap:=w.heap.push (.cells x.z x.T)}:=Kp.push w _ rfl
 have hdn:x.d<n:=c.dlt o (List.mem_of_getElem? ho) x.d hdst
 have hDvi:∀e∈Dv,e.i≠x.al:=fun e he=>(lg c hx (h.fa he)).1.symm
 refine⟨iq h.closed ho hed,fun i hi=>?_,h.idx,h.ent,fun pre q post hD hq=>?_,?_,?_,fun t v hv ht=>?_,fun y hy hd=>?_,h.kp.trans hk.any,hFs _ _ hk h.hF,hRs _ _ hk h.hR,fun y hy hd=>?_,fun y hy z hz hdy hdz hne=>?_⟩
 ·rw[bH]
  ·exact h.fresh i hi
  ·have:i∈ord0:=by rw[←h.idx];simp[hi]
   exact(lg c hx this).1.symm
 ·rw[bH (hDvi q (by rw[hD];simp))] at hq
  exact h.obl pre q post hD hq
 ·rw[hdst];simp[Act.put,h.size]
 ·rw[hdst];simp[Act.put,h.defers]
 ·rw[iS Dv hDvi] at hv
  have:=h.frame t v hv ht
  rw[hdst]
  simp only[Act.put]
  rw[Array.getElem?_setIfInBounds_ne (ht x hx)]
  exact this
 ·rw[hdst]
  simp only[Act.put]
  by_cases e:y.al=x.al
  ·have:=nx c hy hx e
   subst this
   rw[ky]
   simp[h.size,hdn]
  ·rw[bH e] at hd
   rw[kz e]
   have hxy:x.d≠y.d:=by
    intro e1
    have h1:=hva y hy
    unfold da at h1
    cases hy1:ops[y.al]? with
    |none=>rw[hy1] at h1;simp at h1
    |some oy=>
     rw[hy1] at h1
     exact e (c.one y.al x.al oy o y.d hy1 ho h1 (by rw[hdst,e1]))
   rw[Array.getElem?_setIfInBounds_ne hxy]
   exact h.vfr y hy hd
 ·by_cases e:y.al=x.al
  ·have:=nx c hy hx e
   subst this
   rw[ky,bH (qL c hy hy).symm,hnp]
   exact⟨h.kp.size,aF.push w _⟩
  ·rw[bH e] at hd
   rw[kz e,bH (qL c hx hy).symm]
   obtain⟨h1,h2⟩:=h.vw y hy hd
   exact⟨h1,h2.ay hk⟩
 ·by_cases e:y.al=x.al
  ·have hz':z.al≠x.al:=fun e1=>hne (e.trans e1.symm)
   rw[bH hz'] at hdz
   rw[e,ky,kz hz']
   exact Nat.ne_of_gt (h.vw z hz hdz).2.lt
  ·rw[bH e] at hdy
   by_cases e':z.al=x.al
   ·rw[e',ky,kz e]
    exact Nat.ne_of_lt (h.vw y hy hdy).2.lt
   ·rw[bH e'] at hdz
    rw[kz e,kz e']
    exact h.vd y hy z hz hdy hdz hne
theorem St.filled(c:tC n ops ord0 gh (kQ vs))(h:St P n ops gh S w0 L0 ord0 vs D Dv ord F R β a w)(hF1:∀w,F w)(hR1:∀w,R w)(hS:∀x∈S,x<w0.heap.size)
  {x:Vr} (hx:x∈vs) (had:D x.al=true) (hnp:D x.pt=false) {o:Oper} (ho:ops[x.pt]?=some o) (hed:∀j∈dI o,D j=true) (hdst:o.dst=none):
  St P n ops gh S w0 L0 ord0 vs (eN D x.pt) Dv ord F R β (a.put o.dst undef) {w with heap:=w.heap.setIfInBounds (β x.al) (.cells x.c x.T)}:=by
 obtain⟨hb0,hb⟩:=h.vw x hx had
 rw[hnp] at hb
 simp only[Bool.false_eq_true,if_false] at hb
 have hk:Kp [β x.al] w {w with heap:=w.heap.setIfInBounds (β x.al) (.cells x.c x.T)}:=Kp.set w hb rfl rfl
 have hDvi:∀e∈Dv,e.i≠x.pt:=fun e he=>(lg c hx (h.fa he)).2.symm
 rw[hdst]
 refine⟨iq h.closed ho hed,fun i hi=>?_,h.idx,h.ent,fun pre q post hD hq=>?_,h.size,h.defers,fun t v hv ht=>?_,fun y hy hd=>?_,h.kp.ai hk ?_,hF1 _,hR1 _,fun y hy hd=>?_,fun y hy z hz hdy hdz hne=>?_⟩
 ·rw[bH]
  ·exact h.fresh i hi
  ·have:i∈ord0:=by rw[←h.idx];simp[hi]
   exact(lg c hx this).2.symm
 ·rw[bH (hDvi q (by rw[hD];simp))] at hq
  exact h.obl pre q post hD hq
 ·rw[iS Dv hDvi] at hv
  exact h.frame t v hv ht
 ·rw[bH (qL c hy hx)] at hd
  exact h.vfr y hy hd
 ·intro i hi
  simp only[List.mem_singleton] at hi
  exact Or.inr (hi▸hb0)
 ·rw[bH (qL c hy hx)] at hd
  obtain⟨h1,h2⟩:=h.vw y hy hd
  refine⟨h1,?_⟩
  by_cases e:y.al=x.al
  ·have:=nx c hy hx e
   subst this
   rw[cS]
   exact hb.set _
  ·have hpt:y.pt≠x.pt:=fun e1=>e (by rw[yF c hy hx e1])
   rw[bH hpt]
   exact h2.kp hk (by simp only[List.mem_singleton];exact h.vd y hy x hx hd had e)
 ·rw[bH (qL c hy hx)] at hdy
  rw[bH (qL c hz hx)] at hdz
  exact h.vd y hy z hz hdy hdz hne
end
end
section
theorem dw{l:Array Bool}{i j:Nat}(hi:i<l.size):(l.setIfInBounds i true).getD j true=eN (fun j=>l.getD j true) i j:=by
 unfold eN
 by_cases h:j=i
 ·subst h
  simp[Array.getD_eq_getD_getElem?,hi]
 ·rw[if_neg h]
  simp[Array.getD_eq_getD_getElem?,Array.getElem?_setIfInBounds_ne (fun e=>h e.symm)]
theorem dZ{ops:List Oper}{listed:Array Bool}{i:Nat}(hsz:listed.size=ops.length):i∈Region.ready .any ops.toArray listed↔
  ∃o,ops[i]?=some o∧listed.getD i true=false∧∀e∈dI o,listed.getD e false=true:=by
 unfold Region.ready
 simp only[List.mem_filter,List.mem_range,List.size_toArray,Bool.and_eq_true,Bool.not_eq_true',List.getElem?_toArray]
 constructor
 ·rintro⟨hi,h1,h2⟩
  refine⟨ops[i],by simp[hi],h1,fun e he=>?_⟩
  rw[List.getElem?_eq_getElem hi] at h2
  simp only[Option.map_some,Option.getD_some,Array.all_eq_true_iff_forall_mem] at h2
  unfold dI at he
  obtain⟨ed,hed,rfl⟩:=List.mem_map.1 he
  obtain⟨hm,hb⟩:=List.mem_filter.1 hed
  have:=h2 ed (by simpa using hm)
  simpa[hb] using this
 ·rintro⟨o,ho,h1,h2⟩
  refine⟨(List.getElem?_eq_some_iff.1 ho).1,h1,?_⟩
  rw[ho]
  simp only[Option.map_some,Option.getD_some,Array.all_eq_true_iff_forall_mem]
  intro ed hed
  cases hb:Region.binds .any ed with
  |false=>rfl
  |true=>
   have:=h2 ed.on (List.mem_map.2 ⟨ed,List.mem_filter.2 ⟨by simpa using hed,hb⟩,rfl⟩)
   simp[this]
theorem rn{β:Nat→Nat}{L:Env}{t:Nat}{v:Value}:∀(l:List Vr),look (l.map (fun v=>(v.d,Value.pointer (some ⟨β v.al,0,none⟩)))++L) t=some v→
  (∃x∈l,x.d=t∧v= .pointer (some ⟨β x.al,0,none⟩))∨((∀x∈l,x.d≠t)∧look L t=some v)
 |[],h=>Or.inr ⟨fun _ h=>(by cases h),h⟩
 |x::l,h=>by
  simp only[List.map_cons,List.cons_append] at h
  by_cases e:x.d=t
  ·subst e
   rw[iQ] at h
   cases h
   exact Or.inl ⟨x,by simp,rfl,rfl⟩
  ·rw[mN e] at h
   rcases rn l h with⟨y,hy,h1,h2⟩|⟨h1,h2⟩
   ·exact Or.inl ⟨y,by simp[hy],h1,h2⟩
   ·refine Or.inr ⟨fun y hy=>?_,h2⟩
    rcases List.mem_cons.1 hy with rfl|hy
    ·exact e
    ·exact h1 y hy
section
variable {P:Program} {n:Nat} {ops:List Oper} {Q:Exit→Act→World→Prop} {S:List Nat} {w0:World} {L0:Env} {ord0 gh:List Nat} {vs:List Vr}
theorem eL{i:Nat}{o:Oper}{K:Act→World→Prop}{a:Act}{w:World}(ho:ops[i]?=some o){r:Bool}(hw:Region.wanted o (yielded ops.toArray a.tmps)=r)
  (h1:r=true→o.wp P a w K Q) (h2:r=false→K (a.put o.dst undef) w):wpOp P ops.toArray Q i K a w:=by
 unfold wpOp
 simp only[List.getElem?_toArray,ho,hw]
 cases r with
 |true=>exact Or.inl (h1 rfl)
 |false=>exact h2 rfl
theorem St.wpAny(c:tC n ops ord0 gh (kQ vs))(hcov:∀i,i<ops.length→i∈ord0∨∃v∈kQ vs,v.1=i∨v.2.1=i)(hS:∀x∈S,x<w0.heap.size)(hva:∀x∈vs,da ops x.al=some x.d):∀(fuel:Nat) (listed:Array Bool) (F R:World→Prop) (β:Nat→Nat) (a:Act) (w:World) (Dv:List oQ) (ord:List Nat),
  listed.size=ops.length→St P n ops gh S w0 L0 ord0 vs (fun j=>listed.getD j true) Dv ord F R β a w→aI P S w0 ops gh (iI n S w0 P ops Q vs) ord (env L0 Dv) F R→cm [] F→cm [] R→(vs=[]∨((∀w,F w)∧∀w,R w))→
  (List.range ops.length).countP (fun i=> !listed.getD i true)≤fuel→Go.wpAny P .any ops.toArray Q fuel listed a w:=by
 intro fuel
 induction fuel with
 |zero=>
  intro listed F R β a w Dv ord hsz hst hder hFs hRs hvF hcnt
  have hall:∀i,i<ops.length→listed.getD i true=true:=by
   intro i hi
   have:(List.range ops.length).countP (fun i=> !listed.getD i true)=0:=by omega
   rw[List.countP_eq_zero] at this
   simpa using this i (by simpa using hi)
  obtain⟨Dv',ord',hst',hn⟩:=St.Hm c ord Dv hst hder
  refine⟨?_,?_⟩
  ·rw[List.eq_nil_iff_forall_not_mem]
   intro i hi
   obtain⟨o,ho,h1,_⟩:=(dZ hsz).1 hi
   rw[hall i (List.getElem?_eq_some_iff.1 ho).1] at h1
   cases h1
  ·rcases hn with⟨rfl,hK⟩|⟨i,ord'',o,rfl,ho,_⟩
   ·refine hK.2 β a w ⟨⟨fun t v hv=>?_,hst'.size,hst'.defers⟩,hst'.kp,hst'.hF,hst'.hR,fun v hv=>?_,fun v hv v' hv' hne=>?_⟩
    ·rcases rn vs hv with⟨x,hx,h1,h2⟩|⟨h1,h2⟩
     ·have:=hst'.vfr x hx (hall _ (by have:=hva x hx;unfold da at this;cases hh:ops[x.al]? with|none=>rw[hh] at this;simp at this|some o=>exact(List.getElem?_eq_some_iff.1 hh).1))
      rw[←h1,this,h2]
     ·refine hst'.frame t v ?_ h1
      rw[fT Dv' (fun e he _=>hall e.i (c.lt e.i (hst'.fa he)))]
      exact h2
    ·obtain⟨⟨oa,hoa,_⟩,⟨op,hop,_⟩,_⟩:=hK.1 v hv
     have h1:=hall v.al (List.getElem?_eq_some_iff.1 hoa).1
     have h2:=hall v.pt (List.getElem?_eq_some_iff.1 hop).1
     have:=hst'.vw v hv h1
     rw[if_pos h2] at this
     exact this
    ·obtain⟨⟨oa,hoa,_⟩,_,_⟩:=hK.1 v hv
     obtain⟨⟨oa',hoa',_⟩,_,_⟩:=hK.1 v' hv'
     exact hst'.vd v hv v' hv' (hall v.al (List.getElem?_eq_some_iff.1 hoa).1) (hall v'.al (List.getElem?_eq_some_iff.1 hoa').1) hne
   ·have h1:=hst'.fresh i (by simp)
    rw[hall i (List.getElem?_eq_some_iff.1 ho).1] at h1
    cases h1
 |succ fuel ih=>
  intro listed F R β a w Dv ord hsz hst hder hFs hRs hvF hcnt
  obtain⟨Dv',ord',hst',hn⟩:=St.Hm c ord Dv hst hder
  have hder':aI P S w0 ops gh (iI n S w0 P ops Q vs) ord' (env L0 Dv') F R:=by
   rcases hn with⟨rfl,hK⟩|⟨i,ord'',o,rfl,ho,hw,hg,X,val,F',R',hgh,hd⟩
   ·exact hK
   ·exact⟨o,ho,Or.inr (Or.inr (Or.inr ⟨hw,hg,X,val,F',R',hgh,hd⟩))⟩
  constructor
  ·
   intro hr
   have hall:∀i,i<ops.length→listed.getD i true=true:=by
    intro i
    induction i using Nat.strongRecOn with
    |_ i ihi=>
     intro hi
     cases hd:listed.getD i true with
     |true=>rfl
     |false=>
      exfalso
      have:i∈Region.ready .any ops.toArray listed:=by
       refine(dZ hsz).2 ⟨ops[i],by simp[hi],hd,fun e he=>?_⟩
       have hei:=c.ed i ops[i] (by simp[hi]) e he
       have:=ihi e hei (by omega)
       simp only[Array.getD_eq_getD_getElem?] at this⊢
       rw[Array.getElem?_eq_getElem (by omega)] at this⊢
       exact this
      rw[hr] at this
      cases this
   have:=ih listed F R β a w Dv' ord' hsz hst' hder' hFs hRs hvF (by
    have:(List.range ops.length).countP (fun i=> !listed.getD i true)=0:=by
     rw[List.countP_eq_zero]
     intro i hi
     simp[hall i (by simpa using hi)]
    omega)
   cases fuel with
   |zero=>exact this.2
   |succ f=>exact this.1 hr
  ·intro i hi
   obtain⟨o,ho,hnd,hed'⟩:=(dZ hsz).1 hi
   have hil:i<ops.length:=(List.getElem?_eq_some_iff.1 ho).1
   have hed:∀e∈dI o,listed.getD e true=true:=by
    intro e he
    have:=hed' e he
    simp only[Array.getD_eq_getD_getElem?] at this⊢
    cases h:listed[e]? with
    |none=>rfl
    |some b=>rw[h] at this;exact this
   have hanc:∀j,jG ops i j=true→listed.getD j true=true:=eK hst'.closed i o ho hed
   have hsz':(listed.setIfInBounds i true).size=ops.length:=by simp[hsz]
   have hset:(fun j=>(listed.setIfInBounds i true).getD j true)=eN (fun j=>listed.getD j true) i:=funext fun j=>dw (by omega)
   have hcnt':(List.range ops.length).countP (fun j=> !(listed.setIfInBounds i true).getD j true)≤fuel:=by
    have:=rH (p:=fun j=> !listed.getD j true) (q:=fun j=> !(listed.setIfInBounds i true).getD j true) (List.range ops.length) (fun x hx=>by
     rw[dw (by omega)] at hx
     by_cases e:x=i
     ·subst e;simp[cS] at hx
     ·rw[bH e] at hx;exact hx) i (by simpa using hil) (by simp[hnd]) (by rw[dw (by omega),cS];rfl)
    omega
   rcases hcov i hil with hio|⟨v,hv,hvi⟩
   ·rcases hst'.xX hio with⟨e,he,rfl⟩|hin
    ·
     have heo:o=e.o:=Option.some.inj (ho.symm.trans (hst'.ent e he))
     subst heo
     obtain⟨pre,post,hD⟩:=List.append_of_mem he
     have hlk:=hst'.looks c hD hnd hanc
     have next:∀w',Kp [] w w'→Go.wpAny P .any ops.toArray Q fuel (listed.setIfInBounds e.i true) (a.put e.o.dst e.v) w':=by
      intro w' hk
      refine ih _ F R β _ w' Dv' ord' hsz' ?_ hder' hFs hRs hvF hcnt'
      rw[hset]
      exact hst'.did c hFs hRs hva he hnd hed hk
     rcases hst'.obl pre e post hD hnd with⟨hw,hkn,hp⟩|⟨hw,hv⟩|⟨hw,_,hkn,hp⟩
     ·refine eL ho (cZ hlk hw) (fun _=>?_) (fun h=>by cases h)
      have hr:=hp w hst'.kp hst'.hF
      have hr':=bh.congr (c.sel e.o (List.mem_of_getElem? ho)) (fx hlk hkn) hr
      exact hr'.wp (fun v w' ⟨h1,h2⟩=>by rw[h1];exact next w' h2)
     ·refine eL ho (cZ hlk hw) (fun h=>by cases h) (fun _=>?_)
      rw[←hv]
      exact next w (Kp.refl _ _)
     ·refine eL ho (cZ hlk hw) (fun _=>?_) (fun h=>by cases h)
      have hr:=hp w hst'.kp hst'.hF hst'.hR
      have hr':=bh.congr (c.sel e.o (List.mem_of_getElem? ho)) (fx hlk hkn) hr
      exact hr'.wp (fun v w' ⟨h1,h2⟩=>by rw[h1];exact next w' h2)
    ·
     rcases hn with⟨rfl,_⟩|⟨k,ord'',ok,rfl,hok,hw,hg,X,val,F',R',hgh,hd⟩
     ·cases hin
     ·have hv0:vs=[]:=by
       rcases c.ng with h|h
       ·unfold kQ at h;simpa using h
       ·rw[h] at hg;cases hg
      have hord:ord0=(Dv'.map (·.i)).reverse++k::ord'':=hst'.idx.symm
      obtain⟨hs,hlater⟩:=gG [] ord0 c.ok _ k _ hord ok hok
      rcases List.mem_cons.1 hin with rfl|hin
      ·have heo:o=ok:=Option.some.inj (ho.symm.trans hok)
       subst heo
       have hlk:∀t∈ur ops o,∀v,look (env L0 Dv') t=some v→a.tmps[t]?=some v:=by
        intro t ht v hv
        obtain⟨h1,h2,h3⟩:=hs t ht
        refine hst'.frame t v ?_ (by rw[hv0];simp)
        rw[fT Dv']
        ·exact hv
        ·intro q hq hqt
         exact hanc q.i (h1 q.i (Or.inr (by rw[List.mem_reverse];exact List.mem_map.2 ⟨q,hq,rfl⟩)) (by simp[da,hst'.ent q hq,hqt]))
       obtain⟨hkn,hF's,hR's,hrun⟩:=hgh
       refine eL ho (cZ hlk hw) (fun _=>?_) (fun h=>by cases h)
       have hr:=hrun w hst'.kp hst'.hF hst'.hR
       have hr':=bh.congr (c.sel o (List.mem_of_getElem? ho)) (fx hlk hkn) hr
       refine hr'.wp (fun v w' ⟨x,h1,h2,h3,h4⟩=>?_)
       subst h1
       refine ih _ (fun w=>F w∧F' x w) (R' x) β _ w' (⟨i,o,val x⟩::Dv') ord'' hsz' ?_ (hd x) (fun w1 w2 hk hf=>⟨hFs _ _ hk hf.1,hF's x _ _ hk hf.2⟩) (hR's x) (Or.inl hv0) hcnt'
       rw[hset]
       exact hst'.ghost c hv0 hFs ho hed hg h4 h2 h3
      ·have h1:=hanc k ((hlater hg).1 i hin)
       have h2:=hst'.fresh k (by simp)
       rw[h1] at h2
       cases h2
   ·
    obtain⟨x,hx,rfl⟩:=List.mem_map.1 hv
    have hng:gh=[]:=by
     rcases c.ng with h|h
     ·unfold kQ at h;simp at h;subst h;cases hx
     ·exact h
    obtain⟨hord,hK⟩:ord'=[]∧iI n S w0 P ops Q vs (env L0 Dv') F R:=by
     rcases hn with h|⟨k,ord'',ok,rfl,hok,hw,hg,_⟩
     ·exact h
     ·rw[hng] at hg;cases hg
    obtain⟨⟨oa,hoa,ha1,ha2,ha3⟩,⟨op,hop,hp1,hp2,hp3⟩,hkn,hral,hrpt⟩:=hK.1 x hx
    have hFR:(∀w,F w)∧∀w,R w:=by
     rcases hvF with h|h
     ·rw[h] at hx;cases hx
     ·exact h
    simp only at hvi
    rcases hvi with rfl|rfl
    ·have heo:o=oa:=Option.some.inj (ho.symm.trans hoa)
     subst heo
     have hnp:listed.getD x.pt true=false:=by
      cases h:listed.getD x.pt true with
      |false=>rfl
      |true=>
       have:=eK hst'.closed x.pt op hop (hst'.closed x.pt op hop h) x.al (c.va _ hv)
       rw[this] at hnd
       cases hnd
     refine eL ho (r:=true) (by unfold Region.wanted;rw[ha3]) (fun _=>?_) (fun h=>by cases h)
     unfold Oper.wp
     have:(execOp a.eval o).run P w= .ok (.value (.pointer (some ⟨w.heap.size,0,none⟩))) {w with heap:=w.heap.push (.cells x.z x.T)}:=by
      simp[execOp,ha1,hral,Result.andThen]
     rw[this]
     simp only[Oper.upon]
     refine ih _ F R (yI β x.al w.heap.size) _ _ Dv' ord' hsz' ?_ hder' hFs hRs hvF hcnt'
     rw[hset]
     exact hst'.made c hFs hRs hva hx hnd hnp ho hed ha2
    ·have heo:o=op:=Option.some.inj (ho.symm.trans hop)
     subst heo
     have had:listed.getD x.al true=true:=hanc x.al (c.va _ hv)
     have hvx:=c.vx _ hv
     simp only at hvx
     have hb:=(hst'.vw x hx had).2
     rw[hnd] at hb
     simp only[Bool.false_eq_true,if_false] at hb
     have hea:a.eval (.tmp x.d)= .pointer (some ⟨β x.al,0,none⟩):=by
      simp[Act.eval,Array.getD_eq_getD_getElem?,hst'.vfr x hx had]
     have hex:a.eval x.x=bB (env L0 Dv') x.x:=by
      cases hxx:x.x with
      |tmp t=>
       have hkn':=hkn
       rw[hxx] at hkn'
       simp only[known,Option.isSome_iff_exists] at hkn'
       obtain⟨v,hv'⟩:=hkn'
       obtain⟨g1,g2⟩:=hvx t (by rw[hxx];simp[BH])
       have:=hst'.frame t v (by
        rw[fT Dv']
        ·exact hv'
        ·intro q hq hqt
         exact hanc q.i (g2 q.i (hst'.fa hq) (by simp[da,hst'.ent q hq,hqt]))) (fun y hy=>g1 _ (List.mem_map.2 ⟨y,hy,rfl⟩))
       simp[Act.eval,bB,hv',Array.getD_eq_getD_getElem?,this]
      |_=>rfl
     refine eL ho (r:=true) (by unfold Region.wanted;rw[hp3]) (fun _=>?_) (fun h=>by cases h)
     unfold Oper.wp
     have:(execOp a.eval o).run P w= .ok .skip {w with heap:=w.heap.setIfInBounds (β x.al) (.cells x.c x.T)}:=by
      simp[execOp,hp1,hea,hex,hrpt w _ hb,Result.andThen]
     rw[this]
     simp only[Oper.upon]
     refine ih _ F R β _ _ Dv' ord' hsz' ?_ hder' hFs hRs hvF hcnt'
     rw[hset]
     exact hst'.filled c hFR.1 hFR.2 hS hx had hnd ho hed hp2
theorem vR{id:Nat}{a:Act}(hm:P.follows .mixedOrders=true)(ord gh:List Nat)(vs:List Vr)(S:List Nat)(R:World→Prop)
  (hc:FO n ops ord gh (kQ vs)=true) (ha:Fits n a L0) (hS:∀x∈S,x<w0.heap.size) (hva:∀x∈vs,da ops x.al=some x.d) (hR0:R w0) (hRs:cm [] R) (hvR:vs=[]∨∀w,R w)
  (h:aI P S w0 ops gh (iI n S w0 P ops Q vs) ord L0 (fun _=>True) R):(Code.region id ops.toArray true).wp P Q a w0:=by
 have c:=tC.of hc
 refine wp_region_any hm ?_
 have hget:∀j,(Array.replicate ops.toArray.size false).getD j true= !decide (j<ops.length):=by
  intro j
  simp[Array.getD_eq_getD_getElem?,Array.getElem?_replicate]
  split<;>simp_all
 refine St.wpAny (L0:=L0) c (CC hc) hS hva _ _ (fun _=>True) R (fun _=>0) a _ [] ord (by simp) ?_ h (fun _ _ _ _=>trivial) hRs ?_ ?_
 ·have hD:(fun j=>(Array.replicate ops.toArray.size false).getD j true)=fun j=> !decide (j<ops.length):=funext hget
  rw[hD]
  refine⟨fun i o ho hd=>?_,fun i hi=>?_,by simp,by simp,by simp,ha.size,ha.defers,fun t v hv _=>ha.slot t v (by simpa[jq] using hv),fun x hx hd=>?_,(Kp.refl S w0).drew,trivial,hRs _ _ (Kp.refl [] w0).drew hR0,fun x hx hd=>?_,fun x hx y hy hd=>?_⟩
  ·simp[(List.getElem?_eq_some_iff.1 ho).1] at hd
  ·simp[c.lt i hi]
  all_goals
   have:=hva x hx
   unfold da at this
   cases hh:ops[x.al]? with
   |none=>rw[hh] at this;simp at this
   |some o=>simp[(List.getElem?_eq_some_iff.1 hh).1] at hd
 ·rcases hvR with h|h
  ·exact Or.inl h
  ·exact Or.inr ⟨fun _=>trivial,h⟩
 ·refine Nat.le_trans List.countP_le_length ?_
  simp
end
end
section
def sQ(n:Nat)(ops:List Oper)(ord gh:List Nat)(k:Nat):Bool:=
 ops.all (fun o=> !eJ o.op)&&ops.all (fun o=>o.dst.all (fun d=>Nat.blt d n))&&iF (ops.filterMap (·.dst))&&
 (List.range k).all (fun i=>ord.elem i)&&iF ord&&oD ops gh [] [] ord&&ord.all (fun i=>Nat.blt i k)&&Nat.ble k ops.length&&
 ((List.range ops.length).all fun i=>((ops[i]?).map fun o=>(dI o).all (fun e=>Nat.blt e i)).getD false)&&
 ((List.range ops.length).all fun i=>Nat.blt i k||(List.range i).all (fun j=>jG ops i j))
section
variable {P:Program} {n:Nat} {ops:List Oper} {Q:Exit→Act→World→Prop} {S:List Nat} {w0:World} {L0:Env} {ord0 gh:List Nat}
structure Ah(n:Nat)(ops:List Oper)(ord gh:List Nat)(k:Nat):Prop where
 sel:∀o∈ops,eJ o.op=false
 dlt:∀o∈ops,∀d,o.dst=some d→d<n
 one:∀(i j:Nat) (oi oj:Oper) (t:Nat),ops[i]?=some oi→ops[j]?=some oj→oi.dst=some t→oj.dst=some t→i=j
 cover:∀i,i<k→i∈ord
 nodup:ord.Nodup
 ok:oD ops gh [] [] ord=true
 lt:∀i∈ord,i<k
 le:k≤ops.length
 ed:∀(i:Nat) (o:Oper),ops[i]?=some o→∀e∈dI o,e<i
 tl:∀i,i<ops.length→k≤i→∀j,j<i→jG ops i j=true
theorem Ah.of{k:Nat}(h:sQ n ops ord0 gh k=true):Ah n ops ord0 gh k:=by
 simp only[sQ,Bool.and_eq_true] at h
 obtain⟨⟨⟨⟨⟨⟨⟨⟨⟨h1,h2⟩,h3⟩,h4⟩,h5⟩,h6⟩,h7⟩,h8⟩,h9⟩,h10⟩:=h
 refine⟨fun o ho=>?_,fun o ho d hd=>?_,dL ops (eH _ h3),fun i hi=>?_,eH _ h5,h6,fun i hi=>?_,by simpa[Nat.ble_eq] using h8,fun i o ho e he=>?_,fun i hi hk j hj=>?_⟩
 ·simpa using List.all_eq_true.1 h1 o ho
 ·have:=List.all_eq_true.1 h2 o ho
  rw[hd] at this
  simpa[Nat.blt_eq] using this
 ·have:=List.all_eq_true.1 h4 i (by simpa using hi)
  rw[List.elem_eq_mem] at this
  exact of_decide_eq_true this
 ·simpa[Nat.blt_eq] using List.all_eq_true.1 h7 i hi
 ·have:=List.all_eq_true.1 h9 i (by simpa using(List.getElem?_eq_some_iff.1 ho).1)
  rw[ho] at this
  simp only[Option.map_some,Option.getD_some] at this
  simpa[Nat.blt_eq] using List.all_eq_true.1 this e he
 ·have:=List.all_eq_true.1 h10 i (by simpa using hi)
  simp only[Bool.or_eq_true,Nat.blt_eq] at this
  rcases this with h|h
  ·omega
  ·exact List.all_eq_true.1 h j (by simpa using hj)
theorem Ah.chk{k:Nat}(c:Ah n ops ord0 gh k):tC n ops ord0 gh (kQ []):=
 ⟨c.sel,c.dlt,c.one,c.nodup,c.ok,fun i hi=>Nat.lt_of_lt_of_le (c.lt i hi) c.le,c.ed,by simpa[kQ] using c.nodup,by simp[kQ],by simp[kQ],Or.inl rfl⟩
theorem iW(hed:∀(i:Nat) (o:Oper),ops[i]?=some o→∀e∈dI o,e<i):∀(m k:Nat) (listed:Array Bool) (a:Act) (w:World),k+m=ops.length→listed.size=ops.length→(∀i,i<ops.length→k≤i→∀j,j<i→jG ops i j=true)→
  (∀(i:Nat) (o:Oper),ops[i]?=some o→listed.getD i true=true→∀e∈dI o,listed.getD e true=true)→(∀i,i<ops.length→listed.getD i true=decide (i<k))→wpList P ops.toArray Q (ops.drop k) a w→Go.wpAny P .any ops.toArray Q m listed a w:=by
 intro m
 induction m with
 |zero=>
  intro k listed a w hk hsz htl hcl hd h
  have:ops.drop k=[]:=List.drop_eq_nil_of_le (by omega)
  rw[this] at h
  refine⟨?_,h⟩
  rw[List.eq_nil_iff_forall_not_mem]
  intro i hi
  obtain⟨o,ho,h1,_⟩:=(dZ hsz).1 hi
  have hil:=(List.getElem?_eq_some_iff.1 ho).1
  rw[hd i hil] at h1
  simp at h1
  omega
 |succ m ih=>
  intro k listed a w hk hsz htl hcl hd h
  have hkl:k<ops.length:=by omega
  have hko:ops[k]?=some ops[k]:=by simp[hkl]
  have hread:k∈Region.ready .any ops.toArray listed:=by
   refine(dZ hsz).2 ⟨ops[k],hko,?_,fun e he=>?_⟩
   ·rw[hd k hkl];simp
   ·have hek:=hed k _ hko e he
    have:=hd e (by omega)
    simp only[Array.getD_eq_getD_getElem?] at this⊢
    rw[Array.getElem?_eq_getElem (by omega)] at this⊢
    simp at this⊢
    rw[this]
    simp[hek]
  refine⟨fun hr=>(by rw[hr] at hread;cases hread),fun i hi=>?_⟩
  obtain⟨o,ho,h1,h2⟩:=(dZ hsz).1 hi
  have hil:=(List.getElem?_eq_some_iff.1 ho).1
  have hge:k≤i:=by
   rw[hd i hil] at h1
   simpa using h1
  have hik:i=k:=by
   by_cases e:i=k
   ·exact e
   ·exfalso
    have hanc:=htl i hil hge k (by omega)
    have:=eK hcl i o ho (fun e he=>by
     have:=h2 e he
     simp only[Array.getD_eq_getD_getElem?] at this⊢
     cases h:listed[e]? with
     |none=>rfl
     |some b=>rw[h] at this;exact this) k hanc
    rw[hd k hkl] at this
    simp at this
  subst hik
  have hdrop:ops.drop i=o::ops.drop (i+1):=by
   rw[List.drop_eq_getElem_cons hil]
   congr 1
   exact(List.getElem?_eq_some_iff.1 ho).2
  rw[hdrop] at h
  have next:∀a' w',wpList P ops.toArray Q (ops.drop (i+1)) a' w'→Go.wpAny P .any ops.toArray Q m (listed.setIfInBounds i true) a' w':=by
   intro a' w' h'
   refine ih (i+1) _ a' w' (by omega) (by simp[hsz]) (fun j hj hij=>htl j hj (by omega)) ?_ ?_ h'
   ·intro j oj hj hdj e he
    rw[dw (by omega)] at hdj⊢
    by_cases hji:j=i
    ·subst hji
     rw[ho] at hj
     cases hj
     have hei:=hed j o ho e he
     exact jf (by rw[hd e (by omega)];simp[hei])
    ·rw[bH hji] at hdj
     exact jf (hcl j oj hj hdj e he)
   ·intro j hj
    rw[dw (by omega)]
    by_cases hji:j=i
    ·subst hji;simp[cS]
    ·rw[bH hji,hd j hj]
     by_cases hlt:j<i
     ·simp[hlt,Nat.lt_succ_of_lt hlt]
     ·have:¬j<i+1:=by omega
      simp[hlt,this]
  unfold wpOp
  simp only[List.getElem?_toArray,ho]
  unfold wpList at h
  by_cases hw:Region.wanted o (yielded ops.toArray a.tmps)=true
  ·rw[if_pos hw] at h⊢
   rcases h with h|h
   ·exact Or.inl (Oper.wp_mono next h)
   ·exact Or.inr h
  ·rw[if_neg hw] at h⊢
   exact next _ _ h
def lD(n:Nat)(S:List Nat)(w0:World)(P:Program)(ops:List Oper)(Q:Exit→Act→World→Prop)(k:Nat)(L:Env)(F R:World→Prop):Prop:=
 ∀w',Kp S w0 w'→F w'→R w'→∀a,Fits n a L→wpList P ops.toArray Q (ops.drop k) a w'
theorem St.FZ{k:Nat}(ct:Ah n ops ord0 gh k):∀(fuel:Nat) (listed:Array Bool) (F R:World→Prop) (a:Act) (w:World) (Dv:List oQ) (ord:List Nat),
  listed.size=ops.length→St P n ops gh S w0 L0 ord0 [] (fun j=>listed.getD j true) Dv ord F R (fun _=>0) a w→aI P S w0 ops gh (lD n S w0 P ops Q k) ord (env L0 Dv) F R→cm [] F→cm [] R→(∀i,i<ops.length→k≤i→listed.getD i true=false)→
  (List.range ops.length).countP (fun i=> !listed.getD i true)=fuel→Go.wpAny P .any ops.toArray Q fuel listed a w:=by
 have c:=ct.chk
 intro fuel
 induction fuel with
 |zero=>
  intro listed F R a w Dv ord hsz hst hder hFs hRs htl hcnt
  rw[List.countP_eq_zero] at hcnt
  have hall:∀i,i<ops.length→listed.getD i true=true:=fun i hi=>by simpa using hcnt i (by simpa using hi)
  obtain⟨Dv',ord',hst',hn⟩:=St.Hm c ord Dv hst hder
  have hk:k=ops.length:=by
   have hle:=ct.le
   by_cases h:k<ops.length
   ·have:=htl k h (Nat.le_refl _)
    rw[hall k h] at this
    cases this
   ·omega
  rcases hn with⟨rfl,hK⟩|⟨i,ord'',o,rfl,ho,_⟩
  ·refine iW ct.ed 0 k listed a w (by omega) hsz ct.tl hst'.closed (fun i hi=>by rw[hall i hi];simp;omega) (hK w hst'.kp hst'.hF hst'.hR a ⟨fun t v hv=>?_,hst'.size,hst'.defers⟩)
   refine hst'.frame t v ?_ (by simp)
   rw[fT Dv' (fun e he _=>hall e.i (c.lt e.i (hst'.fa he)))]
   exact hv
  ·have h1:=hst'.fresh i (by simp)
   rw[hall i (List.getElem?_eq_some_iff.1 ho).1] at h1
   cases h1
 |succ fuel ih=>
  intro listed F R a w Dv ord hsz hst hder hFs hRs htl hcnt
  obtain⟨Dv',ord',hst',hn⟩:=St.Hm c ord Dv hst hder
  have hder':aI P S w0 ops gh (lD n S w0 P ops Q k) ord' (env L0 Dv') F R:=by
   rcases hn with⟨rfl,hK⟩|⟨i,ord'',o,rfl,ho,hw,hg,X,val,F',R',hgh,hd⟩
   ·exact hK
   ·exact⟨o,ho,Or.inr (Or.inr (Or.inr ⟨hw,hg,X,val,F',R',hgh,hd⟩))⟩
  by_cases hpre:∀i,i<k→listed.getD i true=true
  ·
   have hle:=ct.le
   have hdec:∀i,i<ops.length→listed.getD i true=decide (i<k):=by
    intro i hi
    by_cases hik:i<k
    ·rw[hpre i hik];simp[hik]
    ·rw[htl i hi (by omega)];simp[hik]
   have hm:k+(fuel+1)=ops.length:=by
    have:(List.range ops.length).countP (fun i=> !listed.getD i true)=ops.length-k:=by
     have e1:(List.range ops.length).countP (fun i=> !listed.getD i true)=(List.range ops.length).countP (fun i=> !decide (i<k)):=by
      apply List.countP_congr
      intro i hi
      rw[hdec i (by simpa using hi)]
     rw[e1]
     have:ops.length=k+(ops.length-k):=by omega
     rw[this,List.range_add,List.countP_append,List.countP_map]
     have h1:(List.range k).countP (fun i=> !decide (i<k))=0:=by
      rw[List.countP_eq_zero];intro i hi;simp at hi;simp[hi]
     have h2:(List.range (ops.length-k)).countP ((fun i=> !decide (i<k))∘fun x=>k+x)=(List.range (ops.length-k)).length:=by
      rw[List.countP_eq_length];intro i hi;simp
     rw[h1,h2]
     simp
    omega
   rcases hn with⟨rfl,hK⟩|⟨i,ord'',o,rfl,ho,_⟩
   ·refine iW ct.ed (fuel+1) k listed a w hm hsz ct.tl hst'.closed hdec (hK w hst'.kp hst'.hF hst'.hR a ⟨fun t v hv=>?_,hst'.size,hst'.defers⟩)
    refine hst'.frame t v ?_ (by simp)
    rw[fT Dv' (fun e he _=>hpre e.i (ct.lt e.i (hst'.fa he)))]
    exact hv
   ·have h1:=hst'.fresh i (by simp)
    have hi0:i∈ord0:=by rw[←hst'.idx];simp
    rw[hpre i (ct.lt i hi0)] at h1
    cases h1
  ·constructor
   ·intro hr
    exfalso
    apply hpre
    intro i
    induction i using Nat.strongRecOn with
    |_ i ihi=>
     intro hik
     have hle:=ct.le
     cases hd:listed.getD i true with
     |true=>rfl
     |false=>
      exfalso
      have:i∈Region.ready .any ops.toArray listed:=by
       refine(dZ hsz).2 ⟨ops[i],by simp,hd,fun e he=>?_⟩
       have hei:=ct.ed i ops[i] (by simp) e he
       have:=ihi e hei (by omega)
       simp only[Array.getD_eq_getD_getElem?] at this⊢
       rw[Array.getElem?_eq_getElem (by omega)] at this⊢
       exact this
      rw[hr] at this
      cases this
   ·intro i hi
    obtain⟨o,ho,hnd,hed'⟩:=(dZ hsz).1 hi
    have hil:i<ops.length:=(List.getElem?_eq_some_iff.1 ho).1
    have hed:∀e∈dI o,listed.getD e true=true:=by
     intro e he
     have:=hed' e he
     simp only[Array.getD_eq_getD_getElem?] at this⊢
     cases h:listed[e]? with
     |none=>rfl
     |some b=>rw[h] at this;exact this
    have hanc:∀j,jG ops i j=true→listed.getD j true=true:=eK hst'.closed i o ho hed
    have hsz':(listed.setIfInBounds i true).size=ops.length:=by simp[hsz]
    have hset:(fun j=>(listed.setIfInBounds i true).getD j true)=eN (fun j=>listed.getD j true) i:=funext fun j=>dw (by omega)
    by_cases hik:i<k
    ·have htl':∀j,j<ops.length→k≤j→(listed.setIfInBounds i true).getD j true=false:=by
      intro j hj hkj
      rw[dw (by omega),bH (by omega)]
      exact htl j hj hkj
     have hcnt':(List.range ops.length).countP (fun j=> !(listed.setIfInBounds i true).getD j true)=fuel:=by
      have key:∀(l:List Nat),l.Nodup→i∈l→l.countP (fun j=> !listed.getD j true)=l.countP (fun j=> !(listed.setIfInBounds i true).getD j true)+1:=by
       intro l
       induction l with
       |nil=>intro _ h;cases h
       |cons y l ihl=>
        intro hnl hm
        rw[List.nodup_cons] at hnl
        rw[List.countP_cons,List.countP_cons]
        by_cases e:y=i
        ·subst e
         have hsame:l.countP (fun j=> !listed.getD j true)=l.countP (fun j=> !(listed.setIfInBounds y true).getD j true):=by
          apply List.countP_congr
          intro j hj
          rw[dw (by omega),bH (show j≠y from fun e1=>hnl.1 (e1▸hj))]
         rw[hsame,dw (by omega),cS,hnd]
         simp
        ·have hm':i∈l:=by
          rcases List.mem_cons.1 hm with h|h
          ·exact absurd h.symm e
          ·exact h
         rw[ihl hnl.2 hm',dw (by omega),bH e]
         omega
      have:=key (List.range ops.length) List.nodup_range (by simpa using hil)
      omega
     have hio:=ct.cover i hik
     rcases hst'.xX hio with⟨e,he,rfl⟩|hin
     ·have heo:o=e.o:=Option.some.inj (ho.symm.trans (hst'.ent e he))
      subst heo
      obtain⟨pre,post,hD⟩:=List.append_of_mem he
      have hlk:=hst'.looks c hD hnd hanc
      have next:∀w',Kp [] w w'→Go.wpAny P .any ops.toArray Q fuel (listed.setIfInBounds e.i true) (a.put e.o.dst e.v) w':=by
       intro w' hk
       refine ih _ F R _ w' Dv' ord' hsz' ?_ hder' hFs hRs htl' hcnt'
       rw[hset]
       exact hst'.did c hFs hRs (by simp) he hnd hed hk
      rcases hst'.obl pre e post hD hnd with⟨hw,hkn,hp⟩|⟨hw,hv⟩|⟨hw,_,hkn,hp⟩
      ·refine eL ho (cZ hlk hw) (fun _=>?_) (fun h=>by cases h)
       have hr:=hp w hst'.kp hst'.hF
       have hr':=bh.congr (c.sel e.o (List.mem_of_getElem? ho)) (fx hlk hkn) hr
       exact hr'.wp (fun v w' ⟨h1,h2⟩=>by rw[h1];exact next w' h2)
      ·refine eL ho (cZ hlk hw) (fun h=>by cases h) (fun _=>?_)
       rw[←hv]
       exact next w (Kp.refl _ _)
      ·refine eL ho (cZ hlk hw) (fun _=>?_) (fun h=>by cases h)
       have hr:=hp w hst'.kp hst'.hF hst'.hR
       have hr':=bh.congr (c.sel e.o (List.mem_of_getElem? ho)) (fx hlk hkn) hr
       exact hr'.wp (fun v w' ⟨h1,h2⟩=>by rw[h1];exact next w' h2)
     ·rcases hn with⟨rfl,_⟩|⟨q,ord'',ok,rfl,hok,hw,hg,X,val,F',R',hgh,hd⟩
      ·cases hin
      ·have hord:ord0=(Dv'.map (·.i)).reverse++q::ord'':=hst'.idx.symm
       obtain⟨hs,hlater⟩:=gG [] ord0 c.ok _ q _ hord ok hok
       rcases List.mem_cons.1 hin with rfl|hin
       ·have heo:o=ok:=Option.some.inj (ho.symm.trans hok)
        subst heo
        have hlk:∀t∈ur ops o,∀v,look (env L0 Dv') t=some v→a.tmps[t]?=some v:=by
         intro t ht v hv
         obtain⟨h1,h2,h3⟩:=hs t ht
         refine hst'.frame t v ?_ (by simp)
         rw[fT Dv']
         ·exact hv
         ·intro q hq hqt
          exact hanc q.i (h1 q.i (Or.inr (by rw[List.mem_reverse];exact List.mem_map.2 ⟨q,hq,rfl⟩)) (by simp[da,hst'.ent q hq,hqt]))
        obtain⟨hkn,hF's,hR's,hrun⟩:=hgh
        refine eL ho (cZ hlk hw) (fun _=>?_) (fun h=>by cases h)
        have hr:=hrun w hst'.kp hst'.hF hst'.hR
        have hr':=bh.congr (c.sel o (List.mem_of_getElem? ho)) (fx hlk hkn) hr
        refine hr'.wp (fun v w' ⟨x,h1,h2,h3,h4⟩=>?_)
        subst h1
        refine ih _ (fun w=>F w∧F' x w) (R' x) _ w' (⟨i,o,val x⟩::Dv') ord'' hsz' ?_ (hd x) (fun w1 w2 hk hf=>⟨hFs _ _ hk hf.1,hF's x _ _ hk hf.2⟩) (hR's x) htl' hcnt'
        rw[hset]
        exact hst'.ghost c rfl hFs ho hed hg h4 h2 h3
       ·have h1:=hanc q ((hlater hg).1 i hin)
        have h2:=hst'.fresh q (by simp)
        rw[h1] at h2
        cases h2
    ·exfalso
     apply hpre
     intro j hj
     exact hanc j (ct.tl i hil (by omega) j (by omega))
theorem jh{a:Act}(k:Nat)(ord gh:List Nat)(S:List Nat)(F R:World→Prop)
  (hc:sQ n ops ord gh k=true) (ha:Fits n a L0) (hF0:F w0) (hFs:cm [] F) (hR0:R w0) (hRs:cm [] R)
  (h:aI P S w0 ops gh (lD n S w0 P ops Q k) ord L0 F R):Go.wpAny P .any ops.toArray Q ops.toArray.size (Array.replicate ops.toArray.size false) a {w0 with drawn:=w0.drawn+1}:=by
 have ct:=Ah.of hc
 have hget:∀j,(Array.replicate ops.toArray.size false).getD j true= !decide (j<ops.length):=by
  intro j
  simp[Array.getD_eq_getD_getElem?,Array.getElem?_replicate]
  split<;>simp_all
 refine St.FZ (L0:=L0) ct _ _ F R a _ [] ord (by simp) ?_ h hFs hRs ?_ ?_
 ·have hD:(fun j=>(Array.replicate ops.toArray.size false).getD j true)=fun j=> !decide (j<ops.length):=funext hget
  rw[hD]
  refine⟨fun i o ho hd=>?_,fun i hi=>?_,by simp,by simp,by simp,ha.size,ha.defers,fun t v hv _=>ha.slot t v (by simpa[jq] using hv),by simp,(Kp.refl S w0).drew,hFs _ _ (Kp.refl [] w0).drew hF0,hRs _ _ (Kp.refl [] w0).drew hR0,by simp,by simp⟩
  ·simp[(List.getElem?_eq_some_iff.1 ho).1] at hd
  ·have h1:=ct.lt i hi
   have h2:=ct.le
   have:i<ops.length:=by omega
   simp[this]
 ·intro i hi _
  rw[hget];simp[hi]
 ·have:(List.range ops.length).countP (fun i=> !(Array.replicate ops.toArray.size false).getD i true)=(List.range ops.length).length:=by
   rw[List.countP_eq_length]
   intro i hi
   rw[hget]
   simp at hi
   simp[hi]
  rw[this]
  simp
theorem jW{id:Nat}{a:Act}(hm:P.follows .mixedOrders=true)(k:Nat)(ord gh:List Nat)(S:List Nat)(F R:World→Prop)
  (hc:sQ n ops ord gh k=true) (ha:Fits n a L0) (hF0:F w0) (hFs:cm [] F) (hR0:R w0) (hRs:cm [] R)
  (h:aI P S w0 ops gh (lD n S w0 P ops Q k) ord L0 F R):(Code.region id ops.toArray true).wp P Q a w0:=wp_region_any hm (jh k ord gh S F R hc ha hF0 hFs hR0 hRs h)
end
end
section
section
variable {P:Program} {n:Nat} {Q:Exit→Act→World→Prop} {L:Env} {w:World}
def CG(P:Program)(n:Nat)(c:Code)(Q:Exit→Act→World→Prop)(L:Env)(w:World):Prop:=∀a,Fits n a L→c.wp P Q a w
def NG(n:Nat)(e:Exit)(Q:Exit→Act→World→Prop)(L:Env)(w:World):Prop:=∀a,Fits n a L→Q e a w
theorem enter{f:FuncId}{fn:Func}{c:Code}{args:Array Value}{R:Ending→World→Prop}(hf:P.funcs[f]?=some fn)(hb:fn.body=some c)(m:Nat)(hn:fn.ntmps=m)(hm:args.size≤m)
  (L:Env) (hL:∀t v,look L t=some v→args[t]?=some v) (h:CG P m c (bodyPost P fn R) L w):Calls P f args w R:=by
 refine calls_of_wp hf hb (h _ ⟨fun t v hv=>?_,?_,rfl⟩)
 ·have:=hL t v hv
  have hlt:t<args.size:=(Array.getElem?_eq_some_iff.1 this).1
  simp[Array.getElem?_append_left hlt,this]
 ·simp[hn];omega
theorem CG.skip(h:NG n .normal Q L w):CG P n .skip Q L w:=fun a ha=>wp_skip (h a ha)
theorem CG.label{l:Nat}(h:NG n .normal Q L w):CG P n (.label l) Q L w:=fun a ha=>wp_label (h a ha)
theorem CG.exit{id:Nat}(h:NG n (.exit id) Q L w):CG P n (.exit id) Q L w:=fun a ha=>wp_exit (h a ha)
theorem CG.ret(h:NG n .ret Q L w):CG P n .ret Q L w:=fun a ha=>wp_ret (h a ha)
theorem CG.seq{x y:Code}(h:CG P n x (Exit.then (y.wp P Q) Q) L w):CG P n (.seq x y) Q L w:=fun a ha=>wp_seq (h a ha)
theorem CG.block{id:Nat}{c:Code}(h:CG P n c (Exit.inBlock id Q) L w):CG P n (.block id c) Q L w:=fun a ha=>wp_block (h a ha)
theorem CG.scope{c:Code}(h:CG P n c (Exit.noGoto Q) L w):CG P n (.scope c) Q L w:=fun a ha=>wp_scope_straight (h a ha)
theorem CG.cond{c:Operand}{x y:Code}{b:Bool}(hk:known L c=true)(hc:bB L c= .bool b)(h1:b=true→CG P n x Q L w)(h2:b=false→CG P n y Q L w):CG P n (.cond c x y) Q L w:=
 fun a ha=>wp_cond_split (t:=b) (by rw[ha.eval hk,hc]) (fun h=>h1 h a ha) (fun h=>h2 h a ha)
theorem CG.DY{x y:Code}(M:Env→World→Prop)(h:CG P n x (Exit.then (fun a w=>∃L,Fits n a L∧M L w) Q) L w)(h2:∀L w,M L w→CG P n y Q L w):CG P n (.seq x y) Q L w:=by
 refine CG.seq (fun a ha=>wp_mono (h a ha) (fun e a w hq=>?_))
 cases e<;>first|exact hq|(obtain⟨L,h1,h2'⟩:=hq;exact h2 L w h2' a h1)
theorem NG.cut{M:Env→World→Prop}(h:M L w):NG n .normal (Exit.then (fun a w=>∃L,Fits n a L∧M L w) Q) L w:=fun a ha=>⟨L,ha,h⟩
theorem NG.next{y:Code}(h:CG P n y Q L w):NG n .normal (Exit.then (y.wp P Q) Q) L w:=h
theorem NG.zG{K:Act→World→Prop}{id:Nat}(h:NG n (.exit id) Q L w):NG n (.exit id) (Exit.then K Q) L w:=h
theorem NG.Bi{K:Act→World→Prop}(h:NG n .ret Q L w):NG n .ret (Exit.then K Q) L w:=h
theorem NG.yZ{id:Nat}(h:NG n .ret Q L w):NG n .ret (Exit.inBlock id Q) L w:=h
theorem NG.sw{id:Nat}(h:NG n .normal Q L w):NG n .normal (Exit.inBlock id Q) L w:=h
theorem NG.wU{id id':Nat}(hid:Nat.beq id id'=true)(h:NG n .normal Q L w):NG n (.exit id) (Exit.inBlock id' Q) L w:=fun a ha=>by
 simp only[Exit.inBlock,Nat.eq_of_beq_eq_true hid,if_true];exact h a ha
theorem NG.pW{id id':Nat}(hid:Nat.beq id id'=false)(h:NG n (.exit id) Q L w):NG n (.exit id) (Exit.inBlock id' Q) L w:=fun a ha=>by
 simp only[Exit.inBlock];rw[if_neg (Nat.ne_of_beq_eq_false hid)];exact h a ha
theorem NG.yY(h:NG n .ret Q L w):NG n .ret (Exit.noGoto Q) L w:=h
theorem NG.sr(h:NG n .normal Q L w):NG n .normal (Exit.noGoto Q) L w:=h
theorem NG.wS{id:Nat}(h:NG n (.exit id) Q L w):NG n (.exit id) (Exit.noGoto Q) L w:=h
theorem exists_least{X:Type}(p:X→Prop)(μ:X→Nat)(h:∃x,p x):∃x,p x∧∀y,p y→μ x≤μ y:=by
 obtain⟨x,hx⟩:=h
 have:∀m (x:X),p x→μ x=m→∃x,p x∧∀y,p y→μ x≤μ y:=by
  intro m
  induction m using Nat.strongRecOn with
  |_ m ih=>
   intro x hx hm
   by_cases hy:∃y,p y∧μ y<μ x
   ·obtain⟨y,hy,hlt⟩:=hy
    exact ih (μ y) (by omega) y hy rfl
   ·refine⟨x,hx,fun y hpy=>?_⟩
    by_cases h:μ x≤μ y
    ·exact h
    ·exact absurd ⟨y,hpy,by omega⟩ hy
 exact this _ x hx rfl
open Classical in
noncomputable def leastOf{X:Type}(p:X→Prop)(μ:X→Nat):Nat:=if h:∃x,p x then μ (Classical.choose (exists_least p μ h)) else 0
theorem wJ{X:Type}{p:X→Prop}{μ:X→Nat}{x:X}(hx:p x):leastOf p μ≤μ x:=by
 unfold leastOf
 have h:∃x,p x:=⟨x,hx⟩
 rw[dif_pos h]
 exact(Classical.choose_spec (exists_least p μ h)).2 x hx
theorem wK{X:Type}{p:X→Prop}{μ:X→Nat}(h:∃x,p x):∃x,p x∧leastOf p μ=μ x:=by
 unfold leastOf
 rw[dif_pos h]
 exact⟨_,(Classical.choose_spec (exists_least p μ h)).1,rfl⟩
def aS:Env→Env→Prop
 |[],_=>True
 |(s,v)::M,L=>look L s=some v∧aS M L
theorem aS.of:∀{M L:Env},M.map (fun p=>Go.Proofs.YtpnjgjddabeapaaGreatDoor.look L p.1)=M.map (fun p=>some p.2)→aS M L
 |[],_,_=>True.intro
 |(s,v)::M,L,h=>by
  simp only[List.map_cons,List.cons.injEq] at h
  exact⟨h.1,aS.of h.2⟩
theorem aS.look:∀{M L:Env},aS M L→∀t v,look M t=some v→Go.Proofs.YtpnjgjddabeapaaGreatDoor.look L t=some v
 |[],_,_,t,v,h=>by simp[Go.Proofs.YtpnjgjddabeapaaGreatDoor.look] at h
 |(s,u)::M,L,hs,t,v,h=>by
  by_cases e:s=t
  ·subst e
   rw[iQ] at h
   cases h
   exact hs.1
  ·rw[mN e] at h
   exact aS.look hs.2 t v h
theorem CG.to{c:Code}(L':Env)(hs:aS L' L)(h:CG P n c Q L' w):CG P n c Q L w:=fun a ha=>h a (ha.sub hs.look)
theorem CG.loop{X:Type}{c:Code}(Lx:X→Env)(Wx:X→World→Prop)(μ:X→Nat)(x0:X)(h0:Wx x0 w)(hL:aS (Lx x0) L)
  (h:∀x w,Wx x w→CG P n c (Exit.then (fun a w=>∃x',Fits n a (Lx x')∧Wx x' w∧μ x'<μ x) Q) (Lx x) w):CG P n (.loop c) Q L w:=by
 intro a ha
 refine wp_loop (fun a w=>∃x,Fits n a (Lx x)∧Wx x w) (fun a w=>leastOf (fun x=>Fits n a (Lx x)∧Wx x w) μ) ⟨x0,ha.sub hL.look,h0⟩ ?_
 intro a w hI
 obtain⟨x,⟨hf,hw⟩,hm⟩:=wK (μ:=μ) hI
 rw[hm]
 refine wp_mono (h x w hw a hf) (fun e a' w' hq=>?_)
 cases e<;>first|exact hq|skip
 obtain⟨x',h1,h2,h3⟩:=hq
 exact⟨⟨x',h1,h2⟩,Nat.lt_of_le_of_lt (wJ ⟨h1,h2⟩) h3⟩
theorem NG.round{X:Type}{Lx:X→Env}{Wx:X→World→Prop}{μ:X→Nat}{x:X}(x':X)(hL:aS (Lx x') L)(hw:Wx x' w)(hμ:μ x'<μ x):
  NG n .normal (Exit.then (fun a w=>∃x',Fits n a (Lx x')∧Wx x' w∧μ x'<μ x) Q) L w:=fun a ha=>⟨x',ha.sub hL.look,hw,hμ⟩
def SG(P:Program)(n:Nat)(ops:List Oper)(Q:Exit→Act→World→Prop)(rest:List Oper)(L:Env)(w:World):Prop:=∀a,Fits n a L→wpList P ops.toArray Q rest a w
theorem CG.region{id:Nat}{ops:List Oper}(h:SG P n ops Q ops L w):CG P n (.region id ops.toArray false) Q L w:=fun a ha=>wp_region_lit (h a ha)
theorem SG.nil{ops:List Oper}(h:NG n .normal Q L w):SG P n ops Q [] L w:=fun a ha=>wpList_nil (h a ha)
theorem SG.op{ops:List Oper}{o:Oper}{rest:List Oper}(hd:o.dst.all (fun d=>Nat.blt d n)=true)(hs:eJ o.op=false)(hw:want ops L o=some true)(hk:o.op.operands.toList.all (known L)=true)
  (hr:bh P (bB L) o w (fun v w'=>SG P n ops Q rest (fY o.dst v L) w')):SG P n ops Q (o::rest) L w:=by
 intro a ha
 have hlk:∀t∈ur ops o,∀v,look L t=some v→a.tmps[t]?=some v:=fun t _ v hv=>ha.slot t v hv
 have hwn:=cZ hlk hw
 refine wpList_step (fun K hK=>?_)
 rw[if_pos hwn]
 refine(bh.congr hs (fx hlk hk) hr).wp (fun v w' hsg=>hK _ _ (hsg _ ?_))
 cases hdd:o.dst with
 |none=>exact ha
 |some d=>
  rw[hdd] at hd
  exact ha.put d v (by simpa[Nat.blt_eq] using hd)
theorem SG.skip{ops:List Oper}{o:Oper}{rest:List Oper}(hd:o.dst.all (fun d=>Nat.blt d n)=true)(hw:want ops L o=some false)
  (hr:SG P n ops Q rest (fY o.dst undef L) w):SG P n ops Q (o::rest) L w:=by
 intro a ha
 have hlk:∀t∈ur ops o,∀v,look L t=some v→a.tmps[t]?=some v:=fun t _ v hv=>ha.slot t v hv
 have hwn:=cZ hlk hw
 refine wpList_step (fun K hK=>?_)
 rw[if_neg (by rw[hwn];simp)]
 refine hK _ _ (hr _ ?_)
 cases hdd:o.dst with
 |none=>exact ha
 |some d=>
  rw[hdd] at hd
  exact ha.put d undef (by simpa[Nat.blt_eq] using hd)
def aK(P:Program)(S:List Nat)(w0:World)(F:World→Prop)(L:Env)(o:Oper)(v:Value):Prop:=∀w,Kp S w0 w→F w→(execOp (bB L) o).run P w= .ok (.value v) w
theorem aI.val{S:List Nat}{w0:World}{ops:List Oper}{gh:List Nat}{K:Env→(World→Prop)→(World→Prop)→Prop}{i:Nat}{ord:List Nat}{F R:World→Prop}{d:Nat}{op:Op}{ty:TypeId}{pos:String}{af:Array Edge}{g:Option (Nat×Bool)}{v:Value}
  (ho:ops[i]?=some ⟨some d,op,ty,pos,af,g⟩) (hw:want ops L ⟨some d,op,ty,pos,af,g⟩=some true) (hk:op.operands.toList.all (known L)=true) (hv:aK P S w0 F L ⟨some d,op,ty,pos,af,g⟩ v)
  (hd:aI P S w0 ops gh K ord ((d,v)::L) F R):aI P S w0 ops gh K (i::ord) L F R:=
 ⟨_,ho,Or.inr (Or.inl ⟨hw,v,⟨hk,fun w hkp hF=>by unfold bh;rw[hv w hkp hF];exact⟨rfl,Kp.refl _ _⟩⟩,hd⟩)⟩
theorem aI.skip{S:List Nat}{w0:World}{ops:List Oper}{gh:List Nat}{K:Env→(World→Prop)→(World→Prop)→Prop}{i:Nat}{ord:List Nat}{F R:World→Prop}{d:Nat}{op:Op}{ty:TypeId}{pos:String}{af:Array Edge}{g:Option (Nat×Bool)}
  (ho:ops[i]?=some ⟨some d,op,ty,pos,af,g⟩) (hw:want ops L ⟨some d,op,ty,pos,af,g⟩=some false)
  (hd:aI P S w0 ops gh K ord ((d,undef)::L) F R):aI P S w0 ops gh K (i::ord) L F R:=
 ⟨_,ho,Or.inl ⟨hw,hd⟩⟩
theorem aI.run{S:List Nat}{w0:World}{ops:List Oper}{gh:List Nat}{K:Env→(World→Prop)→(World→Prop)→Prop}{i:Nat}{ord:List Nat}{F R:World→Prop}{d:Nat}{op:Op}{ty:TypeId}{pos:String}{af:Array Edge}{g:Option (Nat×Bool)}(v:Value)
  (ho:ops[i]?=some ⟨some d,op,ty,pos,af,g⟩) (hw:want ops L ⟨some d,op,ty,pos,af,g⟩=some true) (hk:op.operands.toList.all (known L)=true) (hv:∀w,Kp S w0 w→F w→bh P (bB L) ⟨some d,op,ty,pos,af,g⟩ w (fun v' w'=>v'=v∧Kp [] w w'))
  (hd:aI P S w0 ops gh K ord ((d,v)::L) F R):aI P S w0 ops gh K (i::ord) L F R:=
 ⟨_,ho,Or.inr (Or.inl ⟨hw,v,⟨hk,hv⟩,hd⟩)⟩
theorem aI.ghost{S:List Nat}{w0:World}{ops:List Oper}{gh:List Nat}{K:Env→(World→Prop)→(World→Prop)→Prop}{i:Nat}{ord:List Nat}{F R:World→Prop}{o:Oper}{X:Type}(val:X→Value)(F' R':X→World→Prop)
  (ho:ops[i]?=some o) (hw:want ops L o=some true) (hg:gh.elem i=true) (hk:o.op.operands.toList.all (known L)=true) (hF:∀x,cm S (F' x)) (hR:∀x,cm [] (R' x))
  (hFs:cm S F) (hv:∀w,Kp S w0 w→F w→R w→bh P (bB L) o w (fun v w'=>∃x,v=val x∧F' x w'∧R' x w'∧Kp S w w'))
  (hd:∀x,aI P S w0 ops gh K ord (fY o.dst (val x) L) (fun w=>F w∧F' x w) (R' x)):aI P S w0 ops gh K (i::ord) L F R:=
 ⟨_,ho,Or.inr (Or.inr (Or.inr ⟨hw,by rw[List.elem_eq_mem] at hg;exact of_decide_eq_true hg,X,val,F',R',⟨hk,fun x w w' h=>hF x w w' h.any,hR,fun w h1 h2 h3=>(hv w h1 h2 h3).mono (fun v w' ⟨x,g1,g2,g3,g4⟩=>⟨x,g1,⟨hFs _ _ g4 h2,g2⟩,g3,h1.trans g4⟩)⟩,hd⟩))⟩
theorem aI.Jo{S:List Nat}{w0:World}{ops:List Oper}{gh:List Nat}{K:Env→(World→Prop)→(World→Prop)→Prop}{i:Nat}{ord:List Nat}{F R:World→Prop}{d:Nat}{op:Op}{ty:TypeId}{pos:String}{af:Array Edge}{g:Option (Nat×Bool)}{v:Value}
  (ho:ops[i]?=some ⟨some d,op,ty,pos,af,g⟩) (hw:want ops L ⟨some d,op,ty,pos,af,g⟩=some true) (hg:gh.elem (i+1000)=true) (hk:op.operands.toList.all (known L)=true) (hv:∀w,Kp S w0 w→F w→R w→(execOp (bB L) ⟨some d,op,ty,pos,af,g⟩).run P w= .ok (.value v) w)
  (hd:aI P S w0 ops gh K ord ((d,v)::L) F R):aI P S w0 ops gh K (i::ord) L F R:=
 ⟨_,ho,Or.inr (Or.inr (Or.inl ⟨hw,by rw[List.elem_eq_mem] at hg;exact of_decide_eq_true hg,v,⟨hk,fun w hkp hF hR=>by unfold bh;rw[hv w hkp hF hR];exact⟨rfl,Kp.refl _ _⟩⟩,hd⟩))⟩
theorem aI.j7{S:List Nat}{w0:World}{ops:List Oper}{gh:List Nat}{K:Env→(World→Prop)→(World→Prop)→Prop}{i:Nat}{ord:List Nat}{F R:World→Prop}{o:Oper}{X:Type}(val:X→Value)(F' R':X→World→Prop)
  (ho:ops[i]?=some o) (hw:want ops L o=some true) (hg:gh.elem i=true) (hk:o.op.operands.toList.all (known L)=true) (hF:∀x,cm [] (F' x)) (hR:∀x,cm [] (R' x))
  (hv:∀w,Kp S w0 w→F w→R w→bh P (bB L) o w (fun v w'=>∃x,v=val x∧(F w'∧F' x w')∧R' x w'∧Kp S w0 w'))
  (hd:∀x,aI P S w0 ops gh K ord (fY o.dst (val x) L) (fun w=>F w∧F' x w) (R' x)):aI P S w0 ops gh K (i::ord) L F R:=
 ⟨_,ho,Or.inr (Or.inr (Or.inr ⟨hw,by rw[List.elem_eq_mem] at hg;exact of_decide_eq_true hg,X,val,F',R',⟨hk,hF,hR,hv⟩,hd⟩))⟩
theorem SG.val{ops:List Oper}{rest:List Oper}{d:Nat}{op:Op}{ty:TypeId}{pos:String}{af:Array Edge}{g:Option (Nat×Bool)}{v:Value}
  (hd:Nat.blt d n=true) (hs:eJ op=false) (hw:want ops L ⟨some d,op,ty,pos,af,g⟩=some true) (hk:op.operands.toList.all (known L)=true) (hv:aK P [] w (fun _=>True) L ⟨some d,op,ty,pos,af,g⟩ v)
  (hr:SG P n ops Q rest ((d,v)::L) w):SG P n ops Q (⟨some d,op,ty,pos,af,g⟩::rest) L w:=by
 refine SG.op (by simpa using hd) hs hw hk ?_
 unfold bh
 rw[hv w (Kp.refl _ _) trivial]
 exact hr
theorem ar{ops:List Oper}{rest:List Oper}{d:Nat}{op:Op}{ty:TypeId}{pos:String}{af:Array Edge}{g:Option (Nat×Bool)}{v:Value}
  (hb:(Nat.blt d n&&(!eJ op&&(want ops L ⟨some d,op,ty,pos,af,g⟩==some true&&op.operands.toList.all (known L))))=true) (hv:aK P [] w (fun _=>True) L ⟨some d,op,ty,pos,af,g⟩ v)
  (hr:SG P n ops Q rest ((d,v)::L) w):SG P n ops Q (⟨some d,op,ty,pos,af,g⟩::rest) L w:=by
 simp only[Bool.and_eq_true,Bool.not_eq_true',beq_iff_eq] at hb
 exact SG.val hb.1 hb.2.1 hb.2.2.1 hb.2.2.2 hv hr
theorem bZ{S:List Nat}{w0:World}{ops:List Oper}{gh:List Nat}{K:Env→(World→Prop)→(World→Prop)→Prop}{i:Nat}{ord:List Nat}{F R:World→Prop}{d:Nat}{op:Op}{ty:TypeId}{pos:String}{af:Array Edge}{g:Option (Nat×Bool)}{v:Value}
  (ho:ops[i]?=some ⟨some d,op,ty,pos,af,g⟩) (hb:(want ops L ⟨some d,op,ty,pos,af,g⟩==some true&&op.operands.toList.all (known L))=true) (hv:aK P S w0 F L ⟨some d,op,ty,pos,af,g⟩ v)
  (hd:aI P S w0 ops gh K ord ((d,v)::L) F R):aI P S w0 ops gh K (i::ord) L F R:=by
 simp only[Bool.and_eq_true,beq_iff_eq] at hb
 exact aI.val ho hb.1 hb.2 hv hd
class tB(g:Prop)(g':outParam Prop):Prop where
 st:g'→g
theorem aj{g g':Prop}[s:tB g g'](h:g'):g:=s.st h
section
variable {x y:Code} {id:Nat} {c:Code} {ops:List Oper} {K:Act→World→Prop}
instance Uh:tB (CG P n (.seq x y) Q L w) (CG P n x (Exit.then (y.wp P Q) Q) L w):=⟨CG.seq⟩
instance Ug:tB (CG P n (.region id ops.toArray false) Q L w) (SG P n ops Q ops L w):=⟨CG.region⟩
instance Uf:tB (SG P n ops Q [] L w) (NG n .normal Q L w):=⟨SG.nil⟩
instance Ue:tB (NG n .normal (Exit.then (y.wp P Q) Q) L w) (CG P n y Q L w):=⟨NG.next⟩
instance Ud:tB (CG P n .skip Q L w) (NG n .normal Q L w):=⟨CG.skip⟩
instance Uc:tB (CG P n (.block id c) Q L w) (CG P n c (Exit.inBlock id Q) L w):=⟨CG.block⟩
instance Ub:tB (CG P n .ret Q L w) (NG n .ret Q L w):=⟨CG.ret⟩
instance Ua:tB (CG P n (.exit id) Q L w) (NG n (.exit id) Q L w):=⟨CG.exit⟩
instance T9:tB (CG P n (.scope c) Q L w) (CG P n c (Exit.noGoto Q) L w):=⟨CG.scope⟩
instance gsa:tB (NG n .ret (Exit.then K Q) L w) (NG n .ret Q L w):=⟨NG.Bi⟩
instance T8:tB (NG n .ret (Exit.inBlock id Q) L w) (NG n .ret Q L w):=⟨NG.yZ⟩
instance T7:tB (NG n .ret (Exit.noGoto Q) L w) (NG n .ret Q L w):=⟨NG.yY⟩
instance T6:tB (NG n (.exit id) (Exit.then K Q) L w) (NG n (.exit id) Q L w):=⟨NG.zG⟩
instance T5:tB (NG n (.exit id) (Exit.inBlock id Q) L w) (NG n .normal Q L w):=⟨fun h=>NG.wU (Nat.beq_refl id) h⟩
instance T4:tB (NG n (.exit id) (Exit.noGoto Q) L w) (NG n (.exit id) Q L w):=⟨NG.wS⟩
instance T3:tB (NG n .normal (Exit.inBlock id Q) L w) (NG n .normal Q L w):=⟨NG.sw⟩
instance T1:tB (NG n .normal (Exit.noGoto Q) L w) (NG n .normal Q L w):=⟨NG.sr⟩
end
theorem CG.draw{id:Nat}{ops:List Oper}(hm:P.follows .mixedOrders=true)(ord gh:List Nat)(vs:List Vr)(S:List Nat)(R:World→Prop)
  (hc:FO n ops ord gh (kQ vs)=true) (hS:∀x∈S,x<w.heap.size) (hva:∀x∈vs,da ops x.al=some x.d) (hR0:R w) (hRs:cm [] R) (hvR:vs=[]∨∀w,R w)
  (h:aI P S w ops gh (iI n S w P ops Q vs) ord L (fun _=>True) R):CG P n (.region id ops.toArray true) Q L w:=
 fun a ha=>vR hm ord gh vs S R hc ha hS hva hR0 hRs hvR h
theorem CG.eQ{id:Nat}{ops:List Oper}(hm:P.follows .mixedOrders=true)(ord gh:List Nat)(hc:FO n ops ord gh []=true)
  (h:aI P [] w ops gh (iI n [] w P ops Q []) ord L (fun _=>True) (fun _=>True)):CG P n (.region id ops.toArray true) Q L w:=
 CG.draw hm ord gh [] [] (fun _=>True) hc (by simp) (by simp) trivial (fun _ _ _ _=>trivial) (Or.inl rfl) h
theorem CG.tail{id:Nat}{ops:List Oper}(hm:P.follows .mixedOrders=true)(k:Nat)(ord:List Nat)(hc:sQ n ops ord [] k=true)
  (h:aI P [] w ops [] (lD n [] w P ops Q k) ord L (fun _=>True) (fun _=>True)):CG P n (.region id ops.toArray true) Q L w:=
 fun a ha=>jW hm k ord [] [] (fun _=>True) (fun _=>True) hc ha trivial (fun _ _ _ _=>trivial) trivial (fun _ _ _ _=>trivial) h
theorem CG.dM{id:Nat}{ops:List Oper}(hm:P.follows .mixedOrders=true)(k:Nat)(ord gh:List Nat)(S:List Nat)(R:World→Prop)(hc:sQ n ops ord gh k=true)(hR0:R w)(hRs:cm [] R)
  (h:aI P S w ops gh (lD n S w P ops Q k) ord L (fun _=>True) R):CG P n (.region id ops.toArray true) Q L w:=
 fun a ha=>jW hm k ord gh S (fun _=>True) R hc ha trivial (fun _ _ _ _=>trivial) hR0 hRs h
theorem CG.HI{id:Nat}{ops:List Oper}(hm:P.follows .mixedOrders=true)(k:Nat)(ord gh:List Nat)(S:List Nat)(F R:World→Prop)(hc:sQ n ops ord gh k=true)(hF0:F w)(hFs:cm [] F)(hR0:R w)(hRs:cm [] R)
  (h:aI P S w ops gh (lD n S w P ops Q k) ord L F R):CG P n (.region id ops.toArray true) Q L w:=
 fun a ha=>jW hm k ord gh S F R hc ha hF0 hFs hR0 hRs h
theorem aI.tl{S:List Nat}{w0:World}{ops:List Oper}{gh:List Nat}{F R:World→Prop}{k:Nat}(h:∀w',Kp S w0 w'→F w'→R w'→SG P n ops Q (ops.drop k) L w'):aI P S w0 ops gh (lD n S w0 P ops Q k) [] L F R:=h
theorem aI.choose{Y:Type}{S:List Nat}{w0:World}{ops:List Oper}{K:Y→Env→(World→Prop)→(World→Prop)→Prop}:∀{ord:List Nat} {L:Env} {F R:World→Prop},aI P S w0 ops [] (fun L F R=>∃y,K y L F R) ord L F R→∃y,aI P S w0 ops [] (K y) ord L F R
 |[],_,_,_,h=>h
 |i::ord,L,F,R,⟨o,ho,h⟩=>by
  rcases h with⟨hw,hd⟩|⟨hw,v,hp,hd⟩|⟨_,hg,_⟩|⟨_,hg,_⟩
  ·obtain⟨y,hy⟩:=aI.choose hd
   exact⟨y,o,ho,Or.inl ⟨hw,hy⟩⟩
  ·obtain⟨y,hy⟩:=aI.choose hd
   exact⟨y,o,ho,Or.inr (Or.inl ⟨hw,v,hp,hy⟩)⟩
  ·cases hg
  ·cases hg
def KV(n:Nat)(w0:World)(P:Program)(ops:List Oper)(Q:Exit→Act→World→Prop)(vss:List (Nat×Nat×Nat×Operand))(L:Env)(F R:World→Prop):Prop:=
 ∃vs:List Vr,kQ vs=vss∧iI n [] w0 P ops Q vs L F R
theorem CG.gZ{id:Nat}{ops:List Oper}(hm:P.follows .mixedOrders=true)(ord:List Nat)(vss:List (Nat×Nat×Nat×Operand))(hc:FO n ops ord [] vss=true)(hva:vss.all (fun v=>(da ops v.1)==some v.2.2.1)=true)
  (h:aI P [] w ops [] (KV n w P ops Q vss) ord L (fun _=>True) (fun _=>True)):CG P n (.region id ops.toArray true) Q L w:=by
 obtain⟨vs,hd⟩:=aI.choose h
 by_cases hv:kQ vs=vss
 ·subst hv
  have hd':aI P [] w ops [] (iI n [] w P ops Q vs) ord L (fun _=>True) (fun _=>True):=by
   have mono:∀{ord:List Nat} {L:Env} {F R:World→Prop},aI P [] w ops [] (fun L F R=>kQ vs=kQ vs∧iI n [] w P ops Q vs L F R) ord L F R→aI P [] w ops [] (iI n [] w P ops Q vs) ord L F R:=by
    intro ord
    induction ord with
    |nil=>intro L F R h;exact h.2
    |cons i ord ih=>
     intro L F R ⟨o,ho,h⟩
     rcases h with⟨hw,hd⟩|⟨hw,v,hp,hd⟩|⟨_,hg,_⟩|⟨_,hg,_⟩
     ·exact⟨o,ho,Or.inl ⟨hw,ih hd⟩⟩
     ·exact⟨o,ho,Or.inr (Or.inl ⟨hw,v,hp,ih hd⟩)⟩
     ·cases hg
     ·cases hg
   exact mono hd
  refine CG.draw hm ord [] vs [] (fun _=>True) hc (by simp) (fun x hx=>?_) trivial (fun _ _ _ _=>trivial) (Or.inr fun _=>trivial) hd'
  have:=List.all_eq_true.1 hva (x.al,x.pt,x.d,x.x) (List.mem_map.2 ⟨x,hx,rfl⟩)
  simpa using this
 ·exfalso
  have bad:∀{ord:List Nat} {L:Env} {F R:World→Prop},aI P [] w ops [] (fun L F R=>kQ vs=vss∧iI n [] w P ops Q vs L F R) ord L F R→False:=by
   intro ord
   induction ord with
   |nil=>intro L F R h;exact hv h.1
   |cons i ord ih=>
    intro L F R ⟨o,ho,h⟩
    rcases h with⟨hw,hd⟩|⟨hw,v,hp,hd⟩|⟨_,hg,_⟩|⟨_,hg,_⟩
    ·exact ih hd
    ·exact ih hd
    ·cases hg
    ·cases hg
  exact bad hd
theorem iI.SU{S:List Nat}{w0:World}{ops:List Oper}{F R:World→Prop}(h:∀w',Kp S w0 w'→F w'→R w'→NG n .normal Q L w'):iI n S w0 P ops Q [] L F R:=
 ⟨by simp,fun β a w' hf=>h w' hf.kp hf.hF hf.hR a (by simpa using hf.fits)⟩
theorem iI.SS{S:List Nat}{w0:World}{ops:List Oper}{F R:World→Prop}{v:Vr}(hv:fC P ops L v)(h:∀b w',Kp S w0 w'→F w'→R w'→w0.heap.size≤b→aF w' b (.cells v.c v.T)→NG n .normal Q ((v.d,.pointer (some ⟨b,0,none⟩))::L) w'):iI n S w0 P ops Q [v] L F R:=
 ⟨by simpa using hv,fun β a w' hf=>h (β v.al) w' hf.kp hf.hF hf.hR (hf.vw v (by simp)).1 (hf.vw v (by simp)).2 a (by simpa using hf.fits)⟩
theorem iI.SR{S:List Nat}{w0:World}{ops:List Oper}{F R:World→Prop}{v u:Vr}(hv:fC P ops L v)(hu:fC P ops L u)(hne:Nat.beq v.al u.al=false)
  (h:∀b c w',Kp S w0 w'→F w'→R w'→w0.heap.size≤b→w0.heap.size≤c→b≠c→aF w' b (.cells v.c v.T)→aF w' c (.cells u.c u.T)→NG n .normal Q ((v.d,.pointer (some ⟨b,0,none⟩))::(u.d,.pointer (some ⟨c,0,none⟩))::L) w'):iI n S w0 P ops Q [v,u] L F R:=
 ⟨by simpa using⟨hv,hu⟩,fun β a w' hf=>h (β v.al) (β u.al) w' hf.kp hf.hF hf.hR (hf.vw v (by simp)).1 (hf.vw u (by simp)).1 (hf.vd v (by simp) u (by simp) (Nat.ne_of_beq_eq_false hne)) (hf.vw v (by simp)).2 (hf.vw u (by simp)).2 a (by simpa using hf.fits)⟩
theorem aI.one{w0:World}{ops:List Oper}{F R:World→Prop}{al pt d:Nat}{T:TypeId}{x:Operand}{z c:Array Value}(hv:fC P ops L ⟨al,pt,d,T,x,z,c⟩)(h:∀b w',Kp [] w0 w'→w0.heap.size≤b→aF w' b (.cells c T)→NG n .normal Q ((d,.pointer (some ⟨b,0,none⟩))::L) w'):
  aI P [] w0 ops [] (KV n w0 P ops Q [(al,pt,d,x)]) [] L F R:=
 ⟨[⟨al,pt,d,T,x,z,c⟩],rfl,iI.SS hv (fun b w' hk _ _ hb hB=>h b w' hk hb hB)⟩
theorem aI.two{w0:World}{ops:List Oper}{F R:World→Prop}{al pt d:Nat}{T:TypeId}{x:Operand}{z c:Array Value}{al' pt' d':Nat}{T':TypeId}{x':Operand}{z' c':Array Value}(hv:fC P ops L ⟨al,pt,d,T,x,z,c⟩)(hu:fC P ops L ⟨al',pt',d',T',x',z',c'⟩)(hne:Nat.beq al al'=false)
  (h:∀b b' w',Kp [] w0 w'→w0.heap.size≤b→w0.heap.size≤b'→b≠b'→aF w' b (.cells c T)→aF w' b' (.cells c' T')→NG n .normal Q ((d,.pointer (some ⟨b,0,none⟩))::(d',.pointer (some ⟨b',0,none⟩))::L) w'):
  aI P [] w0 ops [] (KV n w0 P ops Q [(al,pt,d,x),(al',pt',d',x')]) [] L F R:=
 ⟨[⟨al,pt,d,T,x,z,c⟩,⟨al',pt',d',T',x',z',c'⟩],rfl,iI.SR hv hu hne (fun b c w' hk _ _ hb hc hbc hB hC=>h b c w' hk hb hc hbc hB hC)⟩
theorem aI.fin{S:List Nat}{w0:World}{ops:List Oper}{gh:List Nat}{F R:World→Prop}(h:∀w',Kp S w0 w'→F w'→R w'→NG n .normal Q L w'):aI P S w0 ops gh (iI n S w0 P ops Q []) [] L F R:=iI.SU h
end
end
section
class Ut(P:Program)(T:TypeId)(d:outParam TypeDesc):Type where
 eq:P.underlying T=some d
class dp(P:Program)(T:TypeId)(i:outParam TypeInfo):Prop where
 eq:P.info? T=some i
class cH(P:Program)(T:TypeId)(k:Nat)(off:outParam Nat)(ft:outParam TypeId):Prop where
 mk'::(eq:∃fs fd i,P.underlying T=some (.struct fs)∧fs[k]?=some fd∧fd.offset=off∧fd.type=ft∧P.info? ft=some i∧i.size≠0)
theorem cH.mk{P:Program}{T:TypeId}{k off:Nat}{ft:TypeId}(fs:Array Field)(fd:Field)(i:TypeInfo)(h:P.underlying T=some (.struct fs))(h1:fs[k]?=some fd)(h2:fd.offset=off)(h3:fd.type=ft)(h4:P.info? ft=some i)(h5:i.size≠0):cH P T k off ft:=⟨⟨fs,fd,i,h,h1,h2,h3,h4,h5⟩⟩
class Sz(P:Program)(T:TypeId)(n:outParam Nat):Prop where
 mk'::(eq:∃i,P.info? T=some i∧i.size=n)
def oh:TypeDesc→Bool
 | .struct _| .array _ _=>true
 |_=>false
def Row(w:World)(b off:Nat)(l:List Value):Prop:=∃cs T f,w.heap[b]?=some (.cells cs T f)∧∀i v,l[i]?=some v→cs[off+i]?=some v
theorem Row.lt{w:World}{b off:Nat}{l:List Value}(h:Row w b off l):b<w.heap.size:=by
 obtain⟨cs,T,f,hb,_⟩:=h
 exact(Array.getElem?_eq_some_iff.1 hb).1
theorem Row.kp{S:List Nat}{w w':World}{b off:Nat}{l:List Value}(h:Row w b off l)(k:Kp S w w')(hb:b∉S):Row w' b off l:=by
 have hl:=h.lt
 obtain⟨cs,T,f,hh,hc⟩:=h
 exact⟨cs,T,f,(k.blk b hl hb).trans hh,hc⟩
theorem Row.ay{w w':World}{b off:Nat}{l:List Value}(h:Row w b off l)(k:Kp [] w w'):Row w' b off l:=h.kp k (by simp)
theorem Row.of{w:World}{b off:Nat}{l:List Value}{cs:Array Value}{T:TypeId}{f:Nat×Nat}(h:aF w b (.cells cs T f))(pre post:List Value)(he:cs.toList=pre++(l++post))(ho:pre.length=off):Row w b off l:=by
 refine⟨cs,T,f,h,fun i v hv=>?_⟩
 have hi:i<l.length:=(List.getElem?_eq_some_iff.1 hv).1
 rw[←Array.getElem?_toList,he,List.getElem?_append_right (by omega),List.getElem?_append_left (by omega)]
 rw[←hv]
 congr 1
 omega
theorem Row.all{w:World}{b:Nat}{l:List Value}{cs:Array Value}{T:TypeId}{f:Nat×Nat}(h:aF w b (.cells cs T f))(he:cs.toList=l):Row w b 0 l:=Row.of h [] [] (by simp[he]) rfl
theorem Row.cell{w:World}{b off:Nat}{l:List Value}(h:Row w b off l){i:Nat}{v:Value}(hv:l[i]?=some v):w.cell? ⟨b,off+i,none⟩=some v:=by
 obtain⟨cs,T,f,hb,hc⟩:=h
 simp[World.cell?,hb,hc i v hv]
section
variable {P:Program} {w:World}
theorem iL{T:TypeId}{d:TypeDesc}[u:Ut P T d]:(isAgg T).run P w= .ok (oh d) w:=by
 simp only[isAgg,Sem.run_bind,run_underlying u.eq,Result.andThen]
 cases d<;>rfl
theorem jU{T:TypeId}{i:TypeInfo}[f:dp P T i]:(sizeOf T).run P w= .ok i.size w:=by
 simp[sizeOf,typeInfo,f.eq]
theorem jT{T:TypeId}{i:TypeInfo}[f:dp P T i]{z:Value}(hz:i.zero=some z):(zeroValue T).run P w= .ok z w:=by
 simp[zeroValue,typeInfo,f.eq,hz]
theorem dd(b o n:Nat):(⟨b,o,none⟩:Addr).add n=⟨b,o+n,none⟩:=by
 unfold Addr.add
 split
 ·subst_vars;rfl
 ·rfl
theorem lq{b o:Nat}{v:Value}(h:w.cell? ⟨b,o,none⟩=some v):(load ⟨b,o,none⟩).run P w= .ok v w:=by
 simp[load,Sem.run,h]
theorem run_loadCellsFrom{b off:Nat}{l:List Value}(h:Row w b off l):∀(m i:Nat) (acc:Array Value),i+m=l.length→(loadCellsFrom ⟨b,off,none⟩ i m acc).run P w= .ok (acc++(l.drop i).toArray) w
 |0,i,acc,hi=>by
  have:l.drop i=[]:=List.drop_eq_nil_of_le (by omega)
  simp[loadCellsFrom,this]
 |m+1,i,acc,hi=>by
  have hlt:i<l.length:=by omega
  simp only[loadCellsFrom,Sem.run_bind,dd]
  rw[lq (h.cell (List.getElem?_eq_getElem hlt))]
  simp only[Result.andThen]
  rw[run_loadCellsFrom h m (i+1) _ (by omega)]
  congr 1
  rw[List.drop_eq_getElem_cons hlt]
  simp
theorem gD{T:TypeId}{d:TypeDesc}{i:TypeInfo}[u:Ut P T d][f:dp P T i](ha:oh d=true){b off:Nat}{l:List Value}(h:Row w b off l)(hl:l.length=i.size):
  (Instr.loadAt T (.pointer (some ⟨b,off,none⟩))).run P w= .ok (.agg l.toArray) w:=by
 simp only[Instr.loadAt,Instr.sureAddr,loadVar,loadCells,Sem.run_bind,Sem.run_pure,Result.andThen,iL (u:=u),ha,if_true,jU (f:=f)]
 rw[run_loadCellsFrom h i.size 0 _ (by omega)]
 simp
theorem oR{T:TypeId}{d:TypeDesc}[u:Ut P T d](ha:oh d=false){b off:Nat}{v:Value}(h:Row w b off [v]):
  (Instr.loadAt T (.pointer (some ⟨b,off,none⟩))).run P w= .ok v w:=by
 simp only[Instr.loadAt,Instr.sureAddr,loadVar,Sem.run_bind,Sem.run_pure,Result.andThen,iL (u:=u),ha]
 exact lq (h.cell (i:=0) rfl)
def jd(cs:List Value)(off:Nat)(l:List Value):List Value:=cs.take off++(l++cs.drop (off+l.length))
theorem jc{cs:List Value}{off:Nat}{l:List Value}(h:off+l.length≤cs.length):(jd cs off l).length=cs.length:=by
 simp[jd];omega
theorem xE{cs l:List Value}(h:cs.length=l.length):jd cs 0 l=l:=by
 simp[jd,List.drop_eq_nil_of_le (Nat.le_of_eq h)]
theorem mu{pre old post l:List Value}(h:old.length=l.length):jd (pre++(old++post)) pre.length l=pre++(l++post):=by
 simp only[jd,List.take_left']
 congr 2
 rw[←h,←List.append_assoc,List.drop_left' (by simp)]
def jJ:Value→Bool
 | .agg _| .tuple _=>false
 |_=>true
def bF(l:List Value):Bool:=l.all jJ
theorem A7{cs l:List Value}{k:Nat}{v:Value}(h:k+(l.length+1)≤cs.length):jd (cs.set k v) (k+1) l=jd cs k (v::l):=by
 have hk:k<cs.length:=by omega
 have e1:(cs.set k v).take (k+1)=cs.take k++[v]:=by
  rw[List.set_eq_take_append_cons_drop,if_pos hk,List.take_append]
  have:(cs.take k).length=k:=by simp;omega
  rw[this]
  have h2:k+1-k=1:=by omega
  rw[h2,List.take_of_length_le (by omega)]
  simp
 have e2:(cs.set k v).drop (k+1+l.length)=cs.drop (k+(l.length+1)):=by
  rw[List.drop_set_of_lt (by omega)]
  congr 1
  omega
 unfold jd
 rw[e1,e2]
 simp
theorem qE{b o:Nat}{cs:Array Value}{T:TypeId}(h:aF w b (.cells cs T))(ho:o<cs.size){v:Value}(hv:jJ v=true):
  (store ⟨b,o,none⟩ v).run P w= .ok () {w with heap:=w.heap.setIfInBounds b (.cells (cs.setIfInBounds o v) T)}:=by
 have hc:w.cell? ⟨b,o,none⟩=some cs[o]:=by
  have:w.heap[b]?=some (.cells cs T):=h
  simp[World.cell?,this,ho]
 have hf:w.frozen? ⟨b,o,none⟩=false:=fR (o:= .cells cs T) h rfl
 have hset:w.setCell ⟨b,o,none⟩ v={w with heap:=w.heap.setIfInBounds b (.cells (cs.setIfInBounds o v) T)}:=by
  unfold World.setCell
  congr 1
  apply Array.ext_getElem?
  intro j
  rw[Array.getElem?_modify]
  by_cases e:b=j
  ·subst e
   have hb:w.heap[b]?=some (.cells cs T):=h
   rw[if_pos rfl,hb,Array.getElem?_setIfInBounds_self_of_lt h.lt]
   simp
  ·rw[if_neg e,Array.getElem?_setIfInBounds_ne e]
 have:(store ⟨b,o,none⟩ v).run P w= .ok () (w.setCell ⟨b,o,none⟩ v):=by
  cases v<;>simp[jJ] at hv<;>simp[store,Sem.run,hc,hf]
 rw[this,hset]
theorem eF{b off:Nat}{T:TypeId}:∀(l:List Value) (i:Nat) (w:World) (cs:Array Value),aF w b (.cells cs T)→off+i+l.length≤cs.size→bF l=true→
  (storeCells ⟨b,off,none⟩ l i).run P w= .ok () {w with heap:=w.heap.setIfInBounds b (.cells (jd cs.toList (off+i) l).toArray T)}
 |[],i,w,cs,h,ho,_=>by
  have hb:w.heap[b]?=some (.cells cs T):=h
  have e:w.heap.setIfInBounds b (.cells (jd cs.toList (off+i) []).toArray T)=w.heap:=by
   apply Array.ext_getElem?
   intro j
   by_cases e:b=j
   ·subst e
    rw[Array.getElem?_setIfInBounds_self_of_lt h.lt,hb]
    simp[jd]
   ·rw[Array.getElem?_setIfInBounds_ne e]
  rw[e]
  simp[storeCells]
 |v::l,i,w,cs,h,ho,ha=>by
  simp only[List.length_cons] at ho
  simp only[bF,List.all_cons,Bool.and_eq_true] at ha
  simp only[storeCells,Sem.run_bind,dd]
  rw[qE h (by omega) ha.1]
  simp only[Result.andThen]
  rw[eF l (i+1) _ (cs.setIfInBounds (off+i) v) (h.set _) (by simp;omega) ha.2]
  have e:off+(i+1)=off+i+1:=by omega
  rw[e,Array.toList_setIfInBounds,A7 (by simpa using ho)]
  simp
end
end
section
section
variable {P:Program} {w:World}
theorem fg{T:TypeId}{i:TypeInfo}[f:dp P T i]{b off:Nat}{cs:Array Value}{T':TypeId}{v:Value}(h:aF w b (.cells cs T'))(hn:v.cells.toList.length=i.size)(ho:off+v.cells.toList.length≤cs.size)(ha:bF v.cells.toList=true):
  (Instr.storeAt T (.pointer (some ⟨b,off,none⟩)) v).run P w= .ok () {w with heap:=w.heap.setIfInBounds b (.cells (jd cs.toList off v.cells.toList).toArray T')}:=by
 have hs:v.cells.size=i.size:=by simpa using hn
 simp only[Instr.storeAt,Instr.sureAddr,storeVar,Sem.run_bind,Sem.run_pure,Result.andThen,jU (f:=f),hs]
 simp only[ne_eq,not_true_eq_false,if_false]
 have:=eF (P:=P) (off:=off) v.cells.toList 0 w cs h (by omega) ha
 simpa using this
theorem nD{T:TypeId}{i:TypeInfo}[f:dp P T i]{z:Value}(hz:i.zero=some z):
  (Instr.alloc T true (.tuple #[])).run P w= .ok (.pointer (some ⟨w.heap.size,0,none⟩)) {w with heap:=w.heap.push (.cells z.cells T)}:=by
 simp only[Instr.alloc,Sem.run_bind,jT (f:=f) hz,Result.andThen]
 rfl
theorem xH{T:TypeId}{v:Value}:
  (Instr.box T v).run P w= .ok (.pointer (some ⟨w.heap.size,0,none⟩)) {w with heap:=w.heap.push (.cells v.cells T)}:=rfl
theorem fC.of{ops:List Oper}{L:Env}{al pt d:Nat}{T:TypeId}{x:Operand}{i:TypeInfo}[f:dp P T i]{z v:Value}{ty ty':TypeId}{pos pos':String}{af af':Array Edge}(hz:i.zero=some z)
  (ha:ops[al]?=some ⟨some d,.alloc T,ty,pos,af,none⟩) (hp:ops[pt]?=some ⟨none,.store T (.tmp d) x,ty',pos',af',none⟩) (hk:known L x=true) (hx:bB L x=v)
  (hn:v.cells.toList.length=i.size) (hzn:z.cells.toList.length=i.size) (ho:bF v.cells.toList=true):fC P ops L ⟨al,pt,d,T,x,z.cells,v.cells⟩:=by
 refine⟨⟨_,ha,rfl,rfl,rfl⟩,⟨_,hp,rfl,rfl,rfl⟩,hk,fun w=>nD hz,fun w b hb=>?_⟩
 show(Instr.storeAt T (.pointer (some ⟨b,0,none⟩)) (bB L x)).run P w=_
 rw[hx,fg hb hn (by simpa using Nat.le_of_eq (hn.trans hzn.symm)) ho]
 congr 4
 have h1:z.cells.toList.length=v.cells.toList.length:=hzn.trans hn.symm
 simp only[jd,List.take_zero,List.nil_append,Nat.zero_add]
 rw[List.drop_eq_nil_of_le (by omega)]
 simp
end
section
variable {P:Program} {S:List Nat} {w0:World} {F:World→Prop} {L:Env} {d:Option Nat} {ty:TypeId} {pos:String} {af:Array Edge} {g:Option (Nat×Bool)}
theorem yG{x:Operand}{v:Value}(hx:bB L x=v):aK P S w0 F L ⟨d,.move x,ty,pos,af,g⟩ v:=fun w _ _=>by simp[execOp,hx]
theorem tL{x:Operand}{v:Value}(hx:bB L x=v):aK P S w0 F L ⟨d,.assign x,ty,pos,af,g⟩ v:=fun w _ _=>by simp[execOp,hx]
theorem tH{c a b:Operand}{v:Value}(hc:bB L c= .bool true)(hx:bB L a=v):aK P S w0 F L ⟨d,.pick c a b,ty,pos,af,g⟩ v:=fun w _ _=>by simp[execOp,hc,hx,asBool]
theorem tI{c a b:Operand}{v:Value}(hc:bB L c= .bool false)(hx:bB L b=v):aK P S w0 F L ⟨d,.pick c a b,ty,pos,af,g⟩ v:=fun w _ _=>by simp[execOp,hc,hx,asBool]
theorem qz{x:Operand}{a:Addr}(hx:bB L x= .pointer (some a)):aK P S w0 F L ⟨d,.nilCheck x,ty,pos,af,g⟩ (.pointer (some a)):=fun w _ _=>by simp[execOp,hx]
theorem Au{T:TypeId}{x:Operand}{b:Bool}(hx:bB L x= .bool b):aK P S w0 F L ⟨d,.unOp .not T x,ty,pos,af,g⟩ (.bool !b):=fun w _ _=>by simp[execOp,hx,Op.unary]
theorem rR{x:Operand}{k:Nat}{vs:Array Value}{v:Value}(hx:bB L x= .tuple vs)(hv:vs[k]?=some v):aK P S w0 F L ⟨d,.extract x k,ty,pos,af,g⟩ v:=fun w _ _=>by simp[execOp,hx,Instr.extract,hv]
theorem px{T ft:TypeId}{x:Operand}{k fo:Nat}[u:cH P T k fo ft]{b off:Nat}(hx:bB L x= .pointer (some ⟨b,off,none⟩)):
  aK P S w0 F L ⟨d,.fieldAddr T x k,ty,pos,af,g⟩ (.pointer (some ⟨b,off+fo,none⟩)):=fun w _ _=>by
 obtain⟨fs,fd,i,h1,h2,h3,h4,h5,h6⟩:=u.eq
 subst h3;subst h4
 simp[execOp,hx,Instr.fieldAt,run_underlying h1,h2,Instr.sureAddr,fieldPlace,sizeOf,typeInfo,h5,h6,dd]
theorem po{T:TypeId}{x:Operand}{dc:TypeDesc}[u:Ut P T dc]{b off:Nat}{v:Value}(hx:bB L x= .pointer (some ⟨b,off,none⟩))(ha:oh dc=false)(hr:Row w0 b off [v])(hb:b∉S):
  aK P S w0 F L ⟨d,.load T x,ty,pos,af,g⟩ v:=fun w hk _=>by
 simp[execOp,hx,oR (u:=u) ha (hr.kp hk hb)]
theorem qA{T:TypeId}{x:Operand}{dc:TypeDesc}{i:TypeInfo}[u:Ut P T dc][f:dp P T i]{b off:Nat}{l:List Value}(hx:bB L x= .pointer (some ⟨b,off,none⟩))(ha:oh dc=true)(hr:Row w0 b off l)(hb:b∉S)(hl:l.length=i.size):
  aK P S w0 F L ⟨d,.load T x,ty,pos,af,g⟩ (.agg l.toArray):=fun w hk _=>by
 simp[execOp,hx,gD (u:=u) (f:=f) ha (hr.kp hk hb) hl]
def P9:Op→Bool
 | .binOp .. =>true
 |_=>false
def S1(b:BinOp):Op→Bool
 | .binOp b' .. =>decide (b'=b)
 |_=>false
def P8:Op→Bool
 | .extract .. =>true
 |_=>false
def OA:Op→Bool
 | .lookup .. =>true
 |_=>false
def OB:Op→Bool
 | .call .. =>true
 |_=>false
theorem uM{P:Program}{w:World}{T:TypeId}{x y:Value}{r:Bool}(h:∀d,(Op.equalIn (d+1) T x y).run P w= .ok r w):(Op.equal T x y).run P w= .ok r w:=h 9999
theorem rD{P:Program}{w:World}{T E:TypeId}[u:Ut P T (.pointer E)]{a:Option Addr}:(Op.equal T (.pointer a) (.pointer none)).run P w= .ok a.isNone w:=uM (fun d=>by
 cases a<;>simp only[Op.equalIn,Sem.run_bind,run_underlying u.eq,Result.andThen,Sem.run_pure,Option.isNone])
theorem AL{T T':TypeId}{x y:Operand}{a b:Int}(hx:bB L x= .int .i64 a)(hy:bB L y= .int .i64 b)(h1: -9223372036854775808≤a+b)(h2:a+b≤9223372036854775807):
  aK P S w0 F L ⟨d,.binOp .add T x y T',ty,pos,af,g⟩ (.int .i64 (a+b)):=fun w _ _=>by
 simp[execOp,hx,hy,eqGuard,binOp,Op.intArith,IntWalk.i64_in (a+b) ⟨h1,h2⟩]
theorem As{T T':TypeId}{x y:Operand}{a b:Int}(hx:bB L x= .int .i64 a)(hy:bB L y= .int .i64 b)(h1: -9223372036854775808≤a-b)(h2:a-b≤9223372036854775807):
  aK P S w0 F L ⟨d,.binOp .sub T x y T',ty,pos,af,g⟩ (.int .i64 (a-b)):=fun w _ _=>by
 simp[execOp,hx,hy,eqGuard,binOp,Op.intArith,IntWalk.i64_in (a-b) ⟨h1,h2⟩]
theorem AB{T T':TypeId}{x y:Operand}{k:IntKind}{a b:Int}(hx:bB L x= .int k a)(hy:bB L y= .int k b):aK P S w0 F L ⟨d,.binOp .lss T x y T',ty,pos,af,g⟩ (.bool (decide (a<b))):=fun w _ _=>by
 simp[execOp,hx,hy,eqGuard,binOp,Op.intCmp]
theorem AD{T T':TypeId}{x y:Operand}{k:IntKind}{a b:Int}(hx:bB L x= .int k a)(hy:bB L y= .int k b):aK P S w0 F L ⟨d,.binOp .leq T x y T',ty,pos,af,g⟩ (.bool (decide (a≤b))):=fun w _ _=>by
 simp[execOp,hx,hy,eqGuard,binOp,Op.intCmp]
theorem AE{T T':TypeId}{x y:Operand}{k:IntKind}{a b:Int}(hx:bB L x= .int k a)(hy:bB L y= .int k b):aK P S w0 F L ⟨d,.binOp .gtr T x y T',ty,pos,af,g⟩ (.bool (decide (b<a))):=fun w _ _=>by
 simp[execOp,hx,hy,eqGuard,binOp,Op.intCmp]
theorem AF{T T':TypeId}{x y:Operand}{k:IntKind}{a b:Int}(hx:bB L x= .int k a)(hy:bB L y= .int k b):aK P S w0 F L ⟨d,.binOp .geq T x y T',ty,pos,af,g⟩ (.bool (decide (b≤a))):=fun w _ _=>by
 simp[execOp,hx,hy,eqGuard,binOp,Op.intCmp]
theorem AJ{T T':TypeId}{x y:Operand}{k:IntKind}{a b:Int}(hx:bB L x= .int k a)(hy:bB L y= .int k b):aK P S w0 F L ⟨d,.binOp .eql T x y T',ty,pos,af,g⟩ (.bool (decide (a=b))):=fun w _ _=>by
 simp[execOp,hx,hy,eqGuard,binOp,Op.intCmp,BEq.beq]
theorem Az{T T':TypeId}{x y:Operand}{k:IntKind}{a b:Int}(hx:bB L x= .int k a)(hy:bB L y= .int k b):aK P S w0 F L ⟨d,.binOp .neq T x y T',ty,pos,af,g⟩ (.bool (!decide (a=b))):=fun w _ _=>by
 simp[execOp,hx,hy,eqGuard,binOp,Op.intCmp,bne,BEq.beq]
theorem AH{T T' E:TypeId}[u:Ut P T (.pointer E)]{x y:Operand}{a:Option Addr}(hx:bB L x= .pointer a)(hy:bB L y= .pointer none):aK P S w0 F L ⟨d,.binOp .eql T x y T',ty,pos,af,g⟩ (.bool a.isNone):=fun w _ _=>by
 simp[execOp,hx,hy,eqGuard,binOp,rD (u:=u)]
theorem Ay{T T' E:TypeId}[u:Ut P T (.pointer E)]{x y:Operand}{a:Option Addr}(hx:bB L x= .pointer a)(hy:bB L y= .pointer none):aK P S w0 F L ⟨d,.binOp .neq T x y T',ty,pos,af,g⟩ (.bool (!a.isNone)):=fun w _ _=>by
 simp[execOp,hx,hy,eqGuard,binOp,rD (u:=u)]
theorem yH{T T':TypeId}{dsc:TypeDesc}{k k':IntKind}[u:Ut P T dsc][u':Ut P T' (.int k')]{x:Operand}{a:Int}(hx:bB L x= .int k a):aK P S w0 F L ⟨d,.convert T T' x,ty,pos,af,g⟩ (.int k' (k'.wrap a)):=fun w _ _=>by
 simp only[execOp,hx,convert,Sem.run_bind,run_underlying u.eq,run_underlying u'.eq,Result.andThen,Conv.intToInt,Sem.run_pure]
theorem pq{T E:TypeId}[u:Ut P T (.slice E)]{x:Operand}{a:Option Addr}{n c:Nat}(hx:bB L x= .slice a n c):aK P S w0 F L ⟨d,.call {callee:= .builtin .len,args:= #[x],argTypes:= #[T]},ty,pos,af,g⟩ (.int .i64 n):=fun w _ _=>by
 simp[execOp,hx,resolve,invoke,builtin,Builtin.len_,run_underlying u.eq,goInt]
end
end
section
class bQ(P:Program)(f:FuncId):Prop where
 run:∀(w:World) (args:Array Value),(callFunc f args).run P w= .ok (.enter f args) w
section
variable {P:Program} {L:Env} {d:Option Nat} {ty:TypeId} {pos:String} {af:Array Edge} {g:Option (Nat×Bool)} {w:World} {R:Value→World→Prop}
theorem Be{f:FuncId}[h:bQ P f]{args:Array Operand}{tys:Array TypeId}:(execOp (bB L) ⟨d,.call ⟨.value (.func f),args,tys⟩,ty,pos,af,g⟩).run P w= .ok (.enter f (args.map (bB L))) w:=by
 simp[execOp,resolve,bB,Deferred.ofValue,invoke,h.run]
theorem fj{f:FuncId}[bQ P f]{args:Array Operand}{tys:Array TypeId}(h:Calls P f (args.map (bB L)) w (fun e w'=>∃v,e= .returned v∧R v w')):
  bh P (bB L) ⟨d,.call ⟨.value (.func f),args,tys⟩,ty,pos,af,g⟩ w R:=by
 unfold bh
 rw[Be]
 exact h
def dz(P:Program)(f:FuncId)(args:Array Value)(w:World)(v:Value):Prop:=Calls P f args w (fun e w'=>e= .returned v∧Kp [] w w')
def bz(L:Env):List Operand→List Value→Prop
 |[],[]=>True
 |x::xs,v::vs=>bB L x=v∧bz L xs vs
 |_,_=>False
theorem bz.of{L:Env}:∀{xs:List Operand} {vs:List Value},xs.map (bB L)=vs→bz L xs vs
 |[],_,rfl=>True.intro
 |x::xs,_,rfl=>⟨rfl,bz.of rfl⟩
theorem bz.map{L:Env}:∀{xs:List Operand} {vs:List Value},bz L xs vs→xs.map (bB L)=vs
 |[],[],_=>rfl
 |x::xs,v::vs,h=>by simp[h.1,bz.map h.2]
 |[],_::_,h=>h.elim
 |_::_,[],h=>h.elim
theorem bz.arr{L:Env}{xs:List Operand}{vs:List Value}(h:bz L xs vs):xs.toArray.map (bB L)=vs.toArray:=by simp[h.map]
theorem aI.call{S:List Nat}{w0:World}{ops:List Oper}{gh:List Nat}{K:Env→(World→Prop)→(World→Prop)→Prop}{i:Nat}{ord:List Nat}{F R:World→Prop}{d:Nat}{f:FuncId}[bQ P f]{args:List Operand}{vs:List Value}{tys:Array TypeId}{v:Value}
  (ho:ops[i]?=some ⟨some d,.call ⟨.value (.func f),args.toArray,tys⟩,ty,pos,af,g⟩) (hw:want ops L ⟨some d,.call ⟨.value (.func f),args.toArray,tys⟩,ty,pos,af,g⟩=some true) (hk:(Op.call ⟨.value (.func f),args.toArray,tys⟩).operands.toList.all (known L)=true)
  (he:bz L args vs) (hc:∀w,Kp S w0 w→F w→dz P f vs.toArray w v)
  (hd:aI P S w0 ops gh K ord ((d,v)::L) F R):aI P S w0 ops gh K (i::ord) L F R:=
 aI.run v ho hw hk (fun w hkp hF=>fj (by rw[he.arr];exact(hc w hkp hF).mono (fun e w' ⟨h1,h2⟩=>⟨v,h1,rfl,h2⟩))) hd
theorem SG.call{n:Nat}{Q:Exit→Act→World→Prop}{ops:List Oper}{rest:List Oper}{d:Nat}{f:FuncId}[bQ P f]{args:List Operand}{vs:List Value}{tys:Array TypeId}
  (hd:Nat.blt d n=true) (hw:want ops L ⟨some d,.call ⟨.value (.func f),args.toArray,tys⟩,ty,pos,af,g⟩=some true) (hk:(Op.call ⟨.value (.func f),args.toArray,tys⟩).operands.toList.all (known L)=true) (he:bz L args vs)
  (hc:Calls P f vs.toArray w (fun e w'=>∃v,e= .returned v∧SG P n ops Q rest ((d,v)::L) w')):SG P n ops Q (⟨some d,.call ⟨.value (.func f),args.toArray,tys⟩,ty,pos,af,g⟩::rest) L w:=
 SG.op (by simpa using hd) rfl hw hk (fj (by rw[he.arr];exact hc))
theorem SG.ret{n:Nat}{Q:Exit→Act→World→Prop}{ops:List Oper}{rest:List Oper}{d:Nat}{f:FuncId}[bQ P f]{args:List Operand}{vs:List Value}{tys:Array TypeId}{v:Value}
  (hd:Nat.blt d n=true) (hw:want ops L ⟨some d,.call ⟨.value (.func f),args.toArray,tys⟩,ty,pos,af,g⟩=some true) (hk:(Op.call ⟨.value (.func f),args.toArray,tys⟩).operands.toList.all (known L)=true) (he:bz L args vs)
  (hc:dz P f vs.toArray w v) (h:∀w',Kp [] w w'→SG P n ops Q rest ((d,v)::L) w'):SG P n ops Q (⟨some d,.call ⟨.value (.func f),args.toArray,tys⟩,ty,pos,af,g⟩::rest) L w:=
 SG.call hd hw hk he (hc.mono (fun e w' ⟨h1,h2⟩=>⟨v,h1,h w' h2⟩))
theorem SG.box{n:Nat}{Q:Exit→Act→World→Prop}{ops:List Oper}{rest:List Oper}{d:Nat}{T:TypeId}{x:Operand}{v:Value}
  (hd:Nat.blt d n=true) (hw:want ops L ⟨some d,.box T x,ty,pos,af,g⟩=some true) (hk:known L x=true) (hx:bB L x=v)
  (h:∀b w',Kp [] w w'→w.heap.size≤b→aF w' b (.cells v.cells T)→SG P n ops Q rest ((d,.pointer (some ⟨b,0,none⟩))::L) w'):SG P n ops Q (⟨some d,.box T x,ty,pos,af,g⟩::rest) L w:=by
 refine SG.op (by simpa using hd) rfl hw (by simp[Op.operands,hk]) ?_
 unfold bh
 have:(execOp (bB L) ⟨some d,.box T x,ty,pos,af,g⟩).run P w= .ok (.value (.pointer (some ⟨w.heap.size,0,none⟩))) {w with heap:=w.heap.push (.cells v.cells T)}:=by
  simp[execOp,hx,xH,Result.andThen]
 rw[this]
 exact h w.heap.size _ (Kp.push w _ rfl) (Nat.le_refl _) (aF.push w _)
theorem SG.alloc{n:Nat}{Q:Exit→Act→World→Prop}{ops:List Oper}{rest:List Oper}{d:Nat}{T:TypeId}{i:TypeInfo}[f:dp P T i]{z:Value}(hz:i.zero=some z)
  (hd:Nat.blt d n=true) (hw:want ops L ⟨some d,.alloc T,ty,pos,af,g⟩=some true)
  (h:∀b w',Kp [] w w'→w.heap.size≤b→aF w' b (.cells z.cells T)→SG P n ops Q rest ((d,.pointer (some ⟨b,0,none⟩))::L) w'):SG P n ops Q (⟨some d,.alloc T,ty,pos,af,g⟩::rest) L w:=by
 refine SG.op (by simpa using hd) rfl hw (by simp[Op.operands]) ?_
 unfold bh
 have:(execOp (bB L) ⟨some d,.alloc T,ty,pos,af,g⟩).run P w= .ok (.value (.pointer (some ⟨w.heap.size,0,none⟩))) {w with heap:=w.heap.push (.cells z.cells T)}:=by
  simp[execOp,nD hz,Result.andThen]
 rw[this]
 exact h w.heap.size _ (Kp.push w _ rfl) (Nat.le_refl _) (aF.push w _)
theorem SG.store{n:Nat}{Q:Exit→Act→World→Prop}{ops:List Oper}{rest:List Oper}{T T':TypeId}{i:TypeInfo}[f:dp P T i]{a x:Operand}{b off:Nat}{cs:Array Value}{v:Value}
  (hw:want ops L ⟨none,.store T a x,ty,pos,af,g⟩=some true) (hk:(known L a&&known L x)=true) (ha:bB L a= .pointer (some ⟨b,off,none⟩)) (hx:bB L x=v) (hb:aF w b (.cells cs T'))
  (hn:v.cells.toList.length=i.size) (ho:off+v.cells.toList.length≤cs.size) (hone:bF v.cells.toList=true)
  (h:∀w',Kp [b] w w'→aF w' b (.cells (jd cs.toList off v.cells.toList).toArray T')→SG P n ops Q rest L w'):SG P n ops Q (⟨none,.store T a x,ty,pos,af,g⟩::rest) L w:=by
 refine SG.op rfl rfl hw (by simpa[Op.operands] using hk) ?_
 unfold bh
 have:(execOp (bB L) ⟨none,.store T a x,ty,pos,af,g⟩).run P w= .ok .skip {w with heap:=w.heap.setIfInBounds b (.cells (jd cs.toList off v.cells.toList).toArray T')}:=by
  simp only[execOp,hx,ha,Sem.run_bind,fg (f:=f) hb hn ho hone,Result.andThen,Sem.run_pure]
 rw[this]
 exact h _ (Kp.set w hb rfl rfl) (hb.set _)
theorem SG.aN{n:Nat}{Q:Exit→Act→World→Prop}{ops:List Oper}{rest:List Oper}{T T':TypeId}{i:TypeInfo}[f:dp P T i]{a x:Operand}{b:Nat}{old l:List Value}
  (hw:want ops L ⟨none,.store T a x,ty,pos,af,g⟩=some true) (hk:(known L a&&known L x)=true) (ha:bB L a= .pointer (some ⟨b,0,none⟩)) (hx:bB L x= .agg l.toArray) (hb:aF w b (.cells old.toArray T'))
  (hn:l.length=i.size) (ho:old.length=i.size) (hone:bF l=true)
  (h:∀w',Kp [b] w w'→aF w' b (.cells l.toArray T')→SG P n ops Q rest L w'):SG P n ops Q (⟨none,.store T a x,ty,pos,af,g⟩::rest) L w:=by
 refine SG.store (f:=f) hw hk ha hx hb (by simpa[Value.cells] using hn) (by simp[Value.cells];omega) (by simpa[Value.cells] using hone) (fun w' h1 h2=>h w' h1 ?_)
 have e:jd old.toArray.toList 0 (Value.agg l.toArray).cells.toList=l:=by
  simp only[Value.cells]
  exact xE (by omega)
 rw[e] at h2
 exact h2
theorem SG.kD{n:Nat}{Q:Exit→Act→World→Prop}{ops:List Oper}{rest:List Oper}{T T':TypeId}{i:TypeInfo}[f:dp P T i]{a x:Operand}{b:Nat}{u v:Value}
  (hw:want ops L ⟨none,.store T a x,ty,pos,af,g⟩=some true) (hk:(known L a&&known L x)=true) (ha:bB L a= .pointer (some ⟨b,0,none⟩)) (hx:bB L x=v) (hb:aF w b (.cells #[u] T'))
  (hn:Nat.beq i.size 1=true) (hone:jJ v=true)
  (h:∀w',Kp [b] w w'→aF w' b (.cells #[v] T')→SG P n ops Q rest L w'):SG P n ops Q (⟨none,.store T a x,ty,pos,af,g⟩::rest) L w:=by
 have hc:v.cells.toList=[v]:=by cases v<;>simp[jJ] at hone<;>rfl
 refine SG.store (f:=f) hw hk ha hx hb (by rw[hc,Nat.eq_of_beq_eq_true hn];rfl) (by rw[hc];simp) (by rw[hc];simp[bF,hone]) (fun w' h1 h2=>h w' h1 ?_)
 rw[hc] at h2
 exact h2
theorem SG.cr{n:Nat}{Q:Exit→Act→World→Prop}{ops:List Oper}{rest:List Oper}{T T':TypeId}{i:TypeInfo}[f:dp P T i]{a x:Operand}{b off:Nat}{cs:Array Value}{v:Value}(pre old post:List Value)
  (hw:want ops L ⟨none,.store T a x,ty,pos,af,g⟩=some true) (hk:(known L a&&known L x)=true) (ha:bB L a= .pointer (some ⟨b,off,none⟩)) (hx:bB L x=v) (hb:aF w b (.cells cs T')) (hcs:cs.toList=pre++(old++post))
  (hn:v.cells.toList.length=i.size) (ho:old.length=i.size) (hp:pre.length=off) (hone:bF v.cells.toList=true)
  (h:∀w',Kp [b] w w'→aF w' b (.cells (pre++(v.cells.toList++post)).toArray T')→SG P n ops Q rest L w'):SG P n ops Q (⟨none,.store T a x,ty,pos,af,g⟩::rest) L w:=by
 have hlen:cs.size=(pre++(old++post)).length:=by rw[←hcs];simp
 refine SG.store (f:=f) hw hk ha hx hb hn (by rw[hlen];simp only[List.length_append];omega) hone (fun w' h1 h2=>h w' h1 ?_)
 rw[hcs,←hp,mu (by omega)] at h2
 exact h2
end
section
variable {κ ν:Type} [DecidableEq κ]
def aB:List (κ×ν)→κ→Option ν
 |[],_=>none
 |(k,v)::m,x=>if k=x then some v else aB m x
def cF:List (κ×ν)→κ→ν→List (κ×ν)
 |[],x,y=>[(x,y)]
 |(k,v)::m,x,y=>if k=x then(k,y)::m else(k,v)::cF m x y
def PO:List (κ×ν)→κ→List (κ×ν)
 |[],_=>[]
 |(k,v)::m,x=>if k=x then m else(k,v)::PO m x
theorem dV{m:List (κ×ν)}{x:κ}:aB m x=none↔∀p∈m,p.1≠x:=by
 induction m with
 |nil=>simp[aB]
 |cons p m ih=>
  obtain⟨k,v⟩:=p
  by_cases h:k=x<;>simp[aB,h,ih]
theorem dE{m:List (κ×ν)}(hn:(m.map (·.1)).Nodup){p:κ×ν}(hp:p∈m):aB m p.1=some p.2:=by
 induction m with
 |nil=>cases hp
 |cons q m ih=>
  obtain⟨k,v⟩:=q
  rw[List.map_cons,List.nodup_cons] at hn
  rcases List.mem_cons.1 hp with rfl|h
  ·simp[aB]
  ·have:k≠p.1:=fun e=>hn.1 (e▸List.mem_map.2 ⟨p,h,rfl⟩)
   simp[aB,this,ih hn.2 h]
theorem bR(m:List (κ×ν))(x z:κ)(y:ν):aB (cF m x y) z=if x=z then some y else aB m z:=by
 induction m with
 |nil=>simp[cF,aB]
 |cons p m ih=>
  obtain⟨k,v⟩:=p
  by_cases h:k=x
  ·subst h
   by_cases hz:k=z<;>simp[cF,aB,hz]
  ·by_cases hz:k=z
   ·subst hz
    have:x≠k:=fun e=>h e.symm
    simp[cF,aB,h,this]
   ·simp[cF,aB,h,hz,ih]
theorem hZ{m:List (κ×ν)}{x:κ}(y:ν)(h:aB m x=none):cF m x y=m++[(x,y)]:=by
 induction m with
 |nil=>rfl
 |cons p m ih=>
  obtain⟨k,v⟩:=p
  rw[dV] at h
  have h1:k≠x:=h (k,v) (by simp)
  have h2:aB m x=none:=dV.2 (fun p hp=>h p (by simp[hp]))
  simp[cF,h1,ih h2]
end
structure cT(P:Program)(k:TypeId){κ:Type}(enc:κ→Value):Prop where
 law:Maps.Keyed P k
 key:∀x,∃l,keyOf P k (enc x)=some l
 inj:∀x y,enc x=enc y→x=y
def aE{κ ν:Type}(w:World)(b:Nat)(enc:κ→Value)(V:ν→Value)(m:List (κ×ν)):Prop:=
 ∃es clock,aF w b (.map es clock)∧MapKept.Stamped es clock∧es.toList.map (fun e=>(e.key,e.val))=m.map (fun p=>(enc p.1,V p.2))
section
variable {κ ν:Type} {enc:κ→Value} {V:ν→Value} {m:List (κ×ν)} {w w':World} {b:Nat} {P:Program} {k T E:TypeId}
theorem aE.lt(h:aE w b enc V m):b<w.heap.size:=by obtain⟨es,c,hb,_⟩:=h;exact hb.lt
theorem aE.kp{S:List Nat}(h:aE w b enc V m)(hk:Kp S w w')(hb:b∉S):aE w' b enc V m:=by
 obtain⟨es,c,h1,h2,h3⟩:=h
 exact⟨es,c,h1.kp hk hb,h2,h3⟩
theorem aE.ay(h:aE w b enc V m)(hk:Kp [] w w'):aE w' b enc V m:=h.kp hk (by simp)
theorem aE.nodup(h:aE w b enc V m):(m.map (·.1)).Nodup:=by
 obtain⟨es,c,h1,h2,h3⟩:=h
 have h4:es.toList.map (·.key)=m.map (fun p=>enc p.1):=by
  have:=congrArg (List.map Prod.fst) h3
  simpa[Function.comp_def] using this
 have h5:=h2.2.2
 rw[h4] at h5
 rw[List.Nodup,List.pairwise_map] at h5⊢
 exact h5.imp (fun hne e=>hne (by rw[e]))
theorem fc[DecidableEq κ](hi:∀x y,enc x=enc y→x=y){x:κ}:∀{es:List MapEntry} {m:List (κ×ν)},es.map (fun e=>(e.key,e.val))=m.map (fun p=>(enc p.1,V p.2))→
  ((∀e∈es,e.key≠enc x)→aB m x=none)∧(∀(j:Nat) (e:MapEntry),es[j]?=some e→e.key=enc x→(es.map (·.key)).Nodup→∃y,aB m x=some y∧e.val=V y∧(es.set j {e with key:=enc x}).map (·.key)=es.map (·.key)∧
   ∀z,(es.set j {e with key:=enc x,val:=V z}).map (fun e=>(e.key,e.val))=(cF m x z).map (fun p=>(enc p.1,V p.2)))
 |[],m,h=>by
  have:m=[]:=by simpa using h.symm
  subst this
  exact⟨fun _=>rfl,fun j e he=>by simp at he⟩
 |e0::es,m,h=>by
  cases m with
  |nil=>simp at h
  |cons p m=>
   obtain⟨k0,v0⟩:=p
   simp only[List.map_cons,List.cons.injEq,Prod.mk.injEq] at h
   obtain⟨⟨hk,hv⟩,hr⟩:=h
   obtain⟨ih1,ih2⟩:=fc hi (x:=x) hr
   constructor
   ·intro hne
    have hk0:k0≠x:=fun e=>hne e0 (by simp) (by rw[hk,e])
    simp only[aB,hk0,if_false]
    exact ih1 (fun e he=>hne e (by simp[he]))
   ·intro j e he hek hnd
    cases j with
    |zero=>
     simp at he
     subst he
     have hk0:k0=x:=hi _ _ (by rw[←hk,hek])
     subst hk0
     exact⟨v0,by simp[aB],hv,by simp[hk],fun z=>by simp[cF,hr]⟩
    |succ j=>
     simp only[List.getElem?_cons_succ] at he
     rw[List.map_cons,List.nodup_cons] at hnd
     have hk0:k0≠x:=fun e1=>hnd.1 (by
      rw[hk,e1,←hek]
      exact List.mem_map.2 ⟨e,List.mem_of_getElem? he,rfl⟩)
     obtain⟨y,h1,h2,h3,h4⟩:=ih2 j e he hek hnd.2
     refine⟨y,by simp[aB,hk0,h1],h2,by simpa using h3,fun z=>?_⟩
     simp only[List.set_cons_succ,List.map_cons,cF,hk0,if_false,hk,hv,h4 z]
theorem aE.keys(h:aE w b enc V m)(K:cT P k enc):∃es clock,aF w b (.map es clock)∧MapKept.Stamped es clock∧es.toList.map (fun e=>(e.key,e.val))=m.map (fun p=>(enc p.1,V p.2))∧∀e∈es.toList,∃l,keyOf P k e.key=some l:=by
 obtain⟨es,c,h1,h2,h3⟩:=h
 refine⟨es,c,h1,h2,h3,fun e he=>?_⟩
 have:(e.key,e.val)∈m.map (fun p=>(enc p.1,V p.2)):=by rw[←h3];exact List.mem_map.2 ⟨e,he,rfl⟩
 obtain⟨p,_,hp⟩:=List.mem_map.1 this
 simp only[Prod.mk.injEq] at hp
 rw[←hp.1]
 exact K.key p.1
theorem vM[DecidableEq κ][u:Ut P T (.map k E)]{i:TypeInfo}[f:dp P E i]{z:Value}(hz:i.zero=some z)(h:aE w b enc V m)(K:cT P k enc)(x:κ)(ok:Bool):
  (Instr.lookup T (.map (some b)) (enc x) ok).run P w= .ok (match aB m x with
   |some y=>if ok then .tuple #[V y,.bool true] else V y
   |none=>if ok then .tuple #[z,.bool false] else z) w:=by
 obtain⟨es,c,hb,hst,hm,hks⟩:=h.keys K
 obtain⟨l,hl⟩:=K.key x
 have hb':w.heap[b]?=some (.map es c):=hb
 rcases K.law.find w hl es.toList hks with⟨h1,h2⟩|⟨j,e0,h1,h2,h3⟩
 ·have:=(fc K.inj hm (x:=x)).1 h2
  rw[this]
  simp[Instr.lookup,run_underlying u.eq,MapKept.run_getObj_map hb',K.law.check w _ hl,h1,jT (f:=f) hz,Result.andThen]
 ·obtain⟨y,hy,hv,_⟩:=(fc K.inj hm (x:=x)).2 j e0 h2 h3 hst.2.2
  rw[hy]
  simp[Instr.lookup,run_underlying u.eq,MapKept.run_getObj_map hb',K.law.check w _ hl,h1,hv,Result.andThen]
theorem iB[DecidableEq κ][u:Ut P T (.map k E)](h:aE w b enc V m)(K:cT P k enc)(x:κ)(y:ν):
  ∃o',(Instr.mapUpdate T (.map (some b)) (enc x) (V y)).run P w= .ok () {w with heap:=w.heap.setIfInBounds b o'}∧aE {w with heap:=w.heap.setIfInBounds b o'} b enc V (cF m x y)∧Kp [b] w {w with heap:=w.heap.setIfInBounds b o'}:=by
 obtain⟨es,c,hb,hst,hm,hks⟩:=h.keys K
 obtain⟨l,hl⟩:=K.key x
 have hb':w.heap[b]?=some (.map es c):=hb
 rcases K.law.find w hl es.toList hks with⟨h1,h2⟩|⟨j,e0,h1,h2,h3⟩
 ·have hn:=(fc K.inj hm (x:=x)).1 h2
  refine⟨.map (es.push ⟨enc x,V y,c⟩) (c+1),?_,⟨_,_,hb.set _,MapKept.stamped_push hst h2,?_⟩,Kp.set w hb rfl rfl⟩
  ·simp[Instr.mapUpdate,run_underlying u.eq,MapKept.run_getObj_map hb',K.law.check w _ hl,h1,MapKept.run_setObj_map _ hb',Result.andThen]
  ·rw[hZ y hn]
   simp[hm]
 ·obtain⟨y0,hy,hv,_,h4⟩:=(fc K.inj hm (x:=x)).2 j e0 h2 h3 hst.2.2
  have hj:es[j]?=some e0:=by simpa using h2
  refine⟨.map (es.modify j fun e=>{e with key:=enc x,val:=V y}) c,?_,⟨_,_,hb.set _,MapKept.stamped_modify hst _ _ (fun _ _=>rfl) (fun e' _ he'=>?_),?_⟩,Kp.set w hb rfl rfl⟩
  ·simp[Instr.mapUpdate,run_underlying u.eq,MapKept.run_getObj_map hb',K.law.check w _ hl,h1,hj,h3,K.law.stays w hl,MapKept.run_setObj_map _ hb',Result.andThen]
  ·rw[hj] at he'
   cases he'
   exact h3.symm
  ·rw[Array.toList_modify,ChangeMaps.modify_eq_set _ _ _ _ h2]
   exact h4 y
theorem oq[DecidableEq κ]{S:List Nat}{w0:World}{F:World→Prop}{L:Env}{d:Option Nat}{ty:TypeId}{pos:String}{af:Array Edge}{g:Option (Nat×Bool)}{x y:Operand}[u:Ut P T (.map k E)]{i:TypeInfo}[f:dp P E i]{z:Value}{kx:κ}{ok:Bool}
  (hx:bB L x= .map (some b)) (hy:bB L y=enc kx) (h:aE w0 b enc V m) (hb:b∉S) (K:cT P k enc) (hz:i.zero=some z):
  aK P S w0 F L ⟨d,.lookup T x y ok,ty,pos,af,g⟩ (match aB m kx with
   |some y=>if ok then .tuple #[V y,.bool true] else V y
   |none=>if ok then .tuple #[z,.bool false] else z):=fun w hk _=>by
 simp only[execOp,hx,hy,Sem.run_bind,vM (u:=u) (f:=f) hz (h.kp hk hb) K kx ok,Result.andThen,Sem.run_pure]
theorem jO[DecidableEq κ]{S:List Nat}{w0:World}{F:World→Prop}{L:Env}{d:Option Nat}{ty:TypeId}{pos:String}{af:Array Edge}{g:Option (Nat×Bool)}{x y:Operand}[u:Ut P T (.map k E)]{i:TypeInfo}[f:dp P E i]{z:Value}{kx:κ}(r:Option ν)
  (hx:bB L x= .map (some b)) (hy:bB L y=enc kx) (h:aE w0 b enc V m) (hb:b∉S) (K:cT P k enc) (hz:i.zero=some z) (hr:aB m kx=r):
  aK P S w0 F L ⟨d,.lookup T x y true,ty,pos,af,g⟩ (.tuple #[(r.map V).getD z,.bool r.isSome]):=by
 have:=oq (P:=P) (S:=S) (F:=F) (L:=L) (d:=d) (ty:=ty) (pos:=pos) (af:=af) (g:=g) (ok:=true) (u:=u) (f:=f) hx hy h hb K hz
 rw[hr] at this
 cases r<;>exact this
theorem lh[DecidableEq κ]{S:List Nat}{w0:World}{F:World→Prop}{L:Env}{d:Option Nat}{ty:TypeId}{pos:String}{af:Array Edge}{g:Option (Nat×Bool)}{x y:Operand}[u:Ut P T (.map k E)]{i:TypeInfo}[f:dp P E i]{z:Value}{kx:κ}(r:Option ν)
  (hx:bB L x= .map (some b)) (hy:bB L y=enc kx) (h:aE w0 b enc V m) (hb:b∉S) (K:cT P k enc) (hz:i.zero=some z) (hr:aB m kx=r):
  aK P S w0 F L ⟨d,.lookup T x y false,ty,pos,af,g⟩ ((r.map V).getD z):=by
 have:=oq (P:=P) (S:=S) (F:=F) (L:=L) (d:=d) (ty:=ty) (pos:=pos) (af:=af) (g:=g) (ok:=false) (u:=u) (f:=f) hx hy h hb K hz
 rw[hr] at this
 cases r<;>exact this
theorem vv[DecidableEq κ]{S:List Nat}{w0:World}{F:World→Prop}{L:Env}{d:Option Nat}{ty:TypeId}{pos:String}{af:Array Edge}{g:Option (Nat×Bool)}{x y:Operand}[u:Ut P T (.map k E)]{i:TypeInfo}[f:dp P E i]{z:Value}{kx:κ}{r:ν}(hx:bB L x= .map (some b))(hy:bB L y=enc kx)(h:aE w0 b enc V m)(hb:b∉S)(K:cT P k enc)(hz:i.zero=some z)(hr:aB m kx=some r):
  aK P S w0 F L ⟨d,.lookup T x y true,ty,pos,af,g⟩ (.tuple #[V r,.bool true]):=jO (u:=u) (f:=f) (some r) hx hy h hb K hz hr
theorem vz[DecidableEq κ]{S:List Nat}{w0:World}{F:World→Prop}{L:Env}{d:Option Nat}{ty:TypeId}{pos:String}{af:Array Edge}{g:Option (Nat×Bool)}{x y:Operand}[u:Ut P T (.map k E)]{i:TypeInfo}[f:dp P E i]{z:Value}{kx:κ}(hx:bB L x= .map (some b))(hy:bB L y=enc kx)(h:aE w0 b enc V m)(hb:b∉S)(K:cT P k enc)(hz:i.zero=some z)(hr:aB m kx=none):
  aK P S w0 F L ⟨d,.lookup T x y true,ty,pos,af,g⟩ (.tuple #[z,.bool false]):=jO (u:=u) (f:=f) none hx hy h hb K hz hr
theorem tJ[DecidableEq κ]{S:List Nat}{w0:World}{F:World→Prop}{L:Env}{d:Option Nat}{ty:TypeId}{pos:String}{af:Array Edge}{g:Option (Nat×Bool)}{x y:Operand}[u:Ut P T (.map k E)]{i:TypeInfo}[f:dp P E i]{z:Value}{kx:κ}{r:ν}(hx:bB L x= .map (some b))(hy:bB L y=enc kx)(h:aE w0 b enc V m)(hb:b∉S)(K:cT P k enc)(hz:i.zero=some z)(hr:aB m kx=some r):
  aK P S w0 F L ⟨d,.lookup T x y false,ty,pos,af,g⟩ (V r):=lh (u:=u) (f:=f) (some r) hx hy h hb K hz hr
theorem tK[DecidableEq κ]{S:List Nat}{w0:World}{F:World→Prop}{L:Env}{d:Option Nat}{ty:TypeId}{pos:String}{af:Array Edge}{g:Option (Nat×Bool)}{x y:Operand}[u:Ut P T (.map k E)]{i:TypeInfo}[f:dp P E i]{z:Value}{kx:κ}(hx:bB L x= .map (some b))(hy:bB L y=enc kx)(h:aE w0 b enc V m)(hb:b∉S)(K:cT P k enc)(hz:i.zero=some z)(hr:aB m kx=none):
  aK P S w0 F L ⟨d,.lookup T x y false,ty,pos,af,g⟩ z:=lh (u:=u) (f:=f) none hx hy h hb K hz hr
theorem rQ{S:List Nat}{w0:World}{F:World→Prop}{L:Env}{d:Option Nat}{ty:TypeId}{pos:String}{af:Array Edge}{g:Option (Nat×Bool)}{x:Operand}[u:Ut P T (.map k E)]
  (hx:bB L x= .map (some b)) (h:aE w0 b enc V m) (hb:b∉S):aK P S w0 F L ⟨d,.call {callee:= .builtin .len,args:= #[x],argTypes:= #[T]},ty,pos,af,g⟩ (.int .i64 m.length):=fun w hk _=>by
 obtain⟨es,c,h1,h2,h3⟩:=h.kp hk hb
 have h1':w.heap[b]?=some (.map es c):=h1
 have:es.size=m.length:=by
  have:=congrArg List.length h3
  simpa using this
 simp[execOp,hx,resolve,invoke,builtin,Builtin.len_,run_underlying u.eq,goInt,MapKept.run_getObj_map h1',this,Result.andThen]
theorem zH[DecidableEq κ]{P:Program}{w:World}{k:TypeId}{enc:κ→Value}(K:cT P k enc)(heq:∀{x y:Value} {lx ly:Lit},keyOf P k x=some lx→keyOf P k y=some ly→∃r:Bool,(Op.equal k x y).run P w= .ok r w∧(r=true↔lx=ly))(x y:κ):
  (Op.equal k (enc x) (enc y)).run P w= .ok (decide (x=y)) w:=by
 obtain⟨lx,hx⟩:=K.key x
 obtain⟨ly,hy⟩:=K.key y
 obtain⟨r,hr,hi⟩:=heq hx hy
 rw[hr]
 congr 1
 by_cases e:x=y
 ·subst e
  rw[hx] at hy
  cases hy
  simp[hi.2 rfl]
 ·cases r with
  |false=>simp[e]
  |true=>
   have h1:=hi.1 rfl
   subst h1
   exact absurd (K.inj _ _ (K.law.inj hx hy)) e
theorem aE.made(w:World)(enc:κ→Value)(V:ν→Value):aE {w with heap:=w.heap.push (.map #[] 0)} w.heap.size enc V []:=
 ⟨#[],0,aF.push w _,MapKept.stamped_empty 0,rfl⟩
end
end
section
abbrev BA(n:Nat):={l:List UInt8//l.length=n}
abbrev bv(u:UInt8):Value:= .int .u8 (u.toNat:Int)
def dc{n:Nat}(d:BA n):List Value:=d.1.map bv
@[reducible] def dv {n:Nat} (d:BA n):Value:= .agg (dc d).toArray
theorem ah{n:Nat}(d:BA n):(dc d).length=n:=by simp[dc,d.2]
theorem bu{n:Nat}(d:BA n):bF (dc d)=true:=by simp[bF,dc,jJ]
theorem G3{a b:UInt8}(h:bv a=bv b):a=b:=by
 simp only[Value.int.injEq,true_and] at h
 exact UInt8.toNat_inj.1 (by omega)
theorem p7{n:Nat}{a b:BA n}(h:dc a=dc b):a=b:=by
 apply Subtype.ext
 unfold dc at h
 exact(List.map_inj_right (fun x y hxy=>G3 hxy)).1 h
theorem GP{n:Nat}{a b:BA n}(h:dv a=dv b):a=b:=by
 simp only[Value.agg.injEq] at h
 exact p7 (List.toArray_inj h)
section
variable {P:Program} {k e:TypeId} {n:Nat}
theorem oY(u:UInt8):(Lit.int .u8 (u.toNat:Int)).wf=true:=by
 have:=u.toNat_lt
 simp[Lit.wf,IntKind.min,IntKind.max,IntKind.signed,IntKind.bits]
 omega
theorem pM(hu:P.underlying e=some (.int .u8))(hc:P.cellsOf e=1)(D:Nat)(l:List UInt8):∀(m i:Nat),i+m=l.length→
  (List.range' i m).mapM (fun j=>P.keyLits (D+1) e (((l.map bv).drop (j*P.cellsOf e)).take (P.cellsOf e)))=some ((l.drop i).map (fun u=>[Lit.int .u8 (u.toNat:Int)]))
 |0,i,h=>by
  have:l.drop i=[]:=List.drop_eq_nil_of_le (by omega)
  simp[this]
 |m+1,i,h=>by
  have hi:i<l.length:=by omega
  rw[List.range'_succ,List.mapM_cons,pM hu hc D l m (i+1) (by omega)]
  have h1:((l.map bv).drop (i*P.cellsOf e)).take (P.cellsOf e)=[bv l[i]]:=by
   rw[hc,Nat.mul_one,List.drop_eq_getElem_cons (by simpa using hi)]
   simp
  have h2:P.keyLits (D+1) e [bv l[i]]=some [Lit.int .u8 (l[i].toNat:Int)]:=by
   simp only[Program.keyLits,hu,oY,and_self,if_true]
  rw[h1,h2,List.drop_eq_getElem_cons hi]
  rfl
theorem C5(A:WideMaps.ArrKey P k e n)(hu:P.underlying e=some (.int .u8))(hs:∃m,P.types.size=m+1):cT P k (dv (n:=n)):=by
 refine⟨Maps.Keyed.of_law A.law,fun d=>?_,fun a b h=>GP h⟩
 have hkt:=A.keyType hs
 have hf:(dv d).formed P k=true:=by
  simp[Value.formed,A.hu,A.size,ah]
 obtain⟨m,hm⟩:=hs
 have hl:P.keyLits (P.types.size+1) k (dv d).cells.toList=some ((d.1.map (fun u=>[Lit.int .u8 (u.toNat:Int)])).flatten):=by
  rw[hm]
  have h1:(dv d).cells.toList=d.1.map bv:=by simp[Value.cells,dc]
  rw[h1]
  unfold Program.keyLits
  simp only[A.hu]
  rw[if_pos (by simp[A.size,d.2]),List.range_eq_range',pM hu A.one m d.1 n 0 (by simp[d.2])]
  simp
 refine⟨.string (keyBytes ((d.1.map (fun u=>[Lit.int .u8 (u.toNat:Int)])).flatten)),?_⟩
 unfold keyOf
 simp only[A.hu,hkt,hf,Bool.and_self,if_true,hl,Option.map_some]
theorem Cr(A:WideMaps.ArrKey P k e n)(hu:P.underlying e=some (.int .u8))(hs:∃m,P.types.size=m+1){w:World}(a b:BA n):(Op.equal k (dv a) (dv b)).run P w= .ok (decide (a=b)) w:=
 zH (C5 A hu hs) (fun hx hy=>run_equal_deep w (m:=2) (by omega) (A.at 0) A.wide hx hy) a b
class gr(P:Program)(k:TypeId)(n:outParam Nat):Prop where
 key:cT P k (dv (n:=n))
 eq:∀(w:World) (a b:BA n),(Op.equal k (dv a) (dv b)).run P w= .ok (decide (a=b)) w
 guard:P.eqGuardType P.depth k=false
theorem gr.of(hk:P.underlying k=some (.array n e))(hu:P.underlying e=some (.int .u8))(hs:∃m,P.types.size=m+1)(h1:P.cellsOf e=1)(h2:P.cellsOf k=n)(hg:P.eqGuardType P.depth k=false):gr P k n:=by
 have A:WideMaps.ArrKey P k e n:=⟨hk,by simp[Program.plainKey,hu],h1,h2⟩
 exact⟨C5 A hu hs,fun w a b=>Cr A hu hs a b,hg⟩
section
variable {S:List Nat} {w0:World} {F:World→Prop} {L:Env} {d:Option Nat} {ty:TypeId} {pos:String} {af:Array Edge} {g:Option (Nat×Bool)}
theorem AK[c:gr P k n]{T':TypeId}{x y:Operand}{a b:BA n}(hx:bB L x=dv a)(hy:bB L y=dv b):aK P S w0 F L ⟨d,.binOp .eql k x y T',ty,pos,af,g⟩ (.bool (decide (a=b))):=fun w _ _=>by
 simp[execOp,hx,hy,eqGuard,binOp,c.eq,c.guard]
theorem AA[c:gr P k n]{T':TypeId}{x y:Operand}{a b:BA n}(hx:bB L x=dv a)(hy:bB L y=dv b):aK P S w0 F L ⟨d,.binOp .neq k x y T',ty,pos,af,g⟩ (.bool (!decide (a=b))):=fun w _ _=>by
 simp[execOp,hx,hy,eqGuard,binOp,c.eq,c.guard]
end
end
end
section
section
variable {P:Program} {n:Nat} {Q:Exit→Act→World→Prop} {L:Env} {w:World}
def l0:Nat→List Value→Env
 |_,[]=>[]
 |i,v::vs=>(i,v)::l0 (i+1) vs
theorem j5:∀(vs:List Value) (i t:Nat) (v:Value),look (l0 i vs) t=some v→i≤t∧vs[t-i]?=some v
 |[],i,t,v,h=>by simp[l0,look] at h
 |u::vs,i,t,v,h=>by
  simp only[l0] at h
  by_cases e:i=t
  ·subst e
   rw[iQ] at h
   cases h
   simp
  ·rw[mN e] at h
   obtain⟨h1,h2⟩:=j5 vs (i+1) t v h
   refine⟨by omega,?_⟩
   have:t-i=(t-(i+1))+1:=by omega
   rw[this,List.getElem?_cons_succ]
   exact h2
theorem fL{f:FuncId}{fn:Func}{c:Code}{args:List Value}{R:Ending→World→Prop}(hf:P.funcs[f]?=some fn)(hb:fn.body=some c)(hn:fn.ntmps=n)(hm:Nat.ble args.length n=true)
  (h:CG P n c (bodyPost P fn R) (l0 0 args) w):Calls P f args.toArray w R:=
 enter hf hb n hn (by simpa[Nat.ble_eq] using hm) (l0 0 args) (fun t v hv=>by
  have:=(j5 args 0 t v hv).2
  simpa using this) h
theorem wY{f:FuncId}{fn:Func}{c:Code}{R:Ending→World→Prop}(hf:P.funcs[f]?=some fn)(hb:fn.body=some c)(hn:fn.ntmps=n)
  (h:CG P n c (bodyPost P fn R) [] w):Calls P f #[] w R:=fL (args:=[]) hf hb hn rfl h
theorem bA{f:FuncId}{fn:Func}{c:Code}{a:Value}{R:Ending→World→Prop}(hf:P.funcs[f]?=some fn)(hb:fn.body=some c)(hn:fn.ntmps=n)(hm:Nat.ble 1 n=true)
  (h:CG P n c (bodyPost P fn R) [(0,a)] w):Calls P f #[a] w R:=fL (args:=[a]) hf hb hn hm h
theorem bJ{f:FuncId}{fn:Func}{c:Code}{a b:Value}{R:Ending→World→Prop}(hf:P.funcs[f]?=some fn)(hb:fn.body=some c)(hn:fn.ntmps=n)(hm:Nat.ble 2 n=true)
  (h:CG P n c (bodyPost P fn R) [(0,a),(1,b)] w):Calls P f #[a,b] w R:=fL (args:=[a,b]) hf hb hn hm h
theorem ey{f:FuncId}{fn:Func}{c:Code}{a b d:Value}{R:Ending→World→Prop}(hf:P.funcs[f]?=some fn)(hb:fn.body=some c)(hn:fn.ntmps=n)(hm:Nat.ble 3 n=true)
  (h:CG P n c (bodyPost P fn R) [(0,a),(1,b),(2,d)] w):Calls P f #[a,b,d] w R:=fL (args:=[a,b,d]) hf hb hn hm h
theorem nV{f:FuncId}{fn:Func}{c:Code}{a b d e:Value}{R:Ending→World→Prop}(hf:P.funcs[f]?=some fn)(hb:fn.body=some c)(hn:fn.ntmps=n)(hm:Nat.ble 4 n=true)
  (h:CG P n c (bodyPost P fn R) [(0,a),(1,b),(2,d),(3,e)] w):Calls P f #[a,b,d,e] w R:=fL (args:=[a,b,d,e]) hf hb hn hm h
def aC(P:Program)(L:Env)(w:World):ResultVar→Value→Prop
 | .tmp t,v=>look L t=some v
 | .cell a T,v=>∃ad,look L a=some (.pointer (some ad))∧(loadVar T ad).run P w= .ok v w
def Dl(P:Program)(L:Env)(w:World):List ResultVar→List Value→Prop
 |[],[]=>True
 |r::rs,v::vs=>aC P L w r v∧Dl P L w rs vs
 |_,_=>False
theorem oC{f:ResultVar→Sem Value}(hf:∀r v,aC P L w r v→(f r).run P w= .ok v w):∀(rs:List ResultVar) (vs:List Value),Dl P L w rs vs→(rs.mapM f).run P w= .ok vs w
 |[],[],_=>rfl
 |[],_::_,h=>h.elim
 |_::_,[],h=>h.elim
 |r::rs,v::vs,⟨h1,h2⟩=>by
  simp only[List.mapM_cons,Sem.run_bind,Sem.run_pure,Result.andThen,hf r v h1,oC hf rs vs h2]
def vQ:List Value→Value
 |[v]=>v
 |vs=> .tuple vs.toArray
theorem o0{fn:Func}{R:Ending→World→Prop}{e:Exit}(he:e= .ret∨e= .normal){rs:List ResultVar}(hrs:fn.results=rs.toArray){vs:List Value}(h:Dl P L w rs vs)(hR:R (.returned (vQ vs)) w):NG n e (bodyPost P fn R) L w:=by
 intro a ha
 have hrun:(results fn a.tmps).run P w= .ok (vQ vs) w:=by
  unfold results
  rw[hrs]
  simp only[List.mapM_toArray,←bind_pure_comp,Sem.run_bind,Result.andThen,Sem.run_pure]
  rw[oC (P:=P) (L:=L) (w:=w) ?_ rs vs h]
  rotate_left
  ·intro r v hr
   cases r with
   |tmp t=>
    have:=ha.slot t v hr
    simp[Array.getD_eq_getD_getElem?,this]
   |cell x t=>
    obtain⟨ad,hl,hr⟩:=hr
    have:=ha.slot x _ hl
    have hg:a.tmps.getD x undef= .pointer (some ad):=by simp[Array.getD_eq_getD_getElem?,this]
    have ha':(asAddr (a.tmps.getD x undef)).run P w= .ok ad w:=by rw[hg];rfl
    simp only[Sem.run_bind,Result.andThen,ha',hr]
  cases vs with
  |nil=>rfl
  |cons v vs=>
   cases vs with
   |nil=>rfl
   |cons u vs=>simp[vQ]
 rcases he with rfl|rfl
 ·exact⟨ha.defers,_,hrun,hR⟩
 ·exact⟨ha.defers,_,hrun,hR⟩
theorem aC.tmp{t:Nat}{v:Value}(h:look L t=some v):aC P L w (.tmp t) v:=h
theorem aC.agg{t:Nat}{T:TypeId}{d:TypeDesc}{i:TypeInfo}[u:Ut P T d][f:dp P T i]{b off:Nat}{l:List Value}(h:look L t=some (.pointer (some ⟨b,off,none⟩)))(ha:oh d=true)(hr:Row w b off l)(hl:l.length=i.size):aC P L w (.cell t T) (.agg l.toArray):=by
 refine⟨_,h,?_⟩
 have:=gD (P:=P) (u:=u) (f:=f) ha hr hl
 simpa[Instr.loadAt,Instr.sureAddr] using this
theorem nF{fn:Func}{R:Ending→World→Prop}{e:Exit}(he:e= .ret∨e= .normal)(hrs:fn.results= #[])(hR:R (.returned (.tuple #[])) w):NG n e (bodyPost P fn R) L w:=o0 he (rs:=[]) (vs:=[]) hrs True.intro hR
theorem aO{fn:Func}{R:Ending→World→Prop}{e:Exit}(he:e= .ret∨e= .normal){r:ResultVar}(hrs:fn.results= #[r]){v:Value}(h:aC P L w r v)(hR:R (.returned v) w):NG n e (bodyPost P fn R) L w:=o0 he (rs:=[r]) (vs:=[v]) hrs ⟨h,True.intro⟩ hR
theorem dJ{fn:Func}{R:Ending→World→Prop}{e:Exit}(he:e= .ret∨e= .normal){r r':ResultVar}(hrs:fn.results= #[r,r']){v v':Value}(h:aC P L w r v)(h':aC P L w r' v')(hR:R (.returned (.tuple #[v,v'])) w):NG n e (bodyPost P fn R) L w:=o0 he (rs:=[r,r']) (vs:=[v,v']) hrs ⟨h,h',True.intro⟩ hR
theorem sj{fn:Func}{R:Ending→World→Prop}{e:Exit}(he:e= .ret∨e= .normal){r r' r'':ResultVar}(hrs:fn.results= #[r,r',r'']){v v' v'':Value}(h:aC P L w r v)(h':aC P L w r' v')(h'':aC P L w r'' v'')(hR:R (.returned (.tuple #[v,v',v''])) w):NG n e (bodyPost P fn R) L w:=o0 he (rs:=[r,r',r'']) (vs:=[v,v',v'']) hrs ⟨h,h',h'',True.intro⟩ hR
theorem CG.kh{c:Operand}{x y:Code}{b:Bool}(hk:known L c=true)(hc:bB L c= .bool b)(hb:b=true)(h:CG P n x Q L w):CG P n (.cond c x y) Q L w:=CG.cond hk hc (fun _=>h) (fun e=>by rw[hb] at e;cases e)
theorem CG.ki{c:Operand}{x y:Code}{b:Bool}(hk:known L c=true)(hc:bB L c= .bool b)(hb:b=false)(h:CG P n y Q L w):CG P n (.cond c x y) Q L w:=CG.cond hk hc (fun e=>by rw[hb] at e;cases e) (fun _=>h)
def cB(L:Env)(c:Operand)(b:Bool):Bool:=known L c&&(match bB L c with| .bool x=>x==b|_=>false)
theorem bG{c:Operand}{x y:Code}(hk:cB L c false=true)(h:CG P n y Q L w):CG P n (.cond c x y) Q L w:=by
 unfold cB at hk
 simp only[Bool.and_eq_true] at hk
 obtain⟨h1,h2⟩:=hk
 split at h2
 ·rename_i b e
  exact CG.ki h1 e (by simpa using h2) h
 ·cases h2
theorem bL{c:Operand}{x y:Code}(hk:cB L c true=true)(h:CG P n x Q L w):CG P n (.cond c x y) Q L w:=by
 unfold cB at hk
 simp only[Bool.and_eq_true] at hk
 obtain⟨h1,h2⟩:=hk
 split at h2
 ·rename_i b e
  exact CG.kh h1 e (by simpa using h2) h
 ·cases h2
end
end
section
def aP(v:Value):List Nat:=match v.ownBlock with
 |some b=>[b]
 |none=>[]
theorem mI(u:Value):u.oneCell'=jJ u:=by cases u<;>rfl
section
variable {P:Program} {w w':World}
theorem dS{S:List Nat}{base:Nat}{e:TypeId}{size:Nat}{v:Value}{n:Nat}{xs:List Value}(h:w.ownsRow base e size v n xs)(k:Kp S w w')(hb:∀b,v.ownBlock=some b→b∉S):w'.ownsRow base e size v n xs:=by
 obtain⟨h1,h2⟩:=h
 refine⟨h1,?_⟩
 rcases h2 with h2|⟨g,cap,cur,rfl,hg,hh,hr⟩
 ·exact Or.inl h2
 ·exact Or.inr ⟨g,cap,cur,rfl,hg,(k.blk g (Array.getElem?_eq_some_iff.1 hh).1 (hb g rfl)).trans hh,hr⟩
theorem aT{base:Nat}{e:TypeId}{size:Nat}{v:Value}{n:Nat}{xs:List Value}(h:w.ownsRow base e size v n xs)(k:Kp [] w w'):w'.ownsRow base e size v n xs:=dS h k (by simp)
theorem Kp.alloc_drew(w:World)(o:Obj)(hs:Obj.soft o=true):Kp [] w (w.drew.alloc o):=by
 have h1:Kp [] w w.drew:=(Kp.refl [] w).drew
 exact h1.trans (Kp.push w.drew o hs)
theorem fb{base:Nat}{t ty e:TypeId}{d:TypeDesc}{i:TypeInfo}[u:Ut P t (.slice e)][f:dp P e i]{z:Value}(hz:i.zero=some z)(hzs:z.cells.size=i.size)(hsz:0<i.size)
  {v:Value} {n:Nat} {xs:List Value} (hown:w.ownsRow base e i.size v n xs) {b off m c:Nat} {news:List Value} (hl:news.length=m*i.size) (hr:Row w b off news) (h1:bF news=true)
  (h63:n+m≤maxLen) (hbytes:(n+m)*i.bytes≤140737488355328) (hbase:base≤w.heap.size):
  ∃v' w',(Builtin.append_ #[t,t] ty #[v,.slice (some ⟨b,off,none⟩) m c]).run P w= .ok v' w'∧w'.ownsRow base e i.size v' (n+m) (xs++news)∧Kp (aP v) w w':=by
 have hnews:∀j u,news[j]?=some u→w.cell? ((⟨b,off,none⟩:Addr).add j)=some u:=fun j u hu=>by rw[dd];exact hr.cell hu
 have h1':∀u∈news,u.oneCell'=true:=fun u hu=>by rw[mI];exact List.all_eq_true.1 h1 u hu
 obtain⟨v',w',hrun,hown',_,_⟩:=run_append_own (P:=P) w base t ty e i z i.size i.bytes u.eq f.eq hz rfl rfl hzs hsz v n xs hown ⟨b,off,none⟩ m c news hl hnews h1' h63 hbytes hbase
 refine⟨v',w',hrun,hown',?_⟩
 have hsmall:n+m≤9223372036854775807:=by simp only[maxLen] at h63;omega
 rcases hown.2 with⟨rfl,rfl⟩|⟨g,cap,cur,rfl,hbg,hg,hnc,hcm,hcs,htake⟩
 ·by_cases hm:m=0
  ·subst hm
   have hn:news=[]:=List.eq_nil_of_length_eq_zero (by simpa using hl)
   subst hn
   have:(Builtin.append_ #[t,t] ty #[.slice none 0 0,.slice (some ⟨b,off,none⟩) 0 c]).run P w= .ok (.slice none 0 0) w:=by
    simp[Builtin.append_,run_underlying u.eq,sizeOf,typeInfo,f.eq,Builtin.lenOf,Builtin.firstCells,loadCells,loadCellsFrom]
   rw[this] at hrun
   cases hrun
   exact Kp.refl _ _
  ·have hr2:=run_append_nil (P:=P) w t ty e i z u.eq f.eq hz ⟨b,off,none⟩ m c news hl hnews (by omega) (by omega) (by have hb:=hbytes;simp only[Nat.zero_add] at hb;omega)
   rw[hr2] at hrun
   cases hrun
   exact Kp.alloc_drew w _ rfl
 ·by_cases hroom:n+m≤cap
  ·have hfit:n*i.size+news.length≤cur.size:=by rw[hl,hcs,←Nat.add_mul];exact Nat.mul_le_mul_right _ hroom
   have hr2:=run_append_room (P:=P) w t ty e i u.eq f.eq g n cap cur hg ⟨b,off,none⟩ m c news hl hnews h1' hroom hfit
   rw[hr2] at hrun
   cases hrun
   have hgl:g<w.heap.size:=(Array.getElem?_eq_some_iff.1 hg).1
   have hset:∀(x:Array Value),w.setRow g x={w with heap:=w.heap.setIfInBounds g (.cells x e)}:=by
    intro x
    unfold World.setRow
    congr 1
    apply Array.ext_getElem?
    intro j
    rw[Array.getElem?_modify]
    by_cases e1:g=j
    ·subst e1
     rw[if_pos rfl,hg,Array.getElem?_setIfInBounds_self_of_lt hgl]
     simp
    ·rw[if_neg e1,Array.getElem?_setIfInBounds_ne e1]
   rw[hset]
   exact Kp.set w (b:=g) hg rfl rfl
  ·have holds:∀j u,xs[j]?=some u→w.cell? ((⟨g,0,none⟩:Addr).add j)=some u:=hown.cells (g:=g) rfl
   have hr2:=run_append_grow (P:=P) w t ty e i z u.eq f.eq hz ⟨g,0,none⟩ n cap xs hown.1 holds ⟨b,off,none⟩ m c news hl hnews (by omega) (by omega) (growslice_fits (by omega) hbytes)
   rw[hr2] at hrun
   cases hrun
   exact(Kp.alloc_drew w _ rfl).any
end
section
variable {P:Program} {S:List Nat} {w0:World} {F:World→Prop} {L:Env} {d:Option Nat} {ty:TypeId} {pos:String} {af:Array Edge} {g:Option (Nat×Bool)}
theorem xy{T E:TypeId}[u:Ut P T (.slice E)]{sz:Nat}[f:Sz P E sz]{x y:Operand}{b off n c:Nat}{k:IntKind}{j:Nat}(hx:bB L x= .slice (some ⟨b,off,none⟩) n c)(hy:bB L y= .int k (j:Int))(h1:j<n):
  aK P S w0 F L ⟨d,.indexAddr T x y,ty,pos,af,g⟩ (.pointer (some ⟨b,off+j*sz,none⟩)):=fun w _ _=>by
 obtain⟨i,h2,h3⟩:=f.eq
 have h4:(j:Int)<n:=by omega
 subst h3
 simp[execOp,hx,hy,Instr.indexAt,asIntOf,run_underlying u.eq,sizeOf,typeInfo,h2,h1,dd]
theorem ny{T E:TypeId}[u:Ut P T (.slice E)]{sz:Nat}[f:Sz P E sz]{x lo:Operand}{b off n c:Nat}{k:IntKind}{j:Nat}(hx:bB L x= .slice (some ⟨b,off,none⟩) n c)(hlo:bB L lo= .int k (j:Int))(hj:j≤n):
  aK P S w0 F L ⟨d,.slice T x (some lo) none none,ty,pos,af,g⟩ (.slice (some ⟨b,if c=j then off else off+j*sz,none⟩) (n-j) (c-j)):=fun w _ _=>by
 obtain⟨i,h2,h3⟩:=f.eq
 have h4:(j:Int)≤n:=by omega
 subst h3
 simp only[execOp,hx,Option.map_some,Option.map_none,hlo,Instr.sliceAt,Sem.run_bind,run_underlying u.eq,Result.andThen,Instr.slice,Instr.sliceBounds,Instr.sliceBound,asIntOf,Sem.run_pure]
 have h5:(0:Int)≤(j:Int)∧(j:Int)≤(n:Int):=⟨by omega,h4⟩
 simp only[h5,and_self,if_true,Sem.run_pure,sizeOf,typeInfo,Sem.run_bind,run_program,Result.andThen,h2]
 by_cases hc:c=j
 ·subst hc;simp
 ·simp[hc,dd]
theorem pw{T ft:TypeId}{k fo:Nat}[u:cH P T k fo ft]{dsc:TypeDesc}{i:TypeInfo}[u2:Ut P ft dsc][f:dp P ft i]{x:Operand}{l:List Value}(pre l' post:List Value)(hx:bB L x= .agg l.toArray)(ha:oh dsc=true)(hl:l=pre++(l'++post))(h1:pre.length=fo)(h2:l'.length=i.size):
  aK P S w0 F L ⟨d,.field T x k,ty,pos,af,g⟩ (.agg l'.toArray):=fun w _ _=>by
 obtain⟨fs,fd,i',e1,e2,e3,e4,e5,e6⟩:=u.eq
 subst e3;subst e4;subst hl
 have hex:List.take i.size (List.drop fd.offset (pre++(l'++post)))=l':=by
  rw[←h1,←h2]
  simp
 simp[execOp,hx,Instr.field,run_underlying e1,e2,asAgg,part,iL (u:=u2),ha,jU (f:=f),hex]
theorem fX{T ft:TypeId}{k fo:Nat}[u:cH P T k fo ft]{dsc:TypeDesc}[u2:Ut P ft dsc]{x:Operand}{l:List Value}(pre post:List Value){v:Value}(hx:bB L x= .agg l.toArray)(ha:oh dsc=false)(hl:l=pre++(v::post))(h1:pre.length=fo):
  aK P S w0 F L ⟨d,.field T x k,ty,pos,af,g⟩ v:=fun w _ _=>by
 obtain⟨fs,fd,i',e1,e2,e3,e4,e5,e6⟩:=u.eq
 subst e3;subst e4;subst hl
 have hex:(pre++(v::post))[fd.offset]?=some v:=by rw[←h1];simp
 simp[execOp,hx,Instr.field,run_underlying e1,e2,asAgg,part,iL (u:=u2),ha,hex]
theorem aG{T:TypeId}{parts:List (Nat×Operand)}{vs:List (Nat×Value)}{v:Value}(he:(parts.map fun p=>(p.1,bB L p.2))=vs)(h:∀w,(Instr.build T vs.toArray).run P w= .ok v w):aK P S w0 F L ⟨d,.build T parts.toArray,ty,pos,af,g⟩ v:=fun w _ _=>by
 have:(parts.toArray.map fun(p:Nat×Operand)=>(p.1,bB L p.2))=vs.toArray:=by simp[he]
 simp only[execOp,this,Sem.run_bind,h w,Result.andThen,Sem.run_pure]
end
section
variable {P:Program} {n:Nat} {Q:Exit→Act→World→Prop} {L:Env} {w:World} {ops:List Oper} {rest:List Oper} {ty:TypeId} {pos:String} {af:Array Edge} {g:Option (Nat×Bool)}
theorem SG.mapUpdate{κ ν:Type}[DecidableEq κ]{enc:κ→Value}{V:ν→Value}{m:List (κ×ν)}{b:Nat}{k T E:TypeId}[u:Ut P T (.map k E)]{a x y:Operand}{kx:κ}{vy:ν}
  (hw:want ops L ⟨none,.mapUpdate T a x y,ty,pos,af,g⟩=some true) (hk:(known L a&&(known L x&&known L y))=true) (ha:bB L a= .map (some b)) (hx:bB L x=enc kx) (hy:bB L y=V vy) (hm:aE w b enc V m) (K:cT P k enc)
  (h:∀w',Kp [b] w w'→aE w' b enc V (cF m kx vy)→SG P n ops Q rest L w'):SG P n ops Q (⟨none,.mapUpdate T a x y,ty,pos,af,g⟩::rest) L w:=by
 refine SG.op rfl rfl hw (by simpa[Op.operands] using hk) ?_
 unfold bh
 obtain⟨o',h1,h2,h3⟩:=iB (P:=P) (u:=u) hm K kx vy
 have:(execOp (bB L) ⟨none,.mapUpdate T a x y,ty,pos,af,g⟩).run P w= .ok .skip {w with heap:=w.heap.setIfInBounds b o'}:=by
  simp only[execOp,ha,hx,hy,Sem.run_bind,h1,Result.andThen,Sem.run_pure]
 rw[this]
 exact h _ h3 h2
theorem aI.kl{X:Type}{w0:World}{ops:List Oper}{gh:List Nat}{K:Env→(World→Prop)→(World→Prop)→Prop}{i:Nat}{ord:List Nat}{F:World→Prop}{d:Nat}{f:FuncId}[bQ P f]{args:List Operand}{vs:List Value}{tys:Array TypeId}(val:X→Value)(F':X→World→Prop)
  (ho:ops[i]?=some ⟨some d,.call ⟨.value (.func f),args.toArray,tys⟩,ty,pos,af,g⟩) (hw:want ops L ⟨some d,.call ⟨.value (.func f),args.toArray,tys⟩,ty,pos,af,g⟩=some true) (hg:gh.elem i=true) (hk:(Op.call ⟨.value (.func f),args.toArray,tys⟩).operands.toList.all (known L)=true)
  (he:bz L args vs) (hF:∀x,cm [] (F' x)) (hFs:cm [] F) (hc:∀w,Kp [] w0 w→F w→Calls P f vs.toArray w (fun e w'=>∃x,e= .returned (val x)∧F' x w'∧Kp [] w w'))
  (hd:∀x,aI P [] w0 ops gh K ord ((d,val x)::L) (fun w=>F w∧F' x w) (fun _=>True)):aI P [] w0 ops gh K (i::ord) L F (fun _=>True):=
 aI.ghost val F' (fun _ _=>True) ho hw hg hk hF (fun _ _ _ _ _=>trivial) hFs (fun w h1 h2 _=>fj (by rw[he.arr];exact(hc w h1 h2).mono (fun e w' ⟨x,g1,g2,g3⟩=>⟨val x,g1,x,rfl,g2,trivial,g3⟩))) hd
theorem aI.FE{S:List Nat}{w0:World}{ops:List Oper}{gh:List Nat}{K:Env→(World→Prop)→(World→Prop)→Prop}{i:Nat}{ord:List Nat}{F R:World→Prop}{d:Nat}{T:TypeId}{x:Operand}{dsc:TypeDesc}{inf:TypeInfo}[u:Ut P T dsc][f:dp P T inf]{b off:Nat}{l:List Value}
  (ho:ops[i]?=some ⟨some d,.load T x,ty,pos,af,g⟩) (hw:want ops L ⟨some d,.load T x,ty,pos,af,g⟩=some true) (hg:gh.elem (i+1000)=true) (hk:known L x=true) (hx:bB L x= .pointer (some ⟨b,off,none⟩)) (ha:oh dsc=true) (hr:∀w,R w→Row w b off l) (hl:l.length=inf.size)
  (hd:aI P S w0 ops gh K ord ((d,.agg l.toArray)::L) F R):aI P S w0 ops gh K (i::ord) L F R:=
 aI.Jo ho hw hg (by simpa[Op.operands] using hk) (fun w _ _ hR=>by simp[execOp,hx,gD (u:=u) (f:=f) ha (hr w hR) hl]) hd
theorem aI.A5{S:List Nat}{w0:World}{ops:List Oper}{gh:List Nat}{K:Env→(World→Prop)→(World→Prop)→Prop}{i:Nat}{ord:List Nat}{F R:World→Prop}(R':World→Prop){T:TypeId}{a x:Operand}{p v:Value}
  (ho:ops[i]?=some ⟨none,.store T a x,ty,pos,af,g⟩) (hw:want ops L ⟨none,.store T a x,ty,pos,af,g⟩=some true) (hg:gh.elem i=true) (hk:(known L a&&known L x)=true) (ha:bB L a=p) (hx:bB L x=v) (hFs:cm S F) (hRs:cm [] R')
  (hr:∀w,R w→∃w',(Instr.storeAt T p v).run P w= .ok () w'∧R' w'∧Kp S w w')
  (hd:aI P S w0 ops gh K ord L (fun w=>F w∧True) R'):aI P S w0 ops gh K (i::ord) L F R:=by
 refine aI.ghost (X:=Unit) (fun _=>undef) (fun _ _=>True) (fun _=>R') ho hw hg (by simpa[Op.operands] using hk) (fun _ _ _ _ _=>trivial) (fun _=>hRs) hFs ?_ (fun _=>hd)
 intro w _ _ hR
 obtain⟨w',h1,h2,h3⟩:=hr w hR
 unfold bh
 have:(execOp (bB L) ⟨none,.store T a x,ty,pos,af,g⟩).run P w= .ok .skip w':=by
  simp only[execOp,ha,hx,Sem.run_bind,h1,Result.andThen,Sem.run_pure]
 rw[this]
 exact⟨(),rfl,trivial,h2,h3⟩
theorem aI.makeMap{κ ν:Type}(enc:κ→Value)(V:ν→Value){w0:World}{ops:List Oper}{gh:List Nat}{K:Env→(World→Prop)→(World→Prop)→Prop}{i:Nat}{ord:List Nat}{d:Nat}{T:TypeId}{R:World→Prop}
  (ho:ops[i]?=some ⟨some d,.makeMap T none,ty,pos,af,g⟩) (hw:want ops L ⟨some d,.makeMap T none,ty,pos,af,g⟩=some true) (hg:gh.elem i=true)
  (hd:∀b,aI P [] w0 ops gh K ord ((d,.map (some b))::L) (fun _=>True∧True) (fun w=>w0.heap.size≤b∧aE w b enc V [])):aI P [] w0 ops gh K (i::ord) L (fun _=>True) R:=by
 refine aI.j7 (X:=Nat) (fun b=> .map (some b)) (fun _ _=>True) (fun b w=>w0.heap.size≤b∧aE w b enc V []) ho hw hg (by simp[Op.operands]) (fun _ _ _ _ _=>trivial) (fun b w w' hk h=>⟨h.1,h.2.ay hk⟩) ?_ hd
 intro w hk _ _
 unfold bh
 have:(execOp (bB L) ⟨some d,.makeMap T none,ty,pos,af,g⟩).run P w= .ok (.value (.map (some w.heap.size))) {w with heap:=w.heap.push (.map #[] 0)}:=by
  simp[execOp,Instr.makeMap,newObj,Sem.run,Result.andThen]
 rw[this]
 exact⟨w.heap.size,rfl,⟨trivial,trivial⟩,⟨hk.size,aE.made w enc V⟩,hk.trans (Kp.push w _ rfl)⟩
theorem aI.insert{κ ν:Type}[DecidableEq κ]{enc:κ→Value}{V:ν→Value}{m:List (κ×ν)}{w0:World}{ops:List Oper}{gh:List Nat}{Kn:Env→(World→Prop)→(World→Prop)→Prop}{i:Nat}{ord:List Nat}{b:Nat}{k T E:TypeId}[u:Ut P T (.map k E)]{a x y:Operand}{kx:κ}{vy:ν}
  (ho:ops[i]?=some ⟨none,.insert T a x y,ty,pos,af,g⟩) (hw:want ops L ⟨none,.insert T a x y,ty,pos,af,g⟩=some true) (hg:gh.elem i=true) (hk:(known L a&&(known L x&&known L y))=true) (ha:bB L a= .map (some b)) (hx:bB L x=enc kx) (hy:bB L y=V vy) (K:cT P k enc)
  (hd:aI P [] w0 ops gh Kn ord L (fun _=>(True∧True)∧True) (fun w=>w0.heap.size≤b∧aE w b enc V (cF m kx vy))):aI P [] w0 ops gh Kn (i::ord) L (fun _=>True∧True) (fun w=>w0.heap.size≤b∧aE w b enc V m):=by
 refine aI.j7 (X:=Unit) (fun _=>undef) (fun _ _=>True) (fun _ w=>w0.heap.size≤b∧aE w b enc V (cF m kx vy)) ho hw hg (by simpa[Op.operands] using hk) (fun _ _ _ _ _=>trivial) (fun _ w w' hk h=>⟨h.1,h.2.ay hk⟩) ?_ (fun _=>hd)
 intro w hkp _ hR
 obtain⟨o',h1,h2,h3⟩:=iB (P:=P) (u:=u) hR.2 K kx vy
 unfold bh
 have:(execOp (bB L) ⟨none,.insert T a x y,ty,pos,af,g⟩).run P w= .ok .skip {w with heap:=w.heap.setIfInBounds b o'}:=by
  simp only[execOp,ha,hx,hy,Sem.run_bind,h1,Result.andThen,Sem.run_pure]
 rw[this]
 exact⟨(),rfl,⟨⟨trivial,trivial⟩,trivial⟩,⟨hR.1,h2⟩,hkp.ai h3 (aV hR.1)⟩
theorem SG.buildSlice{d:Nat}{T E:TypeId}{m:Nat}{parts:List (Nat×Operand)}{vs:List (Nat×Value)}{c:Array Value}(hd:Nat.blt d n=true)(hw:want ops L ⟨some d,.buildSlice T m parts.toArray,ty,pos,af,g⟩=some true)(hk:(Op.buildSlice T m parts.toArray).operands.toList.all (known L)=true)
  (he:(parts.map fun p=>(p.1,bB L p.2))=vs) (hrun:∀w:World,(Instr.buildSlice T m vs.toArray).run P w= .ok (.slice (some ⟨w.heap.size,0,none⟩) m m) {w with heap:=w.heap.push (.cells c E)})
  (h:∀b w',Kp [] w w'→w.heap.size≤b→aF w' b (.cells c E)→SG P n ops Q rest ((d,.slice (some ⟨b,0,none⟩) m m)::L) w'):SG P n ops Q (⟨some d,.buildSlice T m parts.toArray,ty,pos,af,g⟩::rest) L w:=by
 refine SG.op (by simpa using hd) rfl hw hk ?_
 unfold bh
 have e:(parts.toArray.map fun(p:Nat×Operand)=>(p.1,bB L p.2))=vs.toArray:=by simp[he]
 have:(execOp (bB L) ⟨some d,.buildSlice T m parts.toArray,ty,pos,af,g⟩).run P w= .ok (.value (.slice (some ⟨w.heap.size,0,none⟩) m m)) {w with heap:=w.heap.push (.cells c E)}:=by
  simp only[execOp,e,Sem.run_bind,hrun w,Result.andThen,Sem.run_pure]
 rw[this]
 exact h w.heap.size _ (Kp.push w _ rfl) (Nat.le_refl _) (aF.push w _)
theorem SG.append{base:Nat}{t e:TypeId}{i:TypeInfo}[u:Ut P t (.slice e)][f:dp P e i]{z:Value}{d:Nat}{s x:Operand}{v:Value}{nn:Nat}{xs:List Value}{b off m c:Nat}{news:List Value}
  (hd:Nat.blt d n=true) (hw:want ops L ⟨some d,.call {callee:= .builtin .append,args:= #[s,x],argTypes:= #[t,t]},ty,pos,af,g⟩=some true) (hk:(known L s&&known L x)=true)
  (hs:bB L s=v) (hx:bB L x= .slice (some ⟨b,off,none⟩) m c) (hz:i.zero=some z) (hzs:Nat.beq z.cells.size i.size=true) (hsz:Nat.blt 0 i.size=true) (hown:w.ownsRow base e i.size v nn xs) (hr:Row w b off news) (hl:news.length=m*i.size) (h1:bF news=true)
  (h63:nn+m≤maxLen) (hbytes:(nn+m)*i.bytes≤140737488355328) (hbase:base≤w.heap.size)
  (h:∀v' w',Kp (aP v) w w'→w'.ownsRow base e i.size v' (nn+m) (xs++news)→SG P n ops Q rest ((d,v')::L) w'):SG P n ops Q (⟨some d,.call {callee:= .builtin .append,args:= #[s,x],argTypes:= #[t,t]},ty,pos,af,g⟩::rest) L w:=by
 refine SG.op (by simpa using hd) rfl hw (by simpa[Op.operands,Call.operands] using hk) ?_
 unfold bh
 obtain⟨v',w',h2,h3,h4⟩:=fb (P:=P) (ty:=ty) (d:= .bool) (c:=c) (u:=u) (f:=f) hz (Nat.eq_of_beq_eq_true hzs) (by simpa[Nat.blt_eq] using hsz) hown hl hr h1 h63 hbytes hbase
 have:(execOp (bB L) ⟨some d,.call {callee:= .builtin .append,args:= #[s,x],argTypes:= #[t,t]},ty,pos,af,g⟩).run P w= .ok (.value v') w':=by
  simp only[execOp,resolve,invoke,builtin,Sem.run_bind,Sem.run_pure,Result.andThen_ok,List.map_toArray,List.map_cons,List.map_nil,hs,hx,h2]
 rw[this]
 exact h v' w' h4 h3
end
end
section
def ro(L:Env):Operand→Option Value
 | .tmp t=>look L t
 | .const v=>some v
 | .global g=>some (.pointer (some ⟨g,0,none⟩))
 | .func f=>some (.func (.func f) #[] #[])
theorem ag{L:Env}{x:Operand}{v:Value}(h:ro L x=some v):bB L x=v:=by
 cases x with
 |tmp t=>exact D0 h
 |_=>simp only[ro,Option.some.injEq] at h;exact h
structure Dc(p:Prop)(c:Bool):Prop where
 t:c=true→p
 f:c=false→¬p
theorem bK{p:Prop}(h:p):Dc p true:=⟨fun _=>h,fun e=>absurd e (by simp)⟩
theorem bN{p:Prop}(h:¬p):Dc p false:=⟨fun e=>absurd e (by simp),fun _=>h⟩
theorem CA{p:Prop}[Decidable p]:Dc p (decide p):=⟨fun h=>of_decide_eq_true h,fun h=>of_decide_eq_false h⟩
theorem Dc.eq{p:Prop}[d:Decidable p]{c:Bool}(h:Dc p c):decide p=c:=by
 cases c with
 |true=>exact decide_eq_true (h.t rfl)
 |false=>exact decide_eq_false (h.f rfl)
structure Ar(p:Prop):Prop where
 h:p
class fE(P:Program)(T:TypeId)(sz:outParam Nat):Prop where
 eq:∃d i,P.underlying T=some d∧oh d=true∧P.info? T=some i∧i.size=sz
class cR(P:Program)(T:TypeId):Prop where
 eq:∃d,P.underlying T=some d∧oh d=false
theorem fE.of{P:Program}{T:TypeId}{d:TypeDesc}{i:TypeInfo}{sz:Nat}(h:P.underlying T=some d)(h1:oh d=true)(h2:P.info? T=some i)(h3:i.size=sz):fE P T sz:=⟨d,i,h,h1,h2,h3⟩
theorem cR.of{P:Program}{T:TypeId}{d:TypeDesc}(h:P.underlying T=some d)(h1:oh d=false):cR P T:=⟨d,h,h1⟩
class xw(P:Program)(k:TypeId){κ:outParam Type}(enc:outParam (κ→Value)):Prop where
 key:cT P k enc
instance{P:Program}{k:TypeId}{n:Nat}[c:gr P k n]:xw P k (dv (n:=n)):=⟨c.key⟩
structure Lk{κ ν:Type}[DecidableEq κ](V:ν→Value)(z:Value)(m:List (κ×ν))(x:κ)(v:Value)(c:Bool):Prop where
 eq:(∃r,aB m x=some r∧v=V r∧c=true)∨(aB m x=none∧v=z∧c=false)
theorem kX{κ ν:Type}[DecidableEq κ]{V:ν→Value}{z:Value}{m:List (κ×ν)}{x:κ}{r:ν}(h:aB m x=some r):Lk V z m x (V r) true:=⟨Or.inl ⟨r,h,rfl,rfl⟩⟩
theorem tv{κ ν:Type}[DecidableEq κ]{V:ν→Value}{z:Value}{m:List (κ×ν)}{x:κ}(h:aB m x=none):Lk V z m x z false:=⟨Or.inr ⟨h,rfl,rfl⟩⟩
section
variable {P:Program} {S:List Nat} {w0:World} {F:World→Prop} {L:Env} {d:Option Nat} {ty:TypeId} {pos:String} {af:Array Edge} {g:Option (Nat×Bool)}
theorem az{x:Operand}{v:Value}(hx:ro L x=some v):aK P S w0 F L ⟨d,.move x,ty,pos,af,g⟩ v:=yG (ag hx)
theorem aD{x:Operand}{v:Value}(hx:ro L x=some v):aK P S w0 F L ⟨d,.assign x,ty,pos,af,g⟩ v:=tL (ag hx)
theorem cu{c a b:Operand}{cb:Bool}{v:Value}(hc:ro L c=some (.bool cb))(hx:ro L (bif cb then a else b)=some v):aK P S w0 F L ⟨d,.pick c a b,ty,pos,af,g⟩ v:=by
 cases cb with
 |true=>exact tH (ag hc) (ag hx)
 |false=>exact tI (ag hc) (ag hx)
theorem bM{x:Operand}{a:Addr}(hx:ro L x=some (.pointer (some a))):aK P S w0 F L ⟨d,.nilCheck x,ty,pos,af,g⟩ (.pointer (some a)):=qz (ag hx)
theorem fZ{T:TypeId}{x:Operand}{b:Bool}(hx:ro L x=some (.bool b)):aK P S w0 F L ⟨d,.unOp .not T x,ty,pos,af,g⟩ (.bool !b):=Au (ag hx)
theorem dA{x:Operand}{k:Nat}{vs:List Value}{v:Value}(hx:ro L x=some (.tuple vs.toArray))(hv:vs[k]?=some v):aK P S w0 F L ⟨d,.extract x k,ty,pos,af,g⟩ v:=rR (ag hx) (by simpa using hv)
theorem aW{T ft:TypeId}{x:Operand}{k fo:Nat}[u:cH P T k fo ft]{b off:Nat}(hx:ro L x=some (.pointer (some ⟨b,off,none⟩))):aK P S w0 F L ⟨d,.fieldAddr T x k,ty,pos,af,g⟩ (.pointer (some ⟨b,off+fo,none⟩)):=px (u:=u) (ag hx)
theorem bf{T:TypeId}{x:Operand}[c:cR P T]{b off:Nat}{v:Value}(hx:ro L x=some (.pointer (some ⟨b,off,none⟩)))(hr:Row w0 b off [v])(hb:b∉S):aK P S w0 F L ⟨d,.load T x,ty,pos,af,g⟩ v:=by
 obtain⟨dc,h1,h2⟩:=c.eq
 exact po (u:=⟨h1⟩) (ag hx) h2 hr hb
theorem bj{T:TypeId}{x:Operand}{sz:Nat}[c:fE P T sz]{b off:Nat}{l:List Value}(hx:ro L x=some (.pointer (some ⟨b,off,none⟩)))(hr:Row w0 b off l)(hb:b∉S)(hl:l.length=sz):aK P S w0 F L ⟨d,.load T x,ty,pos,af,g⟩ (.agg l.toArray):=by
 obtain⟨dc,i,h1,h2,h3,h4⟩:=c.eq
 exact qA (u:=⟨h1⟩) (f:=⟨h3⟩) (ag hx) h2 hr hb (by rw[h4];exact hl)
theorem dG{T T':TypeId}[u:Ut P T (.int .i64)]{x y:Operand}{a b:Int}(hx:ro L x=some (.int .i64 a))(hy:ro L y=some (.int .i64 b))(h:Ar (-9223372036854775808≤a+b∧a+b≤9223372036854775807)):aK P S w0 F L ⟨d,.binOp .add T x y T',ty,pos,af,g⟩ (.int .i64 (a+b)):=AL (ag hx) (ag hy) h.h.1 h.h.2
theorem xL{T T':TypeId}[u:Ut P T (.int .i64)]{x y:Operand}{a b:Int}(hx:ro L x=some (.int .i64 a))(hy:ro L y=some (.int .i64 b))(h:Ar (-9223372036854775808≤a-b∧a-b≤9223372036854775807)):aK P S w0 F L ⟨d,.binOp .sub T x y T',ty,pos,af,g⟩ (.int .i64 (a-b)):=As (ag hx) (ag hy) h.h.1 h.h.2
theorem cG{T T':TypeId}{k:IntKind}[u:Ut P T (.int k)]{x y:Operand}{a b:Int}{c:Bool}(hx:ro L x=some (.int k a))(hy:ro L y=some (.int k b))(h:Dc (a<b) c):aK P S w0 F L ⟨d,.binOp .lss T x y T',ty,pos,af,g⟩ (.bool c):=h.eq▸AB (ag hx) (ag hy)
theorem Dt{T T':TypeId}{k:IntKind}[u:Ut P T (.int k)]{x y:Operand}{a b:Int}{c:Bool}(hx:ro L x=some (.int k a))(hy:ro L y=some (.int k b))(h:Dc (a≤b) c):aK P S w0 F L ⟨d,.binOp .leq T x y T',ty,pos,af,g⟩ (.bool c):=h.eq▸AD (ag hx) (ag hy)
theorem fW{T T':TypeId}{k:IntKind}[u:Ut P T (.int k)]{x y:Operand}{a b:Int}{c:Bool}(hx:ro L x=some (.int k a))(hy:ro L y=some (.int k b))(h:Dc (b<a) c):aK P S w0 F L ⟨d,.binOp .gtr T x y T',ty,pos,af,g⟩ (.bool c):=h.eq▸AE (ag hx) (ag hy)
theorem jN{T T':TypeId}{k:IntKind}[u:Ut P T (.int k)]{x y:Operand}{a b:Int}{c:Bool}(hx:ro L x=some (.int k a))(hy:ro L y=some (.int k b))(h:Dc (b≤a) c):aK P S w0 F L ⟨d,.binOp .geq T x y T',ty,pos,af,g⟩ (.bool c):=h.eq▸AF (ag hx) (ag hy)
theorem fF{T T':TypeId}{k:IntKind}[u:Ut P T (.int k)]{x y:Operand}{a b:Int}{c:Bool}(hx:ro L x=some (.int k a))(hy:ro L y=some (.int k b))(h:Dc (a=b) c):aK P S w0 F L ⟨d,.binOp .eql T x y T',ty,pos,af,g⟩ (.bool c):=h.eq▸AJ (ag hx) (ag hy)
theorem dK{T T':TypeId}{k:IntKind}[u:Ut P T (.int k)]{x y:Operand}{a b:Int}{c:Bool}(hx:ro L x=some (.int k a))(hy:ro L y=some (.int k b))(h:Dc (a=b) c):aK P S w0 F L ⟨d,.binOp .neq T x y T',ty,pos,af,g⟩ (.bool (!c)):=h.eq▸Az (ag hx) (ag hy)
theorem zf{k T':TypeId}{n:Nat}[u:gr P k n]{x y:Operand}{a b:BA n}{c:Bool}(hx:ro L x=some (dv a))(hy:ro L y=some (dv b))(h:Dc (a=b) c):aK P S w0 F L ⟨d,.binOp .eql k x y T',ty,pos,af,g⟩ (.bool c):=h.eq▸AK (ag hx) (ag hy)
theorem xM{k T':TypeId}{n:Nat}[u:gr P k n]{x y:Operand}{a b:BA n}{c:Bool}(hx:ro L x=some (dv a))(hy:ro L y=some (dv b))(h:Dc (a=b) c):aK P S w0 F L ⟨d,.binOp .neq k x y T',ty,pos,af,g⟩ (.bool (!c)):=h.eq▸AA (ag hx) (ag hy)
theorem iC{T T' E:TypeId}[u:Ut P T (.pointer E)]{x y:Operand}{a:Option Addr}(hx:ro L x=some (.pointer a))(hy:ro L y=some (.pointer none)):aK P S w0 F L ⟨d,.binOp .eql T x y T',ty,pos,af,g⟩ (.bool a.isNone):=AH (u:=u) (ag hx) (ag hy)
theorem P1{T T' E:TypeId}[u:Ut P T (.pointer E)]{x y:Operand}{a:Option Addr}(hx:ro L x=some (.pointer a))(hy:ro L y=some (.pointer none)):aK P S w0 F L ⟨d,.binOp .neq T x y T',ty,pos,af,g⟩ (.bool (!a.isNone)):=Ay (u:=u) (ag hx) (ag hy)
theorem vj{T T':TypeId}{k k':IntKind}[u:Ut P T (.int k)][u':Ut P T' (.int k')]{x:Operand}{a:Int}(hx:ro L x=some (.int k a)):aK P S w0 F L ⟨d,.convert T T' x,ty,pos,af,g⟩ (.int k' (k'.wrap a)):=yH (u:=u) (u':=u') (ag hx)
theorem lL{κ ν:Type}[DecidableEq κ]{enc:κ→Value}{V:ν→Value}{m:List (κ×ν)}{b:Nat}{k T E:TypeId}{x y:Operand}[u:Ut P T (.map k E)]{i:TypeInfo}[f:dp P E i][K:xw P k enc]{z v:Value}{c:Bool}{kx:κ}
  (hx:ro L x=some (.map (some b))) (hy:ro L y=some (enc kx)) (hz:i.zero=some z) (h:aE w0 b enc V m) (hr:Lk V z m kx v c) (hb:b∉S):aK P S w0 F L ⟨d,.lookup T x y true,ty,pos,af,g⟩ (.tuple #[v,.bool c]):=by
 rcases hr.eq with⟨r,h1,rfl,rfl⟩|⟨h1,rfl,rfl⟩
 ·exact vv (u:=u) (f:=f) (ag hx) (ag hy) h hb K.key hz h1
 ·exact vz (u:=u) (f:=f) (ag hx) (ag hy) h hb K.key hz h1
theorem qu{κ ν:Type}[DecidableEq κ]{enc:κ→Value}{V:ν→Value}{m:List (κ×ν)}{b:Nat}{k T E:TypeId}{x y:Operand}[u:Ut P T (.map k E)]{i:TypeInfo}[f:dp P E i][K:xw P k enc]{z v:Value}{c:Bool}{kx:κ}
  (hx:ro L x=some (.map (some b))) (hy:ro L y=some (enc kx)) (hz:i.zero=some z) (h:aE w0 b enc V m) (hr:Lk V z m kx v c) (hb:b∉S):aK P S w0 F L ⟨d,.lookup T x y false,ty,pos,af,g⟩ v:=by
 rcases hr.eq with⟨r,h1,rfl,rfl⟩|⟨h1,rfl,rfl⟩
 ·exact tJ (u:=u) (f:=f) (ag hx) (ag hy) h hb K.key hz h1
 ·exact tK (u:=u) (f:=f) (ag hx) (ag hy) h hb K.key hz h1
theorem dy{T E:TypeId}[u:Ut P T (.slice E)]{x:Operand}{a:Option Addr}{n c:Nat}(hx:ro L x=some (.slice a n c)):aK P S w0 F L ⟨d,.call {callee:= .builtin .len,args:= #[x],argTypes:= #[T]},ty,pos,af,g⟩ (.int .i64 n):=pq (u:=u) (ag hx)
theorem D7{κ ν:Type}{enc:κ→Value}{V:ν→Value}{m:List (κ×ν)}{b:Nat}{k T E:TypeId}[u:Ut P T (.map k E)]{x:Operand}(hx:ro L x=some (.map (some b)))(h:aE w0 b enc V m)(hb:b∉S):aK P S w0 F L ⟨d,.call {callee:= .builtin .len,args:= #[x],argTypes:= #[T]},ty,pos,af,g⟩ (.int .i64 m.length):=rQ (u:=u) (ag hx) h hb
theorem fv{T E:TypeId}[u:Ut P T (.slice E)]{sz:Nat}[f:Sz P E sz]{x y:Operand}{b off n c:Nat}{k:IntKind}{z:Int}{j:Nat}(hx:ro L x=some (.slice (some ⟨b,off,none⟩) n c))(hy:ro L y=some (.int k z))(hz:z=(j:Int))(h1:Ar (j<n)):
  aK P S w0 F L ⟨d,.indexAddr T x y,ty,pos,af,g⟩ (.pointer (some ⟨b,off+j*sz,none⟩)):=xy (u:=u) (f:=f) (ag hx) (by rw[ag hy,hz]) h1.h
theorem Bn{T E:TypeId}[u:Ut P T (.slice E)]{sz:Nat}[f:Sz P E sz]{x:Operand}{b off n c:Nat}{k:IntKind}{z:Int}(hx:ro L x=some (.slice (some ⟨b,off,none⟩) n c))(h1:Ar (0≤z∧z<n)):
  aK P S w0 F L ⟨d,.indexAddr T x (.const (.int k z)),ty,pos,af,g⟩ (.pointer (some ⟨b,off+z.toNat*sz,none⟩)):=xy (u:=u) (f:=f) (j:=z.toNat) (ag hx) (by rw[Int.toNat_of_nonneg h1.h.1];exact yV) (by have:=h1.h;omega)
theorem HY{T E:TypeId}[u:Ut P T (.slice E)]{sz:Nat}[f:Sz P E sz]{x lo:Operand}{b off n c:Nat}{k:IntKind}{z:Int}{j:Nat}(hx:ro L x=some (.slice (some ⟨b,off,none⟩) n c))(hlo:ro L lo=some (.int k z))(hz:z=(j:Int))(hj:Ar (j≤n)):
  aK P S w0 F L ⟨d,.slice T x (some lo) none none,ty,pos,af,g⟩ (.slice (some ⟨b,if c=j then off else off+j*sz,none⟩) (n-j) (c-j)):=ny (u:=u) (f:=f) (ag hx) (by rw[ag hlo,hz]) hj.h
theorem Ja{T E:TypeId}[u:Ut P T (.slice E)]{sz:Nat}[f:Sz P E sz]{x hi:Operand}{a:Option Addr}{n c:Nat}{k:IntKind}{z:Int}{j:Nat}(hx:ro L x=some (.slice a n c))(hhi:ro L hi=some (.int k z))(hz:z=(j:Int))(hj:Ar (j≤c)):
  aK P S w0 F L ⟨d,.slice T x none (some hi) none,ty,pos,af,g⟩ (.slice a j c):=fun w _ _=>by
 obtain⟨i,h2,h3⟩:=f.eq
 have h4:(j:Int)≤c:=by have:=hj.h;omega
 subst h3
 subst hz
 simp only[execOp,ag hx,Option.map_some,Option.map_none,ag hhi,Instr.sliceAt,Sem.run_bind,run_underlying u.eq,Result.andThen,Instr.slice,Instr.sliceBounds,Instr.sliceBound,asIntOf,Sem.run_pure]
 have h5:(0:Int)≤(j:Int)∧(j:Int)≤(c:Int):=⟨by omega,h4⟩
 simp only[h5,and_self,if_true,Sem.run_pure,sizeOf,typeInfo,Sem.run_bind,run_program,Result.andThen,h2]
 cases a with
 |none=>simp
 |some a=>
  obtain⟨b,off,s⟩:=a
  by_cases hc:c=0
  ·subst hc;simp
  ·simp[hc,Addr.add]
end
end
section
section
variable {α:Type} {enc:α→List Value} {sz:Nat}
def Sl(enc:α→List Value)(sz:Nat)(w:World)(a:Option Addr)(l:List α):Prop:=∀i x,l[i]?=some x→∃b off,a=some ⟨b,off,none⟩∧Row w b (off+i*sz) (enc x)
theorem Sl.kp{S:List Nat}{w w':World}{a:Option Addr}{l:List α}(h:Sl enc sz w a l)(hk:Kp S w w')(hb:∀b off,a=some ⟨b,off,none⟩→b∉S):Sl enc sz w' a l:=fun i x hx=>by
 obtain⟨b,off,h1,h2⟩:=h i x hx
 exact⟨b,off,h1,h2.kp hk (hb b off h1)⟩
theorem Sl.ay{w w':World}{a:Option Addr}{l:List α}(h:Sl enc sz w a l)(hk:Kp [] w w'):Sl enc sz w' a l:=h.kp hk (by simp)
theorem Sl.take{w:World}{a:Option Addr}{l:List α}(h:Sl enc sz w a l)(n:Nat):Sl enc sz w a (l.take n):=fun i x hx=>by
 rw[List.getElem?_take] at hx
 split at hx
 ·exact h i x hx
 ·cases hx
theorem Sl.nil{w:World}{a:Option Addr}:Sl enc sz w a []:=fun i x hx=>by simp at hx
theorem Sl.at{w:World}{a:Option Addr}{l:List α}(h:Sl enc sz w a l){i:Nat}(hi:i<l.length):∃b off,a=some ⟨b,off,none⟩∧Row w b (off+i*sz) (enc l[i]):=h i l[i] (List.getElem?_eq_getElem hi)
theorem Sl.row{w:World}{b off:Nat}{l:List α}(h:Sl enc sz w (some ⟨b,off,none⟩) l){i:Nat}{x:α}(hx:l[i]?=some x):Row w b (off+i*sz) (enc x):=by
 obtain⟨b',off',h1,h2⟩:=h i x hx
 simp only[Option.some.injEq,Addr.mk.injEq,and_true] at h1
 obtain⟨rfl,rfl⟩:=h1
 exact h2
def bO(enc:α→List Value)(l:List α):List Value:=l.flatMap enc
theorem bY(he:∀x,(enc x).length=sz)(l:List α):(bO enc l).length=l.length*sz:=by
 induction l with
 |nil=>simp[bO]
 |cons x l ih=>
  simp only[bO,List.flatMap_cons,List.length_append,he,List.length_cons,Nat.add_mul] at*
  omega
theorem dx(a b:List α):bO enc (a++b)=bO enc a++bO enc b:=by simp[bO]
theorem gp(x:α):bO enc [x]=enc x:=by simp[bO]
theorem mS(he:∀x,bF (enc x)=true)(l:List α):bF (bO enc l)=true:=by
 induction l with
 |nil=>rfl
 |cons x l ih=>
  have:=he x
  unfold bF at*
  simp only[bO,List.flatMap_cons,List.all_append,this,Bool.true_and] at*
  exact ih
theorem rz(l:List α)(k:Nat)(hk:k<l.length):bO enc l=bO enc (l.take k)++(enc l[k]++bO enc (l.drop (k+1))):=by
 have e:l=l.take k++(l[k]::l.drop (k+1)):=by rw[←List.drop_eq_getElem_cons hk,List.take_append_drop]
 have h2:bO enc (l.take k++(l[k]::l.drop (k+1)))=bO enc (l.take k)++(enc l[k]++bO enc (l.drop (k+1))):=by simp only[bO,List.flatMap_append,List.flatMap_cons]
 rw[←e] at h2
 exact h2
theorem EL(he:∀x,(enc x).length=sz){w:World}{b:Nat}{l:List α}{pre post:List Value}{T:TypeId}(h:aF w b (.cells (pre++(bO enc l++post)).toArray T)){k:Nat}(hk:k<l.length):Row w b (pre.length+k*sz) (enc l[k]):=by
 refine Row.of h (pre++bO enc (l.take k)) (bO enc (l.drop (k+1))++post) ?_ ?_
 ·rw[rz l k hk];simp
 ·simp[bY he,Nat.min_eq_left (Nat.le_of_lt hk)]
theorem Sl.gH(he:∀x,(enc x).length=sz){w:World}{b:Nat}{l:List α}{pre post:List Value}{T:TypeId}(h:aF w b (.cells (pre++(bO enc l++post)).toArray T)):Sl enc sz w (some ⟨b,pre.length,none⟩) l:=fun i x hx=>by
 have hi:i<l.length:=(List.getElem?_eq_some_iff.1 hx).1
 have:=EL he h hi
 rw[List.getElem?_eq_getElem hi] at hx
 cases hx
 exact⟨b,_,rfl,this⟩
theorem Sl.own{w:World}{base n:Nat}{T:TypeId}{v:Value}{l:List α}(he:∀x,(enc x).length=sz)(h:w.ownsRow base T sz v n (bO enc l))(hn:l.length=n):∃a c,v= .slice a n c∧n≤c∧Sl enc sz w a l:=by
 obtain⟨h1,h2⟩:=h
 rcases h2 with⟨rfl,rfl⟩|⟨g,cap,cur,rfl,hg,hh,hnc,hcm,hcs,ht⟩
 ·have:l=[]:=List.eq_nil_of_length_eq_zero hn
  subst this
  exact⟨none,0,rfl,by omega,Sl.nil⟩
 ·refine⟨some ⟨g,0,none⟩,cap,rfl,hnc,?_⟩
  have:cur=([]++(bO enc l++cur.toList.drop (n*sz))).toArray:=by
   rw[←ht,List.nil_append,List.take_append_drop]
  rw[this] at hh
  exact Sl.gH he (pre:=[]) hh
theorem BE{w:World}{b base n:Nat}{T:TypeId}{l:List α}(he:∀x,(enc x).length=sz)(h:aF w b (.cells (bO enc l).toArray T))(hb:base≤b)(hn:l.length=n)(hl:n≤maxLen):w.ownsRow base T sz (.slice (some ⟨b,0,none⟩) n n) n (bO enc l):=by
 subst hn
 refine⟨bY he l,Or.inr ⟨b,l.length,(bO enc l).toArray,rfl,hb,h,Nat.le_refl _,hl,by simp[bY he],?_⟩⟩
 rw[←bY he l]
 simp
theorem dR{w:World}{base:Nat}{T:TypeId}:w.ownsRow base T sz (.slice none 0 0) 0 (bO enc ([]:List α)):=⟨by simp[bO],Or.inl ⟨rfl,rfl⟩⟩
theorem Gl{w:World}{base n sz:Nat}{T:TypeId}{v:Value}{xs:List Value}(h:w.ownsRow base T sz v n xs):∀z,z<base→z∉aP v:=by
 intro z hz hm
 unfold aP at hm
 cases hv:v.ownBlock with
 |none=>rw[hv] at hm;simp at hm
 |some g=>rw[hv] at hm;simp at hm;have:=(h.lt g hv).1;omega
theorem eO{w w0:World}{base n sz:Nat}{T:TypeId}{v:Value}{xs:List Value}{S:List Nat}(h:w.ownsRow base T sz v n xs)(hb:w0.heap.size≤base):∀z∈aP v,z∈S∨w0.heap.size≤z:=by
 intro z hz
 by_cases hlt:z<base
 ·exact absurd hz (Gl h z hlt)
 ·exact Or.inr (by omega)
structure tz(n:Nat)(enc:α→List Value)(sz:Nat)(w:World)(a:Option Addr)(c:Nat)(l:List α):Prop where
 len:l.length≤c
 fr:∀b off,a=some ⟨b,off,none⟩→n≤b
 sl:Sl enc sz w a l
theorem tz.ay{n:Nat}{w w':World}{a:Option Addr}{c:Nat}{l:List α}(h:tz n enc sz w a c l)(hk:Kp [] w w'):tz n enc sz w' a c l:=⟨h.len,h.fr,h.sl.ay hk⟩
theorem tz.mono{n m:Nat}{w:World}{a:Option Addr}{c:Nat}{l:List α}(h:tz n enc sz w a c l)(hm:m≤n):tz m enc sz w a c l:=⟨h.len,fun b off e=>Nat.le_trans hm (h.fr b off e),h.sl⟩
theorem tz.nil{n:Nat}{w:World}{c:Nat}:tz n enc sz w none c ([]:List α):=⟨by simp,fun b off e=>absurd e (by simp),Sl.nil⟩
theorem tz.own{w:World}{base n:Nat}{T:TypeId}{v:Value}{l:List α}(he:∀x,(enc x).length=sz)(h:w.ownsRow base T sz v n (bO enc l))(hn:l.length=n):∃a c,v= .slice a n c∧tz base enc sz w a c l:=by
 obtain⟨a,c,h1,h2,h3⟩:=Sl.own he h hn
 refine⟨a,c,h1,by omega,fun b off e=>?_,h3⟩
 subst e
 subst h1
 obtain⟨_,h2⟩:=h
 rcases h2 with⟨h2,_⟩|⟨g,cap,cur,h2,hg,_⟩
 ·cases h2
 ·simp only[Value.slice.injEq,Option.some.injEq,Addr.mk.injEq] at h2
  omega
theorem HN:cm [] (fun _=>True):=fun _ _ _ h=>h
def Fp(P:Program)(enc:α→List Value)(sz:Nat)(f:FuncId)(args:Array Value)(w:World)(l:List α):Prop:=Calls P f args w (fun e w'=>∃a c,e= .returned (.slice a l.length c)∧tz w.heap.size enc sz w' a c l∧Kp [] w w')
theorem aI.CP{P:Program}{L:Env}{ty:TypeId}{pos:String}{af:Array Edge}{g:Option (Nat×Bool)}{w0:World}{ops:List Oper}{gh:List Nat}{K:Env→(World→Prop)→(World→Prop)→Prop}{i:Nat}{ord:List Nat}{F:World→Prop}{d:Nat}{f:FuncId}[bQ P f]{args:List Operand}{vs:List Value}{tys:Array TypeId}(l:List α)
  (ho:ops[i]?=some ⟨some d,.call ⟨.value (.func f),args.toArray,tys⟩,ty,pos,af,g⟩) (hw:want ops L ⟨some d,.call ⟨.value (.func f),args.toArray,tys⟩,ty,pos,af,g⟩=some true) (hg:gh.elem i=true) (hk:(Op.call ⟨.value (.func f),args.toArray,tys⟩).operands.toList.all (known L)=true)
  (he:bz L args vs) (hFs:cm [] F) (hc:∀w,Kp [] w0 w→F w→Fp P enc sz f vs.toArray w l)
  (hd:∀(a:Option Addr) (c:Nat),aI P [] w0 ops gh K ord ((d,.slice a l.length c)::L) (fun w=>F w∧tz w0.heap.size enc sz w a c l) (fun _=>True)):aI P [] w0 ops gh K (i::ord) L F (fun _=>True):=
 aI.kl (X:=Option Addr×Nat) (fun q=> .slice q.1 l.length q.2) (fun q w=>tz w0.heap.size enc sz w q.1 q.2 l) ho hw hg hk he (fun q w w' hk h=>h.ay hk) hFs (fun w h1 h2=>(hc w h1 h2).mono (fun e w' ⟨a,c,g1,g2,g4⟩=>⟨(a,c),g1,g2.mono h1.size,g4⟩)) (fun q=>hd q.1 q.2)
end
end
section
open Go.Proofs
@[reducible] def ty.u0:= @Ut.mk Tryz.prog 0 _ Tryz.underlying0
@[reducible] def ty.u1:= @Ut.mk Tryz.prog 1 _ Tryz.underlying1
@[reducible] def ty.u2:= @Ut.mk Tryz.prog 2 _ Tryz.underlying2
instance ty.i3:dp Tryz.prog 3 Tryz.t3:=⟨by kernel_rfl⟩
instance ty.s3:Sz Tryz.prog 3 1:=⟨_,ty.i3.eq,rfl⟩
@[reducible] def ty.u3:= @Ut.mk Tryz.prog 3 _ Tryz.underlying3
instance ty.c3:cR Tryz.prog 3:=cR.of Tryz.underlying3 rfl
instance ty.i4:dp Tryz.prog 4 Tryz.t4:=⟨by kernel_rfl⟩
@[reducible] def ty.u4:= @Ut.mk Tryz.prog 4 _ Tryz.underlying4
instance ty.c4:cR Tryz.prog 4:=cR.of Tryz.underlying4 rfl
instance ty.i5:dp Tryz.prog 5 Tryz.t5:=⟨by kernel_rfl⟩
instance ty.s5:Sz Tryz.prog 5 1:=⟨_,ty.i5.eq,rfl⟩
@[reducible] def ty.u5:= @Ut.mk Tryz.prog 5 _ Tryz.underlying5
instance ty.c5:cR Tryz.prog 5:=cR.of Tryz.underlying5 rfl
@[reducible] def ty.u6:= @Ut.mk Tryz.prog 6 _ Tryz.underlying6
@[reducible] def ty.u7:= @Ut.mk Tryz.prog 7 _ Tryz.underlying7
@[reducible] def ty.u8:= @Ut.mk Tryz.prog 8 _ Tryz.underlying8
@[reducible] def ty.u9:= @Ut.mk Tryz.prog 9 _ Tryz.underlying9
@[reducible] def ty.Sk:= @Ut.mk Tryz.prog 10 _ Tryz.underlying10
@[reducible] def ty.Sj:= @Ut.mk Tryz.prog 11 _ Tryz.underlying11
@[reducible] def ty.Si:= @Ut.mk Tryz.prog 12 _ Tryz.underlying12
@[reducible] def ty.Sh:= @Ut.mk Tryz.prog 13 _ Tryz.underlying13
@[reducible] def ty.Sg:= @Ut.mk Tryz.prog 14 _ Tryz.underlying14
@[reducible] def ty.Sf:= @Ut.mk Tryz.prog 15 _ Tryz.underlying15
@[reducible] def ty.u16:= @Ut.mk Tryz.prog 16 _ Tryz.underlying16
@[reducible] def ty.Se:= @Ut.mk Tryz.prog 17 _ Tryz.underlying17
@[reducible] def ty.Sd:= @Ut.mk Tryz.prog 18 _ Tryz.underlying18
@[reducible] def ty.Sc:= @Ut.mk Tryz.prog 19 _ Tryz.underlying19
@[reducible] def ty.Sb:= @Ut.mk Tryz.prog 20 _ Tryz.underlying20
@[reducible] def ty.Sa:= @Ut.mk Tryz.prog 21 _ Tryz.underlying21
@[reducible] def ty.R9:= @Ut.mk Tryz.prog 22 _ Tryz.underlying22
instance ty.i23:dp Tryz.prog 23 Tryz.t23:=⟨by kernel_rfl⟩
instance ty.TZ:Sz Tryz.prog 23 1:=⟨_,ty.i23.eq,rfl⟩
@[reducible] def ty.R8:= @Ut.mk Tryz.prog 23 _ Tryz.underlying23
instance ty.Uu:cR Tryz.prog 23:=cR.of Tryz.underlying23 rfl
instance ty.i24:dp Tryz.prog 24 Tryz.t24:=⟨by kernel_rfl⟩
@[reducible] def ty.R7:= @Ut.mk Tryz.prog 24 _ Tryz.underlying24
instance ty.a24:fE Tryz.prog 24 4:=fE.of Tryz.underlying24 rfl ty.i24.eq rfl
@[reducible] def ty.R6:= @Ut.mk Tryz.prog 25 _ Tryz.underlying25
@[reducible] def ty.R5:= @Ut.mk Tryz.prog 26 _ Tryz.underlying26
@[reducible] def ty.R4:= @Ut.mk Tryz.prog 27 _ Tryz.underlying27
@[reducible] def ty.R3:= @Ut.mk Tryz.prog 28 _ Tryz.underlying28
@[reducible] def ty.R2:= @Ut.mk Tryz.prog 29 _ Tryz.underlying29
@[reducible] def ty.R1:= @Ut.mk Tryz.prog 30 _ Tryz.underlying30
instance ty.i31:dp Tryz.prog 31 Tryz.t31:=⟨by kernel_rfl⟩
@[reducible] def ty.RZ:= @Ut.mk Tryz.prog 31 _ Tryz.underlying31
instance ty.a31:fE Tryz.prog 31 3:=fE.of Tryz.underlying31 rfl ty.i31.eq rfl
@[reducible] def ty.u32:= @Ut.mk Tryz.prog 32 _ Tryz.underlying32
instance ty.i33:dp Tryz.prog 33 Tryz.t33:=⟨by kernel_rfl⟩
@[reducible] def ty.RY:= @Ut.mk Tryz.prog 33 _ Tryz.underlying33
instance ty.Ur:cR Tryz.prog 33:=cR.of Tryz.underlying33 rfl
@[reducible] def ty.RX:= @Ut.mk Tryz.prog 34 _ Tryz.underlying34
instance ty.i35:dp Tryz.prog 35 Tryz.t35:=⟨by kernel_rfl⟩
instance ty.TY:Sz Tryz.prog 35 9:=⟨_,ty.i35.eq,rfl⟩
@[reducible] def ty.RW:= @Ut.mk Tryz.prog 35 _ Tryz.underlying35
instance ty.a35:fE Tryz.prog 35 9:=fE.of Tryz.underlying35 rfl ty.i35.eq rfl
instance ty.i36:dp Tryz.prog 36 Tryz.t36:=⟨by kernel_rfl⟩
instance ty.TX:Sz Tryz.prog 36 1:=⟨_,ty.i36.eq,rfl⟩
@[reducible] def ty.RV:= @Ut.mk Tryz.prog 36 _ Tryz.underlying36
instance ty.Uq:cR Tryz.prog 36:=cR.of Tryz.underlying36 rfl
@[reducible] def ty.RU:= @Ut.mk Tryz.prog 37 _ Tryz.underlying37
instance ty.i38:dp Tryz.prog 38 Tryz.t38:=⟨by kernel_rfl⟩
@[reducible] def ty.RT:= @Ut.mk Tryz.prog 38 _ Tryz.underlying38
instance ty.Up:cR Tryz.prog 38:=cR.of Tryz.underlying38 rfl
instance ty.i39:dp Tryz.prog 39 Tryz.t39:=⟨by kernel_rfl⟩
@[reducible] def ty.RS:= @Ut.mk Tryz.prog 39 _ Tryz.underlying39
instance ty.Uo:cR Tryz.prog 39:=cR.of Tryz.underlying39 rfl
instance ty.i40:dp Tryz.prog 40 Tryz.t40:=⟨by kernel_rfl⟩
@[reducible] def ty.RR:= @Ut.mk Tryz.prog 40 _ Tryz.underlying40
instance ty.Un:cR Tryz.prog 40:=cR.of Tryz.underlying40 rfl
instance ty.i41:dp Tryz.prog 41 Tryz.t41:=⟨by kernel_rfl⟩
@[reducible] def ty.RQ:= @Ut.mk Tryz.prog 41 _ Tryz.underlying41
instance ty.Um:cR Tryz.prog 41:=cR.of Tryz.underlying41 rfl
instance ty.i42:dp Tryz.prog 42 Tryz.t42:=⟨by kernel_rfl⟩
@[reducible] def ty.RP:= @Ut.mk Tryz.prog 42 _ Tryz.underlying42
instance ty.Ul:cR Tryz.prog 42:=cR.of Tryz.underlying42 rfl
@[reducible] def ty.RO:= @Ut.mk Tryz.prog 43 _ Tryz.underlying43
@[reducible] def ty.RN:= @Ut.mk Tryz.prog 44 _ Tryz.underlying44
@[reducible] def ty.RM:= @Ut.mk Tryz.prog 45 _ Tryz.underlying45
@[reducible] def ty.RL:= @Ut.mk Tryz.prog 46 _ Tryz.underlying46
instance ty.i47:dp Tryz.prog 47 Tryz.t47:=⟨by kernel_rfl⟩
instance ty.TW:Sz Tryz.prog 47 8:=⟨_,ty.i47.eq,rfl⟩
@[reducible] def ty.RK:= @Ut.mk Tryz.prog 47 _ Tryz.underlying47
instance ty.Uy:fE Tryz.prog 47 8:=fE.of Tryz.underlying47 rfl ty.i47.eq rfl
@[reducible] def ty.RJ:= @Ut.mk Tryz.prog 48 _ Tryz.underlying48
@[reducible] def ty.RI:= @Ut.mk Tryz.prog 49 _ Tryz.underlying49
instance ty.i50:dp Tryz.prog 50 Tryz.t50:=⟨by kernel_rfl⟩
instance ty.TV:Sz Tryz.prog 50 18:=⟨_,ty.i50.eq,rfl⟩
@[reducible] def ty.RH:= @Ut.mk Tryz.prog 50 _ Tryz.underlying50
instance ty.a50:fE Tryz.prog 50 18:=fE.of Tryz.underlying50 rfl ty.i50.eq rfl
@[reducible] def ty.RG:= @Ut.mk Tryz.prog 51 _ Tryz.underlying51
instance ty.i52:dp Tryz.prog 52 Tryz.t52:=⟨by kernel_rfl⟩
instance ty.TU:Sz Tryz.prog 52 13:=⟨_,ty.i52.eq,rfl⟩
@[reducible] def ty.RF:= @Ut.mk Tryz.prog 52 _ Tryz.underlying52
instance ty.Ux:fE Tryz.prog 52 13:=fE.of Tryz.underlying52 rfl ty.i52.eq rfl
@[reducible] def ty.RE:= @Ut.mk Tryz.prog 53 _ Tryz.underlying53
instance ty.i54:dp Tryz.prog 54 Tryz.t54:=⟨by kernel_rfl⟩
@[reducible] def ty.RD:= @Ut.mk Tryz.prog 54 _ Tryz.underlying54
@[reducible] def ty.RC:= @Ut.mk Tryz.prog 55 _ Tryz.underlying55
@[reducible] def ty.RB:= @Ut.mk Tryz.prog 56 _ Tryz.underlying56
@[reducible] def ty.RA:= @Ut.mk Tryz.prog 57 _ Tryz.underlying57
@[reducible] def ty.Rz:= @Ut.mk Tryz.prog 58 _ Tryz.underlying58
instance ty.i59:dp Tryz.prog 59 Tryz.t59:=⟨by kernel_rfl⟩
instance ty.TT:Sz Tryz.prog 59 10:=⟨_,ty.i59.eq,rfl⟩
@[reducible] def ty.Ry:= @Ut.mk Tryz.prog 59 _ Tryz.underlying59
instance ty.a59:fE Tryz.prog 59 10:=fE.of Tryz.underlying59 rfl ty.i59.eq rfl
@[reducible] def ty.Rx:= @Ut.mk Tryz.prog 60 _ Tryz.underlying60
@[reducible] def ty.Rw:= @Ut.mk Tryz.prog 61 _ Tryz.underlying61
@[reducible] def ty.Rv:= @Ut.mk Tryz.prog 62 _ Tryz.underlying62
@[reducible] def ty.Ru:= @Ut.mk Tryz.prog 63 _ Tryz.underlying63
@[reducible] def ty.u64:= @Ut.mk Tryz.prog 64 _ Tryz.underlying64
@[reducible] def ty.Rt:= @Ut.mk Tryz.prog 65 _ Tryz.underlying65
@[reducible] def ty.Rs:= @Ut.mk Tryz.prog 66 _ Tryz.underlying66
@[reducible] def ty.Rr:= @Ut.mk Tryz.prog 67 _ Tryz.underlying67
@[reducible] def ty.Rq:= @Ut.mk Tryz.prog 68 _ Tryz.underlying68
@[reducible] def ty.Rp:= @Ut.mk Tryz.prog 69 _ Tryz.underlying69
@[reducible] def ty.Ro:= @Ut.mk Tryz.prog 70 _ Tryz.underlying70
@[reducible] def ty.Rn:= @Ut.mk Tryz.prog 71 _ Tryz.underlying71
@[reducible] def ty.Rm:= @Ut.mk Tryz.prog 72 _ Tryz.underlying72
@[reducible] def ty.Rl:= @Ut.mk Tryz.prog 73 _ Tryz.underlying73
@[reducible] def ty.PW:= @Ut.mk Tryz.prog 74 _ Tryz.underlying74
@[reducible] def ty.Rk:= @Ut.mk Tryz.prog 75 _ Tryz.underlying75
@[reducible] def ty.Rj:= @Ut.mk Tryz.prog 76 _ Tryz.underlying76
@[reducible] def ty.Ri:= @Ut.mk Tryz.prog 77 _ Tryz.underlying77
@[reducible] def ty.Rh:= @Ut.mk Tryz.prog 78 _ Tryz.underlying78
instance ty.i79:dp Tryz.prog 79 Tryz.t79:=⟨by kernel_rfl⟩
@[reducible] def ty.Rg:= @Ut.mk Tryz.prog 79 _ Tryz.underlying79
instance ty.Uk:cR Tryz.prog 79:=cR.of Tryz.underlying79 rfl
@[reducible] def ty.Rf:= @Ut.mk Tryz.prog 80 _ Tryz.underlying80
@[reducible] def ty.Re:= @Ut.mk Tryz.prog 81 _ Tryz.underlying81
@[reducible] def ty.Rc:= @Ut.mk Tryz.prog 82 _ Tryz.underlying82
@[reducible] def ty.Rb:= @Ut.mk Tryz.prog 83 _ Tryz.underlying83
@[reducible] def ty.Ra:= @Ut.mk Tryz.prog 84 _ Tryz.underlying84
@[reducible] def ty.Q9:= @Ut.mk Tryz.prog 85 _ Tryz.underlying85
@[reducible] def ty.Q8:= @Ut.mk Tryz.prog 86 _ Tryz.underlying86
@[reducible] def ty.Q7:= @Ut.mk Tryz.prog 87 _ Tryz.underlying87
@[reducible] def ty.Q6:= @Ut.mk Tryz.prog 88 _ Tryz.underlying88
@[reducible] def ty.Q5:= @Ut.mk Tryz.prog 89 _ Tryz.underlying89
@[reducible] def ty.Q4:= @Ut.mk Tryz.prog 90 _ Tryz.underlying90
@[reducible] def ty.Q3:= @Ut.mk Tryz.prog 91 _ Tryz.underlying91
@[reducible] def ty.Q2:= @Ut.mk Tryz.prog 92 _ Tryz.underlying92
instance ty.i93:dp Tryz.prog 93 Tryz.t93:=⟨by kernel_rfl⟩
instance ty.TS:Sz Tryz.prog 93 1:=⟨_,ty.i93.eq,rfl⟩
@[reducible] def ty.Q1:= @Ut.mk Tryz.prog 93 _ Tryz.underlying93
instance ty.Uj:cR Tryz.prog 93:=cR.of Tryz.underlying93 rfl
@[reducible] def ty.Q0:= @Ut.mk Tryz.prog 94 _ Tryz.underlying94
@[reducible] def ty.QZ:= @Ut.mk Tryz.prog 95 _ Tryz.underlying95
@[reducible] def ty.QY:= @Ut.mk Tryz.prog 96 _ Tryz.underlying96
@[reducible] def ty.QX:= @Ut.mk Tryz.prog 97 _ Tryz.underlying97
@[reducible] def ty.QW:= @Ut.mk Tryz.prog 98 _ Tryz.underlying98
@[reducible] def ty.QV:= @Ut.mk Tryz.prog 99 _ Tryz.underlying99
@[reducible] def ty.NX:= @Ut.mk Tryz.prog 100 _ Tryz.underlying100
@[reducible] def ty.NW:= @Ut.mk Tryz.prog 101 _ Tryz.underlying101
@[reducible] def ty.NV:= @Ut.mk Tryz.prog 102 _ Tryz.underlying102
@[reducible] def ty.NU:= @Ut.mk Tryz.prog 103 _ Tryz.underlying103
@[reducible] def ty.NT:= @Ut.mk Tryz.prog 104 _ Tryz.underlying104
@[reducible] def ty.NS:= @Ut.mk Tryz.prog 105 _ Tryz.underlying105
@[reducible] def ty.NR:= @Ut.mk Tryz.prog 106 _ Tryz.underlying106
@[reducible] def ty.NQ:= @Ut.mk Tryz.prog 107 _ Tryz.underlying107
@[reducible] def ty.NP:= @Ut.mk Tryz.prog 108 _ Tryz.underlying108
@[reducible] def ty.NO:= @Ut.mk Tryz.prog 109 _ Tryz.underlying109
@[reducible] def ty.NN:= @Ut.mk Tryz.prog 110 _ Tryz.underlying110
@[reducible] def ty.NM:= @Ut.mk Tryz.prog 111 _ Tryz.underlying111
@[reducible] def ty.NL:= @Ut.mk Tryz.prog 112 _ Tryz.underlying112
@[reducible] def ty.NK:= @Ut.mk Tryz.prog 113 _ Tryz.underlying113
instance ty.i114:dp Tryz.prog 114 Tryz.t114:=⟨by kernel_rfl⟩
@[reducible] def ty.NJ:= @Ut.mk Tryz.prog 114 _ Tryz.underlying114
instance ty.Tp:cR Tryz.prog 114:=cR.of Tryz.underlying114 rfl
@[reducible] def ty.NI:= @Ut.mk Tryz.prog 115 _ Tryz.underlying115
instance ty.i116:dp Tryz.prog 116 Tryz.t116:=⟨by kernel_rfl⟩
@[reducible] def ty.NH:= @Ut.mk Tryz.prog 116 _ Tryz.underlying116
instance ty.a116:fE Tryz.prog 116 3:=fE.of Tryz.underlying116 rfl ty.i116.eq rfl
@[reducible] def ty.NF:= @Ut.mk Tryz.prog 117 _ Tryz.underlying117
@[reducible] def ty.ND:= @Ut.mk Tryz.prog 118 _ Tryz.underlying118
instance ty.i119:dp Tryz.prog 119 Tryz.t119:=⟨by kernel_rfl⟩
instance ty.Su:Sz Tryz.prog 119 1:=⟨_,ty.i119.eq,rfl⟩
@[reducible] def ty.NC:= @Ut.mk Tryz.prog 119 _ Tryz.underlying119
instance ty.To:cR Tryz.prog 119:=cR.of Tryz.underlying119 rfl
@[reducible] def ty.NB:= @Ut.mk Tryz.prog 120 _ Tryz.underlying120
@[reducible] def ty.NA:= @Ut.mk Tryz.prog 121 _ Tryz.underlying121
instance ty.i122:dp Tryz.prog 122 Tryz.t122:=⟨by kernel_rfl⟩
@[reducible] def ty.Nz:= @Ut.mk Tryz.prog 122 _ Tryz.underlying122
instance ty.Tn:cR Tryz.prog 122:=cR.of Tryz.underlying122 rfl
instance ty.i123:dp Tryz.prog 123 Tryz.t123:=⟨by kernel_rfl⟩
@[reducible] def ty.Ny:= @Ut.mk Tryz.prog 123 _ Tryz.underlying123
instance ty.Tk:cR Tryz.prog 123:=cR.of Tryz.underlying123 rfl
instance ty.i124:dp Tryz.prog 124 Tryz.t124:=⟨by kernel_rfl⟩
@[reducible] def ty.Nx:= @Ut.mk Tryz.prog 124 _ Tryz.underlying124
instance ty.Tj:cR Tryz.prog 124:=cR.of Tryz.underlying124 rfl
instance ty.i125:dp Tryz.prog 125 Tryz.t125:=⟨by kernel_rfl⟩
@[reducible] def ty.Nw:= @Ut.mk Tryz.prog 125 _ Tryz.underlying125
instance ty.Ti:cR Tryz.prog 125:=cR.of Tryz.underlying125 rfl
@[reducible] def ty.Nv:= @Ut.mk Tryz.prog 126 _ Tryz.underlying126
@[reducible] def ty.Nu:= @Ut.mk Tryz.prog 127 _ Tryz.underlying127
@[reducible] def ty.Nt:= @Ut.mk Tryz.prog 128 _ Tryz.underlying128
@[reducible] def ty.Ns:= @Ut.mk Tryz.prog 129 _ Tryz.underlying129
@[reducible] def ty.Nr:= @Ut.mk Tryz.prog 130 _ Tryz.underlying130
@[reducible] def ty.Nq:= @Ut.mk Tryz.prog 131 _ Tryz.underlying131
@[reducible] def ty.Np:= @Ut.mk Tryz.prog 132 _ Tryz.underlying132
instance ty.i133:dp Tryz.prog 133 Tryz.t133:=⟨by kernel_rfl⟩
@[reducible] def ty.Nl:= @Ut.mk Tryz.prog 133 _ Tryz.underlying133
instance ty.TK:fE Tryz.prog 133 2:=fE.of Tryz.underlying133 rfl ty.i133.eq rfl
instance ty.i134:dp Tryz.prog 134 Tryz.t134:=⟨by kernel_rfl⟩
@[reducible] def ty.Nk:= @Ut.mk Tryz.prog 134 _ Tryz.underlying134
instance ty.Th:cR Tryz.prog 134:=cR.of Tryz.underlying134 rfl
@[reducible] def ty.Nj:= @Ut.mk Tryz.prog 135 _ Tryz.underlying135
@[reducible] def ty.Ni:= @Ut.mk Tryz.prog 136 _ Tryz.underlying136
@[reducible] def ty.Nh:= @Ut.mk Tryz.prog 137 _ Tryz.underlying137
@[reducible] def ty.Ng:= @Ut.mk Tryz.prog 138 _ Tryz.underlying138
@[reducible] def ty.Nf:= @Ut.mk Tryz.prog 139 _ Tryz.underlying139
@[reducible] def ty.Nd:= @Ut.mk Tryz.prog 140 _ Tryz.underlying140
@[reducible] def ty.Nc:= @Ut.mk Tryz.prog 141 _ Tryz.underlying141
@[reducible] def ty.Na:= @Ut.mk Tryz.prog 142 _ Tryz.underlying142
@[reducible] def ty.M9:= @Ut.mk Tryz.prog 143 _ Tryz.underlying143
@[reducible] def ty.M8:= @Ut.mk Tryz.prog 144 _ Tryz.underlying144
@[reducible] def ty.M7:= @Ut.mk Tryz.prog 145 _ Tryz.underlying145
instance ty.i146:dp Tryz.prog 146 Tryz.t146:=⟨by kernel_rfl⟩
@[reducible] def ty.M6:= @Ut.mk Tryz.prog 146 _ Tryz.underlying146
@[reducible] def ty.M5:= @Ut.mk Tryz.prog 147 _ Tryz.underlying147
@[reducible] def ty.M4:= @Ut.mk Tryz.prog 148 _ Tryz.underlying148
@[reducible] def ty.M3:= @Ut.mk Tryz.prog 149 _ Tryz.underlying149
@[reducible] def ty.M1:= @Ut.mk Tryz.prog 150 _ Tryz.underlying150
@[reducible] def ty.M0:= @Ut.mk Tryz.prog 151 _ Tryz.underlying151
@[reducible] def ty.MZ:= @Ut.mk Tryz.prog 152 _ Tryz.underlying152
@[reducible] def ty.MY:= @Ut.mk Tryz.prog 153 _ Tryz.underlying153
@[reducible] def ty.MX:= @Ut.mk Tryz.prog 154 _ Tryz.underlying154
@[reducible] def ty.MW:= @Ut.mk Tryz.prog 155 _ Tryz.underlying155
@[reducible] def ty.MV:= @Ut.mk Tryz.prog 156 _ Tryz.underlying156
@[reducible] def ty.MU:= @Ut.mk Tryz.prog 157 _ Tryz.underlying157
@[reducible] def ty.MT:= @Ut.mk Tryz.prog 158 _ Tryz.underlying158
instance ty.i159:dp Tryz.prog 159 Tryz.t159:=⟨by kernel_rfl⟩
@[reducible] def ty.MS:= @Ut.mk Tryz.prog 159 _ Tryz.underlying159
instance ty.Tf:cR Tryz.prog 159:=cR.of Tryz.underlying159 rfl
instance ty.i160:dp Tryz.prog 160 Tryz.t160:=⟨by kernel_rfl⟩
@[reducible] def ty.MR:= @Ut.mk Tryz.prog 160 _ Tryz.underlying160
instance ty.Te:cR Tryz.prog 160:=cR.of Tryz.underlying160 rfl
@[reducible] def ty.MQ:= @Ut.mk Tryz.prog 161 _ Tryz.underlying161
@[reducible] def ty.MP:= @Ut.mk Tryz.prog 162 _ Tryz.underlying162
@[reducible] def ty.MO:= @Ut.mk Tryz.prog 163 _ Tryz.underlying163
@[reducible] def ty.MN:= @Ut.mk Tryz.prog 164 _ Tryz.underlying164
@[reducible] def ty.MM:= @Ut.mk Tryz.prog 165 _ Tryz.underlying165
@[reducible] def ty.ML:= @Ut.mk Tryz.prog 166 _ Tryz.underlying166
@[reducible] def ty.MK:= @Ut.mk Tryz.prog 167 _ Tryz.underlying167
@[reducible] def ty.MJ:= @Ut.mk Tryz.prog 168 _ Tryz.underlying168
@[reducible] def ty.MI:= @Ut.mk Tryz.prog 169 _ Tryz.underlying169
@[reducible] def ty.MH:= @Ut.mk Tryz.prog 170 _ Tryz.underlying170
@[reducible] def ty.MG:= @Ut.mk Tryz.prog 171 _ Tryz.underlying171
@[reducible] def ty.MF:= @Ut.mk Tryz.prog 172 _ Tryz.underlying172
@[reducible] def ty.ME:= @Ut.mk Tryz.prog 173 _ Tryz.underlying173
@[reducible] def ty.MD:= @Ut.mk Tryz.prog 174 _ Tryz.underlying174
@[reducible] def ty.MC:= @Ut.mk Tryz.prog 175 _ Tryz.underlying175
@[reducible] def ty.MB:= @Ut.mk Tryz.prog 176 _ Tryz.underlying176
@[reducible] def ty.MA:= @Ut.mk Tryz.prog 177 _ Tryz.underlying177
@[reducible] def ty.Mz:= @Ut.mk Tryz.prog 178 _ Tryz.underlying178
@[reducible] def ty.My:= @Ut.mk Tryz.prog 179 _ Tryz.underlying179
@[reducible] def ty.Mx:= @Ut.mk Tryz.prog 180 _ Tryz.underlying180
@[reducible] def ty.Mw:= @Ut.mk Tryz.prog 181 _ Tryz.underlying181
@[reducible] def ty.Mv:= @Ut.mk Tryz.prog 182 _ Tryz.underlying182
instance ty.i183:dp Tryz.prog 183 Tryz.t183:=⟨by kernel_rfl⟩
instance ty.Ss:Sz Tryz.prog 183 1:=⟨_,ty.i183.eq,rfl⟩
@[reducible] def ty.Mu:= @Ut.mk Tryz.prog 183 _ Tryz.underlying183
instance ty.Td:cR Tryz.prog 183:=cR.of Tryz.underlying183 rfl
@[reducible] def ty.Mt:= @Ut.mk Tryz.prog 184 _ Tryz.underlying184
@[reducible] def ty.Ms:= @Ut.mk Tryz.prog 185 _ Tryz.underlying185
@[reducible] def ty.Mr:= @Ut.mk Tryz.prog 186 _ Tryz.underlying186
@[reducible] def ty.Mq:= @Ut.mk Tryz.prog 187 _ Tryz.underlying187
@[reducible] def ty.Mp:= @Ut.mk Tryz.prog 188 _ Tryz.underlying188
@[reducible] def ty.Mo:= @Ut.mk Tryz.prog 189 _ Tryz.underlying189
@[reducible] def ty.Mn:= @Ut.mk Tryz.prog 190 _ Tryz.underlying190
@[reducible] def ty.Mm:= @Ut.mk Tryz.prog 191 _ Tryz.underlying191
@[reducible] def ty.Ml:= @Ut.mk Tryz.prog 192 _ Tryz.underlying192
@[reducible] def ty.Mk:= @Ut.mk Tryz.prog 193 _ Tryz.underlying193
@[reducible] def ty.Mj:= @Ut.mk Tryz.prog 194 _ Tryz.underlying194
@[reducible] def ty.Mi:= @Ut.mk Tryz.prog 195 _ Tryz.underlying195
@[reducible] def ty.Mh:= @Ut.mk Tryz.prog 196 _ Tryz.underlying196
@[reducible] def ty.Mg:= @Ut.mk Tryz.prog 197 _ Tryz.underlying197
instance ty.i198:dp Tryz.prog 198 Tryz.t198:=⟨by kernel_rfl⟩
@[reducible] def ty.Mf:= @Ut.mk Tryz.prog 198 _ Tryz.underlying198
instance ty.Tc:cR Tryz.prog 198:=cR.of Tryz.underlying198 rfl
@[reducible] def ty.Me:= @Ut.mk Tryz.prog 199 _ Tryz.underlying199
@[reducible] def ty.Md:= @Ut.mk Tryz.prog 200 _ Tryz.underlying200
@[reducible] def ty.Mc:= @Ut.mk Tryz.prog 201 _ Tryz.underlying201
instance ty.i202:dp Tryz.prog 202 Tryz.t202:=⟨by kernel_rfl⟩
@[reducible] def ty.Mb:= @Ut.mk Tryz.prog 202 _ Tryz.underlying202
@[reducible] def ty.Ma:= @Ut.mk Tryz.prog 203 _ Tryz.underlying203
@[reducible] def ty.L9:= @Ut.mk Tryz.prog 204 _ Tryz.underlying204
@[reducible] def ty.L8:= @Ut.mk Tryz.prog 205 _ Tryz.underlying205
@[reducible] def ty.L7:= @Ut.mk Tryz.prog 206 _ Tryz.underlying206
@[reducible] def ty.L6:= @Ut.mk Tryz.prog 207 _ Tryz.underlying207
@[reducible] def ty.L5:= @Ut.mk Tryz.prog 208 _ Tryz.underlying208
@[reducible] def ty.L4:= @Ut.mk Tryz.prog 209 _ Tryz.underlying209
@[reducible] def ty.L3:= @Ut.mk Tryz.prog 210 _ Tryz.underlying210
instance ty.i211:dp Tryz.prog 211 Tryz.t211:=⟨by kernel_rfl⟩
@[reducible] def ty.LZ:= @Ut.mk Tryz.prog 211 _ Tryz.underlying211
instance ty.TJ:fE Tryz.prog 211 9:=fE.of Tryz.underlying211 rfl ty.i211.eq rfl
instance ty.i212:dp Tryz.prog 212 Tryz.t212:=⟨by kernel_rfl⟩
@[reducible] def ty.LY:= @Ut.mk Tryz.prog 212 _ Tryz.underlying212
instance ty.Ta:cR Tryz.prog 212:=cR.of Tryz.underlying212 rfl
@[reducible] def ty.LX:= @Ut.mk Tryz.prog 213 _ Tryz.underlying213
@[reducible] def ty.LW:= @Ut.mk Tryz.prog 214 _ Tryz.underlying214
@[reducible] def ty.LV:= @Ut.mk Tryz.prog 215 _ Tryz.underlying215
instance ty.i216:dp Tryz.prog 216 Tryz.t216:=⟨by kernel_rfl⟩
instance ty.Sr:Sz Tryz.prog 216 22:=⟨_,ty.i216.eq,rfl⟩
@[reducible] def ty.LU:= @Ut.mk Tryz.prog 216 _ Tryz.underlying216
instance ty.TI:fE Tryz.prog 216 22:=fE.of Tryz.underlying216 rfl ty.i216.eq rfl
@[reducible] def ty.LS:= @Ut.mk Tryz.prog 217 _ Tryz.underlying217
@[reducible] def ty.LR:= @Ut.mk Tryz.prog 218 _ Tryz.underlying218
@[reducible] def ty.LQ:= @Ut.mk Tryz.prog 219 _ Tryz.underlying219
@[reducible] def ty.LP:= @Ut.mk Tryz.prog 220 _ Tryz.underlying220
@[reducible] def ty.LO:= @Ut.mk Tryz.prog 221 _ Tryz.underlying221
@[reducible] def ty.LN:= @Ut.mk Tryz.prog 222 _ Tryz.underlying222
@[reducible] def ty.LL:= @Ut.mk Tryz.prog 223 _ Tryz.underlying223
@[reducible] def ty.LK:= @Ut.mk Tryz.prog 224 _ Tryz.underlying224
@[reducible] def ty.LJ:= @Ut.mk Tryz.prog 225 _ Tryz.underlying225
@[reducible] def ty.LI:= @Ut.mk Tryz.prog 226 _ Tryz.underlying226
@[reducible] def ty.LH:= @Ut.mk Tryz.prog 227 _ Tryz.underlying227
instance ty.i228:dp Tryz.prog 228 Tryz.t228:=⟨by kernel_rfl⟩
@[reducible] def ty.LG:= @Ut.mk Tryz.prog 228 _ Tryz.underlying228
instance ty.S9:cR Tryz.prog 228:=cR.of Tryz.underlying228 rfl
@[reducible] def ty.LF:= @Ut.mk Tryz.prog 229 _ Tryz.underlying229
@[reducible] def ty.LD:= @Ut.mk Tryz.prog 230 _ Tryz.underlying230
@[reducible] def ty.LC:= @Ut.mk Tryz.prog 231 _ Tryz.underlying231
@[reducible] def ty.LB:= @Ut.mk Tryz.prog 232 _ Tryz.underlying232
@[reducible] def ty.LA:= @Ut.mk Tryz.prog 233 _ Tryz.underlying233
@[reducible] def ty.Lz:= @Ut.mk Tryz.prog 234 _ Tryz.underlying234
@[reducible] def ty.Ly:= @Ut.mk Tryz.prog 235 _ Tryz.underlying235
@[reducible] def ty.Lw:= @Ut.mk Tryz.prog 236 _ Tryz.underlying236
@[reducible] def ty.Lv:= @Ut.mk Tryz.prog 237 _ Tryz.underlying237
@[reducible] def ty.Lu:= @Ut.mk Tryz.prog 238 _ Tryz.underlying238
@[reducible] def ty.Lt:= @Ut.mk Tryz.prog 239 _ Tryz.underlying239
@[reducible] def ty.Lr:= @Ut.mk Tryz.prog 240 _ Tryz.underlying240
@[reducible] def ty.Lq:= @Ut.mk Tryz.prog 241 _ Tryz.underlying241
instance ty.i242:dp Tryz.prog 242 Tryz.t242:=⟨by kernel_rfl⟩
@[reducible] def ty.Lp:= @Ut.mk Tryz.prog 242 _ Tryz.underlying242
instance ty.TH:fE Tryz.prog 242 9:=fE.of Tryz.underlying242 rfl ty.i242.eq rfl
@[reducible] def ty.Lo:= @Ut.mk Tryz.prog 243 _ Tryz.underlying243
@[reducible] def ty.Ln:= @Ut.mk Tryz.prog 244 _ Tryz.underlying244
instance ty.i245:dp Tryz.prog 245 Tryz.t245:=⟨by kernel_rfl⟩
instance ty.Sq:Sz Tryz.prog 245 1:=⟨_,ty.i245.eq,rfl⟩
@[reducible] def ty.Lm:= @Ut.mk Tryz.prog 245 _ Tryz.underlying245
instance ty.S8:cR Tryz.prog 245:=cR.of Tryz.underlying245 rfl
@[reducible] def ty.Ll:= @Ut.mk Tryz.prog 246 _ Tryz.underlying246
@[reducible] def ty.Lj:= @Ut.mk Tryz.prog 247 _ Tryz.underlying247
@[reducible] def ty.Li:= @Ut.mk Tryz.prog 248 _ Tryz.underlying248
@[reducible] def ty.Lh:= @Ut.mk Tryz.prog 249 _ Tryz.underlying249
@[reducible] def ty.Lg:= @Ut.mk Tryz.prog 250 _ Tryz.underlying250
@[reducible] def ty.Lf:= @Ut.mk Tryz.prog 251 _ Tryz.underlying251
@[reducible] def ty.Le:= @Ut.mk Tryz.prog 252 _ Tryz.underlying252
@[reducible] def ty.Ld:= @Ut.mk Tryz.prog 253 _ Tryz.underlying253
@[reducible] def ty.Lc:= @Ut.mk Tryz.prog 254 _ Tryz.underlying254
@[reducible] def ty.Lb:= @Ut.mk Tryz.prog 255 _ Tryz.underlying255
@[reducible] def ty.La:= @Ut.mk Tryz.prog 256 _ Tryz.underlying256
@[reducible] def ty.K9:= @Ut.mk Tryz.prog 257 _ Tryz.underlying257
@[reducible] def ty.K8:= @Ut.mk Tryz.prog 258 _ Tryz.underlying258
@[reducible] def ty.K7:= @Ut.mk Tryz.prog 259 _ Tryz.underlying259
@[reducible] def ty.K5:= @Ut.mk Tryz.prog 260 _ Tryz.underlying260
@[reducible] def ty.K3:= @Ut.mk Tryz.prog 261 _ Tryz.underlying261
@[reducible] def ty.K2:= @Ut.mk Tryz.prog 262 _ Tryz.underlying262
@[reducible] def ty.K1:= @Ut.mk Tryz.prog 263 _ Tryz.underlying263
@[reducible] def ty.K0:= @Ut.mk Tryz.prog 264 _ Tryz.underlying264
@[reducible] def ty.KZ:= @Ut.mk Tryz.prog 265 _ Tryz.underlying265
@[reducible] def ty.KY:= @Ut.mk Tryz.prog 266 _ Tryz.underlying266
@[reducible] def ty.KW:= @Ut.mk Tryz.prog 267 _ Tryz.underlying267
@[reducible] def ty.KU:= @Ut.mk Tryz.prog 268 _ Tryz.underlying268
@[reducible] def ty.KT:= @Ut.mk Tryz.prog 269 _ Tryz.underlying269
@[reducible] def ty.KS:= @Ut.mk Tryz.prog 270 _ Tryz.underlying270
@[reducible] def ty.KR:= @Ut.mk Tryz.prog 271 _ Tryz.underlying271
@[reducible] def ty.KQ:= @Ut.mk Tryz.prog 272 _ Tryz.underlying272
@[reducible] def ty.KP:= @Ut.mk Tryz.prog 273 _ Tryz.underlying273
@[reducible] def ty.KO:= @Ut.mk Tryz.prog 274 _ Tryz.underlying274
@[reducible] def ty.KN:= @Ut.mk Tryz.prog 275 _ Tryz.underlying275
@[reducible] def ty.KM:= @Ut.mk Tryz.prog 276 _ Tryz.underlying276
@[reducible] def ty.KL:= @Ut.mk Tryz.prog 277 _ Tryz.underlying277
@[reducible] def ty.KK:= @Ut.mk Tryz.prog 278 _ Tryz.underlying278
@[reducible] def ty.KJ:= @Ut.mk Tryz.prog 279 _ Tryz.underlying279
@[reducible] def ty.KI:= @Ut.mk Tryz.prog 280 _ Tryz.underlying280
@[reducible] def ty.KH:= @Ut.mk Tryz.prog 281 _ Tryz.underlying281
@[reducible] def ty.KG:= @Ut.mk Tryz.prog 282 _ Tryz.underlying282
@[reducible] def ty.KF:= @Ut.mk Tryz.prog 283 _ Tryz.underlying283
@[reducible] def ty.KE:= @Ut.mk Tryz.prog 284 _ Tryz.underlying284
instance ty.i285:dp Tryz.prog 285 Tryz.t285:=⟨by kernel_rfl⟩
@[reducible] def ty.KD:= @Ut.mk Tryz.prog 285 _ Tryz.underlying285
@[reducible] def ty.KC:= @Ut.mk Tryz.prog 286 _ Tryz.underlying286
@[reducible] def ty.KB:= @Ut.mk Tryz.prog 287 _ Tryz.underlying287
@[reducible] def ty.KA:= @Ut.mk Tryz.prog 288 _ Tryz.underlying288
@[reducible] def ty.Kz:= @Ut.mk Tryz.prog 289 _ Tryz.underlying289
@[reducible] def ty.Ky:= @Ut.mk Tryz.prog 290 _ Tryz.underlying290
@[reducible] def ty.Kx:= @Ut.mk Tryz.prog 291 _ Tryz.underlying291
@[reducible] def ty.Kw:= @Ut.mk Tryz.prog 292 _ Tryz.underlying292
@[reducible] def ty.Kv:= @Ut.mk Tryz.prog 293 _ Tryz.underlying293
@[reducible] def ty.Ku:= @Ut.mk Tryz.prog 294 _ Tryz.underlying294
@[reducible] def ty.Ks:= @Ut.mk Tryz.prog 295 _ Tryz.underlying295
@[reducible] def ty.Kq:= @Ut.mk Tryz.prog 296 _ Tryz.underlying296
@[reducible] def ty.Ko:= @Ut.mk Tryz.prog 297 _ Tryz.underlying297
@[reducible] def ty.Km:= @Ut.mk Tryz.prog 298 _ Tryz.underlying298
@[reducible] def ty.Kl:= @Ut.mk Tryz.prog 299 _ Tryz.underlying299
@[reducible] def ty.Kj:= @Ut.mk Tryz.prog 300 _ Tryz.underlying300
@[reducible] def ty.Ki:= @Ut.mk Tryz.prog 301 _ Tryz.underlying301
@[reducible] def ty.Kh:= @Ut.mk Tryz.prog 302 _ Tryz.underlying302
@[reducible] def ty.Kg:= @Ut.mk Tryz.prog 303 _ Tryz.underlying303
@[reducible] def ty.Kf:= @Ut.mk Tryz.prog 304 _ Tryz.underlying304
@[reducible] def ty.Ke:= @Ut.mk Tryz.prog 305 _ Tryz.underlying305
@[reducible] def ty.Kd:= @Ut.mk Tryz.prog 306 _ Tryz.underlying306
@[reducible] def ty.Kc:= @Ut.mk Tryz.prog 307 _ Tryz.underlying307
@[reducible] def ty.Kb:= @Ut.mk Tryz.prog 308 _ Tryz.underlying308
@[reducible] def ty.Ka:= @Ut.mk Tryz.prog 309 _ Tryz.underlying309
@[reducible] def ty.J9:= @Ut.mk Tryz.prog 310 _ Tryz.underlying310
@[reducible] def ty.J8:= @Ut.mk Tryz.prog 311 _ Tryz.underlying311
@[reducible] def ty.J6:= @Ut.mk Tryz.prog 312 _ Tryz.underlying312
@[reducible] def ty.J2:= @Ut.mk Tryz.prog 313 _ Tryz.underlying313
@[reducible] def ty.J1:= @Ut.mk Tryz.prog 314 _ Tryz.underlying314
@[reducible] def ty.JZ:= @Ut.mk Tryz.prog 315 _ Tryz.underlying315
@[reducible] def ty.JY:= @Ut.mk Tryz.prog 316 _ Tryz.underlying316
@[reducible] def ty.JX:= @Ut.mk Tryz.prog 317 _ Tryz.underlying317
@[reducible] def ty.JW:= @Ut.mk Tryz.prog 318 _ Tryz.underlying318
@[reducible] def ty.JV:= @Ut.mk Tryz.prog 319 _ Tryz.underlying319
@[reducible] def ty.JU:= @Ut.mk Tryz.prog 320 _ Tryz.underlying320
@[reducible] def ty.JT:= @Ut.mk Tryz.prog 321 _ Tryz.underlying321
@[reducible] def ty.JS:= @Ut.mk Tryz.prog 322 _ Tryz.underlying322
@[reducible] def ty.JR:= @Ut.mk Tryz.prog 323 _ Tryz.underlying323
@[reducible] def ty.JQ:= @Ut.mk Tryz.prog 324 _ Tryz.underlying324
@[reducible] def ty.JP:= @Ut.mk Tryz.prog 325 _ Tryz.underlying325
@[reducible] def ty.JO:= @Ut.mk Tryz.prog 326 _ Tryz.underlying326
@[reducible] def ty.JN:= @Ut.mk Tryz.prog 327 _ Tryz.underlying327
@[reducible] def ty.JM:= @Ut.mk Tryz.prog 328 _ Tryz.underlying328
@[reducible] def ty.JL:= @Ut.mk Tryz.prog 329 _ Tryz.underlying329
@[reducible] def ty.JK:= @Ut.mk Tryz.prog 330 _ Tryz.underlying330
@[reducible] def ty.JJ:= @Ut.mk Tryz.prog 331 _ Tryz.underlying331
@[reducible] def ty.JI:= @Ut.mk Tryz.prog 332 _ Tryz.underlying332
@[reducible] def ty.JH:= @Ut.mk Tryz.prog 333 _ Tryz.underlying333
@[reducible] def ty.JG:= @Ut.mk Tryz.prog 334 _ Tryz.underlying334
@[reducible] def ty.JF:= @Ut.mk Tryz.prog 335 _ Tryz.underlying335
@[reducible] def ty.JE:= @Ut.mk Tryz.prog 336 _ Tryz.underlying336
@[reducible] def ty.JD:= @Ut.mk Tryz.prog 337 _ Tryz.underlying337
@[reducible] def ty.JC:= @Ut.mk Tryz.prog 338 _ Tryz.underlying338
@[reducible] def ty.JB:= @Ut.mk Tryz.prog 339 _ Tryz.underlying339
@[reducible] def ty.JA:= @Ut.mk Tryz.prog 340 _ Tryz.underlying340
instance ty.i341:dp Tryz.prog 341 Tryz.t341:=⟨by kernel_rfl⟩
@[reducible] def ty.Jz:= @Ut.mk Tryz.prog 341 _ Tryz.underlying341
instance ty.TG:fE Tryz.prog 341 16:=fE.of Tryz.underlying341 rfl ty.i341.eq rfl
@[reducible] def ty.Jy:= @Ut.mk Tryz.prog 342 _ Tryz.underlying342
@[reducible] def ty.Jx:= @Ut.mk Tryz.prog 343 _ Tryz.underlying343
@[reducible] def ty.Jw:= @Ut.mk Tryz.prog 344 _ Tryz.underlying344
@[reducible] def ty.Jv:= @Ut.mk Tryz.prog 345 _ Tryz.underlying345
@[reducible] def ty.Ju:= @Ut.mk Tryz.prog 346 _ Tryz.underlying346
@[reducible] def ty.Jt:= @Ut.mk Tryz.prog 347 _ Tryz.underlying347
@[reducible] def ty.Js:= @Ut.mk Tryz.prog 348 _ Tryz.underlying348
@[reducible] def ty.Jr:= @Ut.mk Tryz.prog 349 _ Tryz.underlying349
@[reducible] def ty.Jq:= @Ut.mk Tryz.prog 350 _ Tryz.underlying350
instance ty.QH:cH Tryz.prog 31 0 0 3:=cH.mk _ _ _ Tryz.underlying31 rfl rfl rfl ty.i3.eq (by decide)
instance ty.QG:cH Tryz.prog 31 1 1 3:=cH.mk _ _ _ Tryz.underlying31 rfl rfl rfl ty.i3.eq (by decide)
instance ty.QF:cH Tryz.prog 31 2 2 3:=cH.mk _ _ _ Tryz.underlying31 rfl rfl rfl ty.i3.eq (by decide)
instance ty.QE:cH Tryz.prog 35 0 0 5:=cH.mk _ _ _ Tryz.underlying35 rfl rfl rfl ty.i5.eq (by decide)
instance ty.QD:cH Tryz.prog 35 1 1 5:=cH.mk _ _ _ Tryz.underlying35 rfl rfl rfl ty.i5.eq (by decide)
instance ty.QC:cH Tryz.prog 35 2 2 3:=cH.mk _ _ _ Tryz.underlying35 rfl rfl rfl ty.i3.eq (by decide)
instance ty.QB:cH Tryz.prog 35 3 3 3:=cH.mk _ _ _ Tryz.underlying35 rfl rfl rfl ty.i3.eq (by decide)
instance ty.QA:cH Tryz.prog 35 4 4 3:=cH.mk _ _ _ Tryz.underlying35 rfl rfl rfl ty.i3.eq (by decide)
instance ty.Qz:cH Tryz.prog 35 5 5 33:=cH.mk _ _ _ Tryz.underlying35 rfl rfl rfl ty.i33.eq (by decide)
instance ty.Qy:cH Tryz.prog 35 6 6 4:=cH.mk _ _ _ Tryz.underlying35 rfl rfl rfl ty.i4.eq (by decide)
instance ty.Qx:cH Tryz.prog 35 7 7 5:=cH.mk _ _ _ Tryz.underlying35 rfl rfl rfl ty.i5.eq (by decide)
instance ty.Qw:cH Tryz.prog 35 8 8 33:=cH.mk _ _ _ Tryz.underlying35 rfl rfl rfl ty.i33.eq (by decide)
instance ty.Qv:cH Tryz.prog 44 0 0 39:=cH.mk _ _ _ Tryz.underlying44 rfl rfl rfl ty.i39.eq (by decide)
instance ty.Qu:cH Tryz.prog 44 1 1 40:=cH.mk _ _ _ Tryz.underlying44 rfl rfl rfl ty.i40.eq (by decide)
instance ty.Qt:cH Tryz.prog 44 2 2 41:=cH.mk _ _ _ Tryz.underlying44 rfl rfl rfl ty.i41.eq (by decide)
instance ty.Qs:cH Tryz.prog 44 3 3 42:=cH.mk _ _ _ Tryz.underlying44 rfl rfl rfl ty.i42.eq (by decide)
instance ty.Uv:gr Tryz.prog 47 8:=gr.of Tryz.underlying47 Tryz.underlying5 ⟨_,rfl⟩ (by kernel_rfl) (by kernel_rfl) (by kernel_rfl)
instance ty.Qr:cH Tryz.prog 50 0 0 47:=cH.mk _ _ _ Tryz.underlying50 rfl rfl rfl ty.i47.eq (by decide)
instance ty.Qq:cH Tryz.prog 50 1 8 3:=cH.mk _ _ _ Tryz.underlying50 rfl rfl rfl ty.i3.eq (by decide)
instance ty.Qp:cH Tryz.prog 50 2 9 47:=cH.mk _ _ _ Tryz.underlying50 rfl rfl rfl ty.i47.eq (by decide)
instance ty.Qo:cH Tryz.prog 50 3 17 41:=cH.mk _ _ _ Tryz.underlying50 rfl rfl rfl ty.i41.eq (by decide)
instance ty.Qn:cH Tryz.prog 52 0 0 47:=cH.mk _ _ _ Tryz.underlying52 rfl rfl rfl ty.i47.eq (by decide)
instance ty.Qm:cH Tryz.prog 52 1 8 3:=cH.mk _ _ _ Tryz.underlying52 rfl rfl rfl ty.i3.eq (by decide)
instance ty.Ql:cH Tryz.prog 52 2 9 3:=cH.mk _ _ _ Tryz.underlying52 rfl rfl rfl ty.i3.eq (by decide)
instance ty.Qk:cH Tryz.prog 52 3 10 3:=cH.mk _ _ _ Tryz.underlying52 rfl rfl rfl ty.i3.eq (by decide)
instance ty.Qj:cH Tryz.prog 52 4 11 33:=cH.mk _ _ _ Tryz.underlying52 rfl rfl rfl ty.i33.eq (by decide)
instance ty.Qi:cH Tryz.prog 52 5 12 33:=cH.mk _ _ _ Tryz.underlying52 rfl rfl rfl ty.i33.eq (by decide)
instance ty.Qh:cH Tryz.prog 54 0 0 3:=cH.mk _ _ _ Tryz.underlying54 rfl rfl rfl ty.i3.eq (by decide)
instance ty.Qg:cH Tryz.prog 54 1 1 36:=cH.mk _ _ _ Tryz.underlying54 rfl rfl rfl ty.i36.eq (by decide)
instance ty.Qf:cH Tryz.prog 59 0 0 47:=cH.mk _ _ _ Tryz.underlying59 rfl rfl rfl ty.i47.eq (by decide)
instance ty.Qe:cH Tryz.prog 59 1 8 3:=cH.mk _ _ _ Tryz.underlying59 rfl rfl rfl ty.i3.eq (by decide)
instance ty.Qd:cH Tryz.prog 59 2 9 3:=cH.mk _ _ _ Tryz.underlying59 rfl rfl rfl ty.i3.eq (by decide)
instance ty.Qc:cH Tryz.prog 76 0 0 3:=cH.mk _ _ _ Tryz.underlying76 rfl rfl rfl ty.i3.eq (by decide)
instance ty.Qb:cH Tryz.prog 76 1 1 47:=cH.mk _ _ _ Tryz.underlying76 rfl rfl rfl ty.i47.eq (by decide)
instance ty.Pd:cH Tryz.prog 116 0 0 38:=cH.mk _ _ _ Tryz.underlying116 rfl rfl rfl ty.i38.eq (by decide)
instance ty.Pc:cH Tryz.prog 116 1 1 79:=cH.mk _ _ _ Tryz.underlying116 rfl rfl rfl ty.i79.eq (by decide)
instance ty.Pb:cH Tryz.prog 116 2 2 114:=cH.mk _ _ _ Tryz.underlying116 rfl rfl rfl ty.i114.eq (by decide)
instance ty.Pa:cH Tryz.prog 118 0 0 116:=cH.mk _ _ _ Tryz.underlying118 rfl rfl rfl ty.i116.eq (by decide)
instance ty.O9:cH Tryz.prog 118 1 3 50:=cH.mk _ _ _ Tryz.underlying118 rfl rfl rfl ty.i50.eq (by decide)
instance ty.O8:cH Tryz.prog 118 2 21 93:=cH.mk _ _ _ Tryz.underlying118 rfl rfl rfl ty.i93.eq (by decide)
instance ty.O7:cH Tryz.prog 127 0 0 31:=cH.mk _ _ _ Tryz.underlying127 rfl rfl rfl ty.i31.eq (by decide)
instance ty.O6:cH Tryz.prog 127 1 3 122:=cH.mk _ _ _ Tryz.underlying127 rfl rfl rfl ty.i122.eq (by decide)
instance ty.O5:cH Tryz.prog 127 2 4 47:=cH.mk _ _ _ Tryz.underlying127 rfl rfl rfl ty.i47.eq (by decide)
instance ty.O4:cH Tryz.prog 127 3 12 123:=cH.mk _ _ _ Tryz.underlying127 rfl rfl rfl ty.i123.eq (by decide)
instance ty.O3:cH Tryz.prog 127 4 13 124:=cH.mk _ _ _ Tryz.underlying127 rfl rfl rfl ty.i124.eq (by decide)
instance ty.O2:cH Tryz.prog 127 5 14 125:=cH.mk _ _ _ Tryz.underlying127 rfl rfl rfl ty.i125.eq (by decide)
instance ty.O1:cH Tryz.prog 133 0 0 3:=cH.mk _ _ _ Tryz.underlying133 rfl rfl rfl ty.i3.eq (by decide)
instance ty.O0:cH Tryz.prog 133 1 1 3:=cH.mk _ _ _ Tryz.underlying133 rfl rfl rfl ty.i3.eq (by decide)
instance ty.OZ:cH Tryz.prog 136 0 0 134:=cH.mk _ _ _ Tryz.underlying136 rfl rfl rfl ty.i134.eq (by decide)
instance ty.OY:cH Tryz.prog 162 0 0 160:=cH.mk _ _ _ Tryz.underlying162 rfl rfl rfl ty.i160.eq (by decide)
instance ty.OX:cH Tryz.prog 162 1 1 159:=cH.mk _ _ _ Tryz.underlying162 rfl rfl rfl ty.i159.eq (by decide)
instance ty.OW:cH Tryz.prog 197 0 0 40:=cH.mk _ _ _ Tryz.underlying197 rfl rfl rfl ty.i40.eq (by decide)
instance ty.OV:cH Tryz.prog 197 1 1 47:=cH.mk _ _ _ Tryz.underlying197 rfl rfl rfl ty.i47.eq (by decide)
instance ty.OU:cH Tryz.prog 200 0 0 47:=cH.mk _ _ _ Tryz.underlying200 rfl rfl rfl ty.i47.eq (by decide)
instance ty.OT:cH Tryz.prog 200 1 8 47:=cH.mk _ _ _ Tryz.underlying200 rfl rfl rfl ty.i47.eq (by decide)
instance ty.OS:cH Tryz.prog 200 2 16 3:=cH.mk _ _ _ Tryz.underlying200 rfl rfl rfl ty.i3.eq (by decide)
instance ty.OR:cH Tryz.prog 200 3 17 198:=cH.mk _ _ _ Tryz.underlying200 rfl rfl rfl ty.i198.eq (by decide)
instance ty.OQ:cH Tryz.prog 211 0 0 47:=cH.mk _ _ _ Tryz.underlying211 rfl rfl rfl ty.i47.eq (by decide)
instance ty.OP:cH Tryz.prog 211 1 8 3:=cH.mk _ _ _ Tryz.underlying211 rfl rfl rfl ty.i3.eq (by decide)
instance ty.OO:cH Tryz.prog 214 0 0 3:=cH.mk _ _ _ Tryz.underlying214 rfl rfl rfl ty.i3.eq (by decide)
instance ty.ON:cH Tryz.prog 214 1 1 212:=cH.mk _ _ _ Tryz.underlying214 rfl rfl rfl ty.i212.eq (by decide)
instance ty.OM:cH Tryz.prog 216 0 0 52:=cH.mk _ _ _ Tryz.underlying216 rfl rfl rfl ty.i52.eq (by decide)
instance ty.OL:cH Tryz.prog 216 1 13 47:=cH.mk _ _ _ Tryz.underlying216 rfl rfl rfl ty.i47.eq (by decide)
instance ty.OK:cH Tryz.prog 216 2 21 3:=cH.mk _ _ _ Tryz.underlying216 rfl rfl rfl ty.i3.eq (by decide)
instance ty.OJ:cH Tryz.prog 287 0 0 93:=cH.mk _ _ _ Tryz.underlying287 rfl rfl rfl ty.i93.eq (by decide)
instance ty.OI:cH Tryz.prog 287 1 1 285:=cH.mk _ _ _ Tryz.underlying287 rfl rfl rfl ty.i285.eq (by decide)
instance ty.OH:cH Tryz.prog 293 0 0 33:=cH.mk _ _ _ Tryz.underlying293 rfl rfl rfl ty.i33.eq (by decide)
instance ty.OG:cH Tryz.prog 293 1 1 3:=cH.mk _ _ _ Tryz.underlying293 rfl rfl rfl ty.i3.eq (by decide)
instance ty.OE:cH Tryz.prog 293 2 2 36:=cH.mk _ _ _ Tryz.underlying293 rfl rfl rfl ty.i36.eq (by decide)
instance fn.i10:bQ Tryz.prog 10:=⟨fun w args=>by kernel_rfl⟩
instance fn.i11:bQ Tryz.prog 11:=⟨fun w args=>by kernel_rfl⟩
instance fn.i12:bQ Tryz.prog 12:=⟨fun w args=>by kernel_rfl⟩
instance fn.i13:bQ Tryz.prog 13:=⟨fun w args=>by kernel_rfl⟩
instance fn.i14:bQ Tryz.prog 14:=⟨fun w args=>by kernel_rfl⟩
instance fn.i15:bQ Tryz.prog 15:=⟨fun w args=>by kernel_rfl⟩
instance fn.i17:bQ Tryz.prog 17:=⟨fun w args=>by kernel_rfl⟩
instance fn.i18:bQ Tryz.prog 18:=⟨fun w args=>by kernel_rfl⟩
instance fn.i19:bQ Tryz.prog 19:=⟨fun w args=>by kernel_rfl⟩
instance fn.i25:bQ Tryz.prog 25:=⟨fun w args=>by kernel_rfl⟩
instance fn.i26:bQ Tryz.prog 26:=⟨fun w args=>by kernel_rfl⟩
instance fn.i27:bQ Tryz.prog 27:=⟨fun w args=>by kernel_rfl⟩
instance fn.i28:bQ Tryz.prog 28:=⟨fun w args=>by kernel_rfl⟩
instance fn.i29:bQ Tryz.prog 29:=⟨fun w args=>by kernel_rfl⟩
instance fn.i30:bQ Tryz.prog 30:=⟨fun w args=>by kernel_rfl⟩
instance fn.i32:bQ Tryz.prog 32:=⟨fun w args=>by kernel_rfl⟩
instance fn.i33:bQ Tryz.prog 33:=⟨fun w args=>by kernel_rfl⟩
instance fn.i34:bQ Tryz.prog 34:=⟨fun w args=>by kernel_rfl⟩
instance fn.i35:bQ Tryz.prog 35:=⟨fun w args=>by kernel_rfl⟩
instance fn.i36:bQ Tryz.prog 36:=⟨fun w args=>by kernel_rfl⟩
instance fn.i38:bQ Tryz.prog 38:=⟨fun w args=>by kernel_rfl⟩
instance fn.i39:bQ Tryz.prog 39:=⟨fun w args=>by kernel_rfl⟩
instance fn.i43:bQ Tryz.prog 43:=⟨fun w args=>by kernel_rfl⟩
instance fn.i45:bQ Tryz.prog 45:=⟨fun w args=>by kernel_rfl⟩
instance fn.i46:bQ Tryz.prog 46:=⟨fun w args=>by kernel_rfl⟩
instance fn.i49:bQ Tryz.prog 49:=⟨fun w args=>by kernel_rfl⟩
instance fn.i50:bQ Tryz.prog 50:=⟨fun w args=>by kernel_rfl⟩
instance fn.i51:bQ Tryz.prog 51:=⟨fun w args=>by kernel_rfl⟩
instance fn.i52:bQ Tryz.prog 52:=⟨fun w args=>by kernel_rfl⟩
instance fn.i53:bQ Tryz.prog 53:=⟨fun w args=>by kernel_rfl⟩
instance fn.i54:bQ Tryz.prog 54:=⟨fun w args=>by kernel_rfl⟩
instance fn.i55:bQ Tryz.prog 55:=⟨fun w args=>by kernel_rfl⟩
instance fn.i56:bQ Tryz.prog 56:=⟨fun w args=>by kernel_rfl⟩
instance fn.i57:bQ Tryz.prog 57:=⟨fun w args=>by kernel_rfl⟩
instance fn.i58:bQ Tryz.prog 58:=⟨fun w args=>by kernel_rfl⟩
instance fn.i59:bQ Tryz.prog 59:=⟨fun w args=>by kernel_rfl⟩
instance fn.i60:bQ Tryz.prog 60:=⟨fun w args=>by kernel_rfl⟩
instance fn.i64:bQ Tryz.prog 64:=⟨fun w args=>by kernel_rfl⟩
instance fn.i66:bQ Tryz.prog 66:=⟨fun w args=>by kernel_rfl⟩
instance fn.i67:bQ Tryz.prog 67:=⟨fun w args=>by kernel_rfl⟩
instance fn.i68:bQ Tryz.prog 68:=⟨fun w args=>by kernel_rfl⟩
instance fn.i69:bQ Tryz.prog 69:=⟨fun w args=>by kernel_rfl⟩
instance fn.i70:bQ Tryz.prog 70:=⟨fun w args=>by kernel_rfl⟩
instance fn.i71:bQ Tryz.prog 71:=⟨fun w args=>by kernel_rfl⟩
instance fn.i72:bQ Tryz.prog 72:=⟨fun w args=>by kernel_rfl⟩
instance fn.i73:bQ Tryz.prog 73:=⟨fun w args=>by kernel_rfl⟩
instance fn.i74:bQ Tryz.prog 74:=⟨fun w args=>by kernel_rfl⟩
instance fn.i75:bQ Tryz.prog 75:=⟨fun w args=>by kernel_rfl⟩
instance fn.i76:bQ Tryz.prog 76:=⟨fun w args=>by kernel_rfl⟩
instance fn.i77:bQ Tryz.prog 77:=⟨fun w args=>by kernel_rfl⟩
instance fn.i78:bQ Tryz.prog 78:=⟨fun w args=>by kernel_rfl⟩
instance fn.i79:bQ Tryz.prog 79:=⟨fun w args=>by kernel_rfl⟩
instance fn.i80:bQ Tryz.prog 80:=⟨fun w args=>by kernel_rfl⟩
instance fn.i81:bQ Tryz.prog 81:=⟨fun w args=>by kernel_rfl⟩
instance fn.i83:bQ Tryz.prog 83:=⟨fun w args=>by kernel_rfl⟩
instance fn.i84:bQ Tryz.prog 84:=⟨fun w args=>by kernel_rfl⟩
instance fn.i85:bQ Tryz.prog 85:=⟨fun w args=>by kernel_rfl⟩
instance fn.i87:bQ Tryz.prog 87:=⟨fun w args=>by kernel_rfl⟩
instance fn.i91:bQ Tryz.prog 91:=⟨fun w args=>by kernel_rfl⟩
instance fn.i92:bQ Tryz.prog 92:=⟨fun w args=>by kernel_rfl⟩
instance fn.i93:bQ Tryz.prog 93:=⟨fun w args=>by kernel_rfl⟩
instance fn.i94:bQ Tryz.prog 94:=⟨fun w args=>by kernel_rfl⟩
instance fn.i95:bQ Tryz.prog 95:=⟨fun w args=>by kernel_rfl⟩
instance fn.i98:bQ Tryz.prog 98:=⟨fun w args=>by kernel_rfl⟩
instance fn.i100:bQ Tryz.prog 100:=⟨fun w args=>by kernel_rfl⟩
instance fn.i101:bQ Tryz.prog 101:=⟨fun w args=>by kernel_rfl⟩
instance fn.i102:bQ Tryz.prog 102:=⟨fun w args=>by kernel_rfl⟩
instance fn.i103:bQ Tryz.prog 103:=⟨fun w args=>by kernel_rfl⟩
instance fn.i104:bQ Tryz.prog 104:=⟨fun w args=>by kernel_rfl⟩
instance fn.i105:bQ Tryz.prog 105:=⟨fun w args=>by kernel_rfl⟩
instance fn.i106:bQ Tryz.prog 106:=⟨fun w args=>by kernel_rfl⟩
instance fn.i107:bQ Tryz.prog 107:=⟨fun w args=>by kernel_rfl⟩
instance fn.i108:bQ Tryz.prog 108:=⟨fun w args=>by kernel_rfl⟩
instance fn.i109:bQ Tryz.prog 109:=⟨fun w args=>by kernel_rfl⟩
instance fn.i110:bQ Tryz.prog 110:=⟨fun w args=>by kernel_rfl⟩
instance fn.i111:bQ Tryz.prog 111:=⟨fun w args=>by kernel_rfl⟩
instance fn.i112:bQ Tryz.prog 112:=⟨fun w args=>by kernel_rfl⟩
instance fn.i114:bQ Tryz.prog 114:=⟨fun w args=>by kernel_rfl⟩
instance fn.i116:bQ Tryz.prog 116:=⟨fun w args=>by kernel_rfl⟩
instance fn.i117:bQ Tryz.prog 117:=⟨fun w args=>by kernel_rfl⟩
instance fn.i118:bQ Tryz.prog 118:=⟨fun w args=>by kernel_rfl⟩
instance fn.i119:bQ Tryz.prog 119:=⟨fun w args=>by kernel_rfl⟩
instance fn.i120:bQ Tryz.prog 120:=⟨fun w args=>by kernel_rfl⟩
instance fn.i121:bQ Tryz.prog 121:=⟨fun w args=>by kernel_rfl⟩
instance fn.i122:bQ Tryz.prog 122:=⟨fun w args=>by kernel_rfl⟩
instance fn.i123:bQ Tryz.prog 123:=⟨fun w args=>by kernel_rfl⟩
instance fn.i124:bQ Tryz.prog 124:=⟨fun w args=>by kernel_rfl⟩
instance fn.i125:bQ Tryz.prog 125:=⟨fun w args=>by kernel_rfl⟩
instance fn.i127:bQ Tryz.prog 127:=⟨fun w args=>by kernel_rfl⟩
instance fn.i128:bQ Tryz.prog 128:=⟨fun w args=>by kernel_rfl⟩
instance fn.i129:bQ Tryz.prog 129:=⟨fun w args=>by kernel_rfl⟩
instance fn.i132:bQ Tryz.prog 132:=⟨fun w args=>by kernel_rfl⟩
instance fn.i133:bQ Tryz.prog 133:=⟨fun w args=>by kernel_rfl⟩
instance fn.i134:bQ Tryz.prog 134:=⟨fun w args=>by kernel_rfl⟩
instance fn.i135:bQ Tryz.prog 135:=⟨fun w args=>by kernel_rfl⟩
instance fn.i136:bQ Tryz.prog 136:=⟨fun w args=>by kernel_rfl⟩
instance fn.i137:bQ Tryz.prog 137:=⟨fun w args=>by kernel_rfl⟩
instance fn.i138:bQ Tryz.prog 138:=⟨fun w args=>by kernel_rfl⟩
instance fn.i139:bQ Tryz.prog 139:=⟨fun w args=>by kernel_rfl⟩
instance fn.i140:bQ Tryz.prog 140:=⟨fun w args=>by kernel_rfl⟩
instance fn.i141:bQ Tryz.prog 141:=⟨fun w args=>by kernel_rfl⟩
instance fn.i142:bQ Tryz.prog 142:=⟨fun w args=>by kernel_rfl⟩
instance fn.i143:bQ Tryz.prog 143:=⟨fun w args=>by kernel_rfl⟩
instance fn.i144:bQ Tryz.prog 144:=⟨fun w args=>by kernel_rfl⟩
instance fn.i145:bQ Tryz.prog 145:=⟨fun w args=>by kernel_rfl⟩
instance fn.i146:bQ Tryz.prog 146:=⟨fun w args=>by kernel_rfl⟩
instance fn.i147:bQ Tryz.prog 147:=⟨fun w args=>by kernel_rfl⟩
instance fn.i157:bQ Tryz.prog 157:=⟨fun w args=>by kernel_rfl⟩
instance fn.i158:bQ Tryz.prog 158:=⟨fun w args=>by kernel_rfl⟩
instance fn.i159:bQ Tryz.prog 159:=⟨fun w args=>by kernel_rfl⟩
instance fn.i161:bQ Tryz.prog 161:=⟨fun w args=>by kernel_rfl⟩
instance fn.i163:bQ Tryz.prog 163:=⟨fun w args=>by kernel_rfl⟩
instance fn.i164:bQ Tryz.prog 164:=⟨fun w args=>by kernel_rfl⟩
instance fn.i165:bQ Tryz.prog 165:=⟨fun w args=>by kernel_rfl⟩
instance fn.i166:bQ Tryz.prog 166:=⟨fun w args=>by kernel_rfl⟩
instance fn.i167:bQ Tryz.prog 167:=⟨fun w args=>by kernel_rfl⟩
instance fn.i168:bQ Tryz.prog 168:=⟨fun w args=>by kernel_rfl⟩
instance fn.i169:bQ Tryz.prog 169:=⟨fun w args=>by kernel_rfl⟩
instance fn.i170:bQ Tryz.prog 170:=⟨fun w args=>by kernel_rfl⟩
instance fn.i171:bQ Tryz.prog 171:=⟨fun w args=>by kernel_rfl⟩
instance fn.i172:bQ Tryz.prog 172:=⟨fun w args=>by kernel_rfl⟩
instance fn.i173:bQ Tryz.prog 173:=⟨fun w args=>by kernel_rfl⟩
instance fn.i179:bQ Tryz.prog 179:=⟨fun w args=>by kernel_rfl⟩
instance fn.i180:bQ Tryz.prog 180:=⟨fun w args=>by kernel_rfl⟩
instance fn.i181:bQ Tryz.prog 181:=⟨fun w args=>by kernel_rfl⟩
instance fn.i182:bQ Tryz.prog 182:=⟨fun w args=>by kernel_rfl⟩
instance fn.i183:bQ Tryz.prog 183:=⟨fun w args=>by kernel_rfl⟩
instance fn.i184:bQ Tryz.prog 184:=⟨fun w args=>by kernel_rfl⟩
instance fn.i185:bQ Tryz.prog 185:=⟨fun w args=>by kernel_rfl⟩
instance fn.i186:bQ Tryz.prog 186:=⟨fun w args=>by kernel_rfl⟩
instance fn.i187:bQ Tryz.prog 187:=⟨fun w args=>by kernel_rfl⟩
instance fn.i188:bQ Tryz.prog 188:=⟨fun w args=>by kernel_rfl⟩
instance fn.i189:bQ Tryz.prog 189:=⟨fun w args=>by kernel_rfl⟩
instance fn.i190:bQ Tryz.prog 190:=⟨fun w args=>by kernel_rfl⟩
instance fn.i191:bQ Tryz.prog 191:=⟨fun w args=>by kernel_rfl⟩
instance fn.i192:bQ Tryz.prog 192:=⟨fun w args=>by kernel_rfl⟩
instance fn.i193:bQ Tryz.prog 193:=⟨fun w args=>by kernel_rfl⟩
instance fn.i195:bQ Tryz.prog 195:=⟨fun w args=>by kernel_rfl⟩
instance fn.i196:bQ Tryz.prog 196:=⟨fun w args=>by kernel_rfl⟩
instance fn.i197:bQ Tryz.prog 197:=⟨fun w args=>by kernel_rfl⟩
instance fn.i198:bQ Tryz.prog 198:=⟨fun w args=>by kernel_rfl⟩
instance fn.i200:bQ Tryz.prog 200:=⟨fun w args=>by kernel_rfl⟩
instance fn.i209:bQ Tryz.prog 209:=⟨fun w args=>by kernel_rfl⟩
instance fn.i213:bQ Tryz.prog 213:=⟨fun w args=>by kernel_rfl⟩
instance fn.i245:bQ Tryz.prog 245:=⟨fun w args=>by kernel_rfl⟩
instance fn.i250:bQ Tryz.prog 250:=⟨fun w args=>by kernel_rfl⟩
instance fn.i251:bQ Tryz.prog 251:=⟨fun w args=>by kernel_rfl⟩
instance fn.i253:bQ Tryz.prog 253:=⟨fun w args=>by kernel_rfl⟩
instance fn.i254:bQ Tryz.prog 254:=⟨fun w args=>by kernel_rfl⟩
instance fn.i255:bQ Tryz.prog 255:=⟨fun w args=>by kernel_rfl⟩
attribute [instance] ty.u0 ty.u1 ty.u2 ty.u3 ty.u4 ty.u5 ty.u6 ty.u7 ty.u8 ty.u9 ty.Sk ty.Sj ty.Si ty.Sh ty.Sg ty.Sf ty.u16 ty.Se ty.Sd ty.Sc ty.Sb ty.Sa ty.R9 ty.R8 ty.R7 ty.R6 ty.R5 ty.R4 ty.R3 ty.R2 ty.R1 ty.RZ ty.u32 ty.RY ty.RX ty.RW ty.RV ty.RU ty.RT ty.RS ty.RR ty.RQ ty.RP ty.RO ty.RN ty.RM ty.RL ty.RK ty.RJ ty.RI ty.RH ty.RG ty.RF ty.RE ty.RD ty.RC ty.RB ty.RA ty.Rz ty.Ry ty.Rx ty.Rw ty.Rv ty.Ru ty.u64 ty.Rt ty.Rs ty.Rr ty.Rq ty.Rp ty.Ro ty.Rn ty.Rm ty.Rl ty.PW ty.Rk ty.Rj ty.Ri ty.Rh ty.Rg ty.Rf ty.Re ty.Rc ty.Rb ty.Ra ty.Q9 ty.Q8 ty.Q7 ty.Q6 ty.Q5 ty.Q4 ty.Q3 ty.Q2 ty.Q1 ty.Q0 ty.QZ ty.QY ty.QX ty.QW ty.QV ty.NX ty.NW ty.NV ty.NU ty.NT ty.NS ty.NR ty.NQ ty.NP ty.NO ty.NN ty.NM ty.NL ty.NK ty.NJ ty.NI ty.NH ty.NF ty.ND ty.NC ty.NB ty.NA ty.Nz ty.Ny ty.Nx ty.Nw ty.Nv ty.Nu ty.Nt ty.Ns ty.Nr ty.Nq ty.Np ty.Nl ty.Nk ty.Nj ty.Ni ty.Nh ty.Ng ty.Nf ty.Nd ty.Nc ty.Na ty.M9 ty.M8 ty.M7 ty.M6 ty.M5 ty.M4 ty.M3 ty.M1 ty.M0 ty.MZ ty.MY ty.MX ty.MW ty.MV ty.MU ty.MT ty.MS ty.MR ty.MQ ty.MP ty.MO ty.MN ty.MM ty.ML ty.MK ty.MJ ty.MI ty.MH ty.MG ty.MF ty.ME ty.MD ty.MC ty.MB ty.MA ty.Mz ty.My ty.Mx ty.Mw ty.Mv ty.Mu ty.Mt ty.Ms ty.Mr ty.Mq ty.Mp ty.Mo ty.Mn ty.Mm ty.Ml ty.Mk ty.Mj ty.Mi ty.Mh ty.Mg ty.Mf ty.Me ty.Md ty.Mc ty.Mb ty.Ma ty.L9 ty.L8 ty.L7 ty.L6 ty.L5 ty.L4 ty.L3 ty.LZ ty.LY ty.LX ty.LW ty.LV ty.LU ty.LS ty.LR ty.LQ ty.LP ty.LO ty.LN ty.LL ty.LK ty.LJ ty.LI ty.LH ty.LG ty.LF ty.LD ty.LC ty.LB ty.LA ty.Lz ty.Ly ty.Lw ty.Lv ty.Lu ty.Lt ty.Lr ty.Lq ty.Lp ty.Lo ty.Ln ty.Lm ty.Ll ty.Lj ty.Li ty.Lh ty.Lg ty.Lf ty.Le ty.Ld ty.Lc ty.Lb ty.La ty.K9 ty.K8 ty.K7 ty.K5 ty.K3 ty.K2 ty.K1 ty.K0 ty.KZ ty.KY ty.KW ty.KU ty.KT ty.KS ty.KR ty.KQ ty.KP ty.KO ty.KN ty.KM ty.KL ty.KK ty.KJ ty.KI ty.KH ty.KG ty.KF ty.KE ty.KD ty.KC ty.KB ty.KA ty.Kz ty.Ky ty.Kx ty.Kw ty.Kv ty.Ku ty.Ks ty.Kq ty.Ko ty.Km ty.Kl ty.Kj ty.Ki ty.Kh ty.Kg ty.Kf ty.Ke ty.Kd ty.Kc ty.Kb ty.Ka ty.J9 ty.J8 ty.J6 ty.J2 ty.J1 ty.JZ ty.JY ty.JX ty.JW ty.JV ty.JU ty.JT ty.JS ty.JR ty.JQ ty.JP ty.JO ty.JN ty.JM ty.JL ty.JK ty.JJ ty.JI ty.JH ty.JG ty.JF ty.JE ty.JD ty.JC ty.JB ty.JA ty.Jz ty.Jy ty.Jx ty.Jw ty.Jv ty.Ju ty.Jt ty.Js ty.Jr ty.Jq
theorem mixed:Tryz.prog.follows .mixedOrders=true:=by kernel_rfl
end
section
open Go.ChangeShapes Go.WideShapes Go.ChangeAt Go.RowKit
section
variable {H:Type} {enc:TypeId×Value→H} {P:Program}
theorem Kp.below{w w':World}(h:Kp [] w w'):Below w.heap.size w w':=⟨h.os,h.tape,h.output,h.size,fun k hk=>h.blk k hk (by simp)⟩
theorem Kp.kept{w w':World}(h:Kp [] w w')(may:MemPlace→Prop):w.keptBut w' may:=by
 refine⟨h.os,h.output,fun i hi=>?_⟩
 rw[h.blk i hi (by simp)]
 cases hh:w.heap[i]? with
 |none=>rfl
 |some o=>
  cases o<;>simp
theorem mw{w:World}{a:Addr}{n:Nat}{cs:List Value}(h:w.cells? 0 a n=some cs)(hn:0<n):∃b off,a=⟨b,off,none⟩∧Row w b off cs∧cs.length=n:=by
 obtain⟨hb,hl,hc⟩:=World.cells?_some h
 obtain⟨b,off,spot⟩:=a
 have hv0:cs[0]?=some (cs[0]'(by omega)):=by simp
 have hs:spot=none:=by
  have:=hc 0 hn
  rw[hv0] at this
  simpa[Addr.add] using World.cell?_spot this
 subst hs
 refine⟨b,off,rfl,?_,hl⟩
 have key:∀i v,cs[i]?=some v→∃c T f,w.heap[b]?=some (.cells c T f)∧c[off+i]?=some v:=by
  intro i v hv
  have hi:i<n:=by rw[←hl];exact(List.getElem?_eq_some_iff.1 hv).1
  have:=hc i hi
  rw[hv,dd] at this
  unfold World.cell? at this
  split at this
  ·rename_i c T f hh
   exact⟨c,T,f,hh,by simpa using this⟩
  ·cases this
 obtain⟨c,T,f,hh,_⟩:=key 0 _ hv0
 refine⟨c,T,f,hh,fun i v hv=>?_⟩
 obtain⟨c',T',f',hh',h3⟩:=key i v hv
 rw[hh] at hh'
 cases hh'
 exact h3
theorem E2{n:Int}(h:(Lit.int .u8 n).wf=true):∃u:UInt8,n=(u.toNat:Int):=by
 have:0≤n∧n≤255:=by simpa[Lit.wf,IntKind.min,IntKind.max,IntKind.signed,IntKind.bits] using h
 refine⟨UInt8.ofNat n.toNat,?_⟩
 have h2:(UInt8.ofNat n.toNat).toNat=n.toNat:=by
  rw[UInt8.toNat_ofNat'];omega
 rw[h2];omega
structure TL(enc:TypeId×Value→H)(P:Program)(w:World)(e:TypeId)(a:Option Addr)(n:Nat):Prop where
 row:∀i,i<n→∃b off cs fuel y,a=some ⟨b,off,none⟩∧Row w b (off+i*P.cellsOf e) cs∧cs.length=P.cellsOf e∧DataW.trod enc P w 0 (fun _=>true) true fuel e cs=some y
theorem j0{w:World}{e:TypeId}{cs:List Value}{fuel:Nat}{y:DataW H×List MemPlace}(he:P.underlying e=some (.int .u8))(h:DataW.trod enc P w 0 (fun _=>true) true fuel e cs=some y):∃a:UInt8,cs=[bv a]:=by
 obtain⟨n0,e0,_,w0⟩:=DataW.trod_int he h
 obtain⟨a,rfl⟩:=E2 w0
 exact⟨a,e0⟩
theorem rM:∀{cs:List Value},(∀x∈cs,∃u:UInt8,x=bv u)→∃l:List UInt8,cs=l.map bv
 |[],_=>⟨[],rfl⟩
 |x::cs,h=>by
  obtain⟨u,rfl⟩:=h x (by simp)
  obtain⟨l,rfl⟩:=rM (cs:=cs) (fun y hy=>h y (by simp[hy]))
  exact⟨u::l,rfl⟩
theorem z8{w:World}{t e:TypeId}{n:Nat}{cs:List Value}{fuel:Nat}{y:DataW H×List MemPlace}(ht:P.underlying t=some (.array n e))(he:P.underlying e=some (.int .u8))(ce:P.cellsOf e=1)(ct:P.cellsOf t=n)(h:DataW.trod enc P w 0 (fun _=>true) true fuel t cs=some y):∃d:BA n,cs=dc d:=by
 obtain⟨xs,m,_,_,hl,hxl,hat⟩:=DataW.trod_array ht h
 rw[ct] at hl
 obtain⟨l,hcs⟩:∃l:List UInt8,cs=l.map bv:=by
  refine rM (fun x hx=>?_)
  obtain⟨i,hi,rfl⟩:=List.mem_iff_getElem.1 hx
  have h1:=hat i (by omega)
  rw[ce,Nat.mul_one,List.drop_eq_getElem_cons hi,List.getElem?_eq_getElem (by omega)] at h1
  simp only[List.take_succ_cons,List.take_zero] at h1
  obtain⟨u,hu⟩:=j0 he h1
  exact⟨u,by simpa using hu⟩
 subst hcs
 exact⟨⟨l,by simpa using hl⟩,rfl⟩
theorem lp(hl:laidOutB P=true){W W':World}{sp:Nat→Bool}(hb:Below W.heap.size W W'):∀{ts:List TypeId} {vs:List Value} {ds:List (DataW H)} {ps:List MemPlace},(∀t∈ts,P.readableRec t=true∧t<P.types.size)→
  (∀p∈ps,p.block<W.heap.size)→(∀p∈ps,sp p.block=true)→DataW.TrodAll enc P W 0 (fun _=>true) true ts vs ds ps→DataW.TrodAll enc P W' 0 sp true ts vs ds ps
 |[],[],[],ps,_,_,_,h=>h
 |t::ts,v::vs,d::ds,ps,ht,h1,h2,⟨p,q,hp,hq,e⟩=>by
  subst e
  exact⟨p,q,WideElems.Trod_stays hl (ht t (by simp)).1 (ht t (by simp)).2 hp (fun x hx=>hb.same (h1 x (by simp[hx]))) (fun x hx=>h2 x (by simp[hx])),
   lp hl hb (fun t' h'=>ht t' (by simp[h'])) (fun x hx=>h1 x (by simp[hx])) (fun x hx=>h2 x (by simp[hx])) hq,rfl⟩
 |[],_::_,_,_,_,_,_,h=>by simp[DataW.TrodAll] at h
 |[],[],_::_,_,_,_,_,h=>by simp[DataW.TrodAll] at h
 |_::_,[],_,_,_,_,_,h=>by simp[DataW.TrodAll] at h
 |_::_,_::_,[],_,_,_,_,h=>by simp[DataW.TrodAll] at h
theorem B6{f:Func}{s:ChangeSpec}{fresh handsOn again:Bool}{W W':World}{args:Array Value}{ds gs:List (DataW H)}{before:List MemPlace}{tb:TypeId}(hl:laidOutB P=true)(ht:∀t∈f.params.toList,P.readableRec t=true∧t<P.types.size)
  (hs:s.vars=[]) (hW:DataW.Whole enc P f.params.toList s.vars false W args.toList ds gs before) (hfn:s.fn H ds={results:=[.lit (.bool true)],args:=ds}) (hr:f.resultTypes= #[tb]) (hb:P.underlying tb=some .bool) (hk:Kp [] W W'):
  s.post enc P f false fresh handsOn again W args (.bool true) W':=by
 have hlt:=hW.lt
 have hW':=hW
 obtain⟨p,q,hA,hV,rfl,hfz,hnd⟩:=hW
 have hV':=hV
 rw[hs] at hV
 obtain⟨rfl,rfl⟩:=trodVars_none hV
 simp only[List.append_nil] at hlt hW'
 have hd:s.fn H (ds++[])={results:=[.lit (.bool true)],args:=ds}:=by rw[List.append_nil];exact hfn
 have hargs:∀sp:Nat→Bool,(∀p'∈p,sp p'.block=true)→DataW.TrodAll enc P W' 0 sp true f.params.toList args.toList (s.fn H (ds++[])).args p:=fun sp hsp=>by
  rw[hd]
  exact lp hl hk.below ht hlt hsp hA
 have hres:∀(b:Nat) (sp:Nat→Bool) (h:Bool),DataW.TrodAll enc P W' b sp h f.resultTypes.toList ((Value.bool true).resultList f.resultTypes.size) (s.fn H (ds++[])).results []:=fun _ _ _=>by
  rw[hd,hr]
  exact trodAll_mk1 (shut_bool hb _)
 have hvars:∀sp:Nat→Bool,DataW.TrodVars enc P W' sp s.vars (s.fn H (ds++[])).vars []:=fun _=>by
  rw[hd,hs]
  exact rfl
 have hin:∀p'∈p,decide (p'.block<W.heap.size)=true:=fun p' hp=>decide_eq_true (hlt p' hp)
 refine⟨ds,[],p,[],p,[],hW',hres _ _ _,hargs (fun b=>decide (b<W.heap.size)) hin,hvars _,World.keptBut_mono (fun p' hp=>⟨hp,Or.inr (Or.inl hp)⟩) (hk.kept _),fun _=>⟨ok_one hr rfl (okWide_bool_mk hb _),_,_,p,⟨p,[],trodAll_append (hargs _ (fun _ _=>rfl)) (hres _ _ _),hvars _,by simp,?_,?_⟩,fun p' hp _=>hp⟩⟩
 ·intro b off hp
  rw[hk.fz _ (hlt _ hp)]
  exact hfz b off (List.mem_append_left _ hp)
 ·intro ha
  exact absurd ha (by simp)
end
end
section
open Go.ChangeMaps (setBlock)
section
variable {κ ν:Type} {enc:κ→Value} {V:ν→Value} {m left:List (κ×ν)} {cur:Option (κ×ν)} {w w':World} {b r:Nat} {P:Program} {k T E:TypeId}
def kv(e:MapEntry):Value×Value:=(e.key,e.val)
def aM(w:World)(r b:Nat)(enc:κ→Value)(V:ν→Value)(m left:List (κ×ν))(cur:Option (κ×ν)):Prop:=
 ∃es clock seen,aF w b (.map es clock)∧MapKept.Stamped es clock∧es.toList.map kv=m.map (fun p=>(enc p.1,V p.2))∧aF w r (.mapIter (some b) clock seen clock)∧
  (es.toList.filter (fun e=> !seen.contains e.born)).map kv=left.map (fun p=>(enc p.1,V p.2))∧
  ∀p,cur=some p→∃(e:MapEntry) (seen':Array Nat),e∈es.toList∧seen=seen'.push e.born∧kv e=(enc p.1,V p.2)
theorem aM.kp{S:List Nat}(h:aM w r b enc V m left cur)(hk:Kp S w w')(hr:r∉S)(hb:b∉S):aM w' r b enc V m left cur:=by
 obtain⟨es,c,seen,h1,h2,h3,h4,h5,h6⟩:=h
 exact⟨es,c,seen,h1.kp hk hb,h2,h3,h4.kp hk hr,h5,h6⟩
theorem aM.ay(h:aM w r b enc V m left cur)(hk:Kp [] w w'):aM w' r b enc V m left cur:=h.kp hk (by simp) (by simp)
theorem aM.map(h:aM w r b enc V m left cur):aE w b enc V m:=by
 obtain⟨es,c,seen,h1,h2,h3,_⟩:=h
 exact⟨es,c,h1,h2,h3⟩
theorem aM.Dw(h:aM w r b enc V m left cur):r<w.heap.size:=by
 obtain⟨es,c,seen,h1,h2,h3,h4,_⟩:=h
 exact h4.lt
theorem qP{α β γ:Type}{f:α→β}{g:γ→β}:∀{l1:List α} {x:α} {l2:List α} {l:List γ},(l1++x::l2).map f=l.map g→∃pre p post,l=pre++p::post∧l1.map f=pre.map g∧f x=g p∧l2.map f=post.map g
 |[],x,l2,l,h=>by
  cases l with
  |nil=>simp at h
  |cons p l=>
   simp only[List.nil_append,List.map_cons,List.cons.injEq] at h
   exact⟨[],p,l,rfl,rfl,h.1,h.2⟩
 |y::l1,x,l2,l,h=>by
  cases l with
  |nil=>simp at h
  |cons p l=>
   simp only[List.cons_append,List.map_cons,List.cons.injEq] at h
   obtain⟨pre,q,post,h1,h2,h3,h4⟩:=qP h.2
   exact⟨p::pre,q,post,by simp[h1],by simp[h.1,h2],h3,h4⟩
theorem filter_push{seen:Array Nat}{e:MapEntry}:∀{l:List MapEntry},(l.map (·.born)).Nodup→∀{pre post:List MapEntry},l.filter (fun x=> !seen.contains x.born)=pre++e::post→l.filter (fun x=> !(seen.push e.born).contains x.born)=pre++post:=by
 intro l hn pre post h
 have h1:l.filter (fun x=> !(seen.push e.born).contains x.born)=(l.filter (fun x=> !seen.contains x.born)).filter (fun x=>x.born !=e.born):=by
  rw[List.filter_filter]
  congr 1
  funext x
  rw[Array.contains_push]
  cases seen.contains x.born<;>by_cases hb:x.born=e.born<;>simp[hb,bne]
 rw[h1,h,List.filter_append,List.filter_cons]
 have hn2:((pre++e::post).map (·.born)).Nodup:=by
  rw[←h]
  exact hn.sublist (List.filter_sublist.map _)
 rw[List.map_append,List.map_cons] at hn2
 have hd:=List.nodup_append.1 hn2
 have hc:=List.nodup_cons.1 hd.2.1
 have e1:pre.filter (fun x=>x.born !=e.born)=pre:=by
  rw[List.filter_eq_self]
  intro x hx
  have:=hd.2.2 x.born (List.mem_map.2 ⟨x,hx,rfl⟩) e.born (by simp)
  simpa[bne] using this
 have e2:post.filter (fun x=>x.born !=e.born)=post:=by
  rw[List.filter_eq_self]
  intro x hx
  have:e.born≠x.born:=fun he=>hc.1 (he▸List.mem_map.2 ⟨x,hx,rfl⟩)
  simpa[bne] using fun he=>this he.symm
 rw[e1,e2]
 simp
theorem yT[u:Ut P T (.map k E)](h:aE w b enc V m):∃o',(Instr.range T (.map (some b))).run P w= .ok (.pointer (some ⟨w.heap.size,0,none⟩)) {w with heap:=w.heap.push o'}∧Obj.soft o'=true∧aM {w with heap:=w.heap.push o'} w.heap.size b enc V m m none:=by
 obtain⟨es,c,h1,h2,h3⟩:=h
 have h1':w.heap[b]?=some (.map es c):=h1
 refine⟨.mapIter (some b) c #[] c,?_,rfl,es,c,#[],?_,h2,h3,aF.push w _,?_,fun p hp=>by cases hp⟩
 ·simp[Instr.range,run_underlying u.eq,MapKept.run_getObj_map h1',newObj,Sem.run,Result.andThen]
 ·exact aF.ay h1 (Kp.push w _ rfl)
 ·rw[List.filter_eq_self.2 (by simp)]
  exact h3
theorem Bc(ty:TypeId)(h:aM w r b enc V m left cur):
  (left=[]∧(Instr.next (.pointer (some ⟨r,0,none⟩)) false ty).run P w= .ok (.tuple #[.bool false]) w)∨
  ∃pre p post w',left=pre++p::post∧(Instr.next (.pointer (some ⟨r,0,none⟩)) false ty).run P w= .ok (.tuple #[.bool true,enc p.1,V p.2]) w'∧Kp [r] w w'∧aM w' r b enc V m (pre++post) (some p):=by
 obtain⟨es,c,seen,h1,h2,h3,h4,h5,h6⟩:=h
 have hs:=(MapKept.stamped_iff es c).1 h2
 rcases run_next_at (P:=P) w ty r b c c seen es c h4 h1 hs.1 (Nat.le_refl _) with⟨g1,g2⟩|⟨e,g1,w1,g2,g3⟩
 ·refine Or.inl ⟨?_,g2⟩
  have:es.toList.filter (fun e=> !seen.contains e.born)=[]:=by
   have:(leftOf es seen).toList=[]:=by
    rw[←List.length_eq_zero_iff];simpa using g1
   simpa[leftOf] using this
  rw[this] at h5
  simpa using h5.symm
 ·have hm:e∈es.toList.filter (fun e=> !seen.contains e.born):=by simpa[leftOf] using g1
  obtain⟨l1,l2,hl⟩:=List.append_of_mem hm
  rw[hl] at h5
  obtain⟨pre,p,post,k1,k2,k3,k4⟩:=qP h5
  have hbr:b≠r:=fun e'=>by
   subst e'
   have:=h1.uniq h4
   cases this
  have hw1:w1.heap=w.heap:=by rcases g2 with rfl|rfl<;>rfl
  have hk1:Kp [r] w (setBlock w1 r (.mapIter (some b) c (seen.push e.born) c)):=by
   have a1:Kp [r] w w1:=by
    rcases g2 with rfl|rfl
    ·exact Kp.refl _ _
    ·exact(Kp.refl [r] w).drew
   exact a1.trans (Kp.set w1 (b:=r) (o:= .mapIter (some b) c seen c) (by unfold aF;rw[hw1];exact h4) rfl rfl)
  have hB:aF (setBlock w1 r (.mapIter (some b) c (seen.push e.born) c)) r (.mapIter (some b) c (seen.push e.born) c):=aF.set (w:=w1) (o:= .mapIter (some b) c seen c) (by unfold aF;rw[hw1];exact h4) _
  have hkv:kv e=(enc p.1,V p.2):=k3
  have hkv':e.key=enc p.1∧e.val=V p.2:=by
   have:=Prod.mk.inj hkv
   exact this
  refine Or.inr ⟨pre,p,post,_,k1,?_,hk1,es,c,seen.push e.born,h1.kp hk1 (bP hbr),h2,h3,hB,?_,fun q hq=>?_⟩
  ·rw[g3,hkv'.1,hkv'.2]
  ·rw[filter_push hs.2.1 hl,List.map_append,List.map_append,k2,k4]
  ·cases hq
   exact⟨e,seen,(List.mem_filter.1 hm).1,rfl,k3⟩
theorem yU{p:κ×ν}(h:aM w r b enc V m left (some p)):(Instr.entry (.pointer (some ⟨r,0,none⟩))).run P w= .ok (.tuple #[enc p.1,V p.2]) w:=by
 obtain⟨es,c,seen,h1,h2,h3,h4,h5,h6⟩:=h
 obtain⟨e,seen',g1,rfl,g3⟩:=h6 p rfl
 have hs:=(MapKept.stamped_iff es c).1 h2
 rw[run_entry_at (P:=P) w r b c seen' es c e h4 h1 g1 hs.2.1]
 have:=Prod.mk.inj g3
 rw[this.1,this.2]
end
section
variable {κ ν:Type} {enc:κ→Value} {V:ν→Value} {m left:List (κ×ν)} {cur:Option (κ×ν)} {b r:Nat} {P:Program} {k T E:TypeId}
 {n:Nat} {Q:Exit→Act→World→Prop} {L:Env} {w:World} {ops rest:List Oper} {d:Nat} {ty:TypeId} {pos:String} {af:Array Edge} {g:Option (Nat×Bool)} {x:Operand}
theorem SG.range[u:Ut P T (.map k E)](hd:Nat.blt d n=true)(hw:want ops L ⟨some d,.range T x,ty,pos,af,g⟩=some true)(hk:known L x=true)(hx:bB L x= .map (some b))(hm:aE w b enc V m)
  (h:∀r w',Kp [] w w'→w.heap.size≤r→aM w' r b enc V m m none→SG P n ops Q rest ((d,.pointer (some ⟨r,0,none⟩))::L) w'):SG P n ops Q (⟨some d,.range T x,ty,pos,af,g⟩::rest) L w:=by
 refine SG.op (by simpa using hd) rfl hw (by simpa[Op.operands] using hk) ?_
 unfold bh
 obtain⟨o',h1,h2,h3⟩:=yT (P:=P) (u:=u) hm
 have:(execOp (bB L) ⟨some d,.range T x,ty,pos,af,g⟩).run P w= .ok (.value (.pointer (some ⟨w.heap.size,0,none⟩))) {w with heap:=w.heap.push o'}:=by
  simp only[execOp,hx,Sem.run_bind,h1,Result.andThen,Sem.run_pure]
 rw[this]
 exact h _ _ (Kp.push w _ h2) (Nat.le_refl _) h3
theorem SG.next(hd:Nat.blt d n=true)(hw:want ops L ⟨some d,.next x false,ty,pos,af,g⟩=some true)(hk:known L x=true)(hx:bB L x= .pointer (some ⟨r,0,none⟩))(hi:aM w r b enc V m left cur)
  (h0:left=[]→SG P n ops Q rest ((d,.tuple #[.bool false])::L) w)
  (h1:∀pre p post w',left=pre++p::post→Kp [r] w w'→aM w' r b enc V m (pre++post) (some p)→SG P n ops Q rest ((d,.tuple #[.bool true,enc p.1,V p.2])::L) w'):SG P n ops Q (⟨some d,.next x false,ty,pos,af,g⟩::rest) L w:=by
 refine SG.op (by simpa using hd) rfl hw (by simpa[Op.operands] using hk) ?_
 unfold bh
 rcases Bc (P:=P) ty hi with⟨g1,g2⟩|⟨pre,p,post,w',g1,g2,g3,g4⟩
 ·have:(execOp (bB L) ⟨some d,.next x false,ty,pos,af,g⟩).run P w= .ok (.value (.tuple #[.bool false])) w:=by
   simp only[execOp,hx,Sem.run_bind,g2,Result.andThen,Sem.run_pure]
  rw[this]
  exact h0 g1
 ·have:(execOp (bB L) ⟨some d,.next x false,ty,pos,af,g⟩).run P w= .ok (.value (.tuple #[.bool true,enc p.1,V p.2])) w':=by
   simp only[execOp,hx,Sem.run_bind,g2,Result.andThen,Sem.run_pure]
  rw[this]
  exact h1 pre p post w' g1 g3 g4
theorem Ge{S:List Nat}{w0:World}{F:World→Prop}{d:Option Nat}{p:κ×ν}(hx:ro L x=some (.pointer (some ⟨r,0,none⟩)))(hi:aM w0 r b enc V m left (some p))(hr:r∉S)(hb:b∉S):aK P S w0 F L ⟨d,.entry x,ty,pos,af,g⟩ (.tuple #[enc p.1,V p.2]):=fun w hk _=>by
 simp only[execOp,ag hx,Sem.run_bind,yU (hi.kp hk hr hb),Result.andThen,Sem.run_pure]
end
section
variable {P:Program} {n:Nat} {Q:Exit→Act→World→Prop} {L:Env} {w:World} {ops:List Oper} {rest:List Oper} {ty:TypeId} {pos:String} {af:Array Edge} {g:Option (Nat×Bool)}
theorem mv{T k E:TypeId}[u:Ut P T (.map k E)]{q:IntKind}{z:Int}:(Instr.makeMap T (some (.int q z))).run P w= .ok (.map (some w.heap.size)) {w with heap:=w.heap.push (.map #[] 0)}:=by
 simp[Instr.makeMap,run_underlying u.eq,asInt,asIntOf,newObj,Sem.run,Result.andThen]
theorem aI.mM{κ ν:Type}(enc:κ→Value)(V:ν→Value){w0:World}{gh:List Nat}{K:Env→(World→Prop)→(World→Prop)→Prop}{i:Nat}{ord:List Nat}{d:Nat}{T k E:TypeId}[u:Ut P T (.map k E)]{R:World→Prop}{x:Operand}{q:IntKind}{z:Int}
  (ho:ops[i]?=some ⟨some d,.makeMap T (some x),ty,pos,af,g⟩) (hw:want ops L ⟨some d,.makeMap T (some x),ty,pos,af,g⟩=some true) (hg:gh.elem i=true) (hk:known L x=true) (hx:bB L x= .int q z)
  (hd:∀b,aI P [] w0 ops gh K ord ((d,.map (some b))::L) (fun _=>True∧True) (fun w=>w0.heap.size≤b∧aE w b enc V [])):aI P [] w0 ops gh K (i::ord) L (fun _=>True) R:=by
 refine aI.j7 (X:=Nat) (fun b=> .map (some b)) (fun _ _=>True) (fun b w=>w0.heap.size≤b∧aE w b enc V []) ho hw hg (by simpa[Op.operands] using hk) (fun _ _ _ _ _=>trivial) (fun b w w' hk h=>⟨h.1,h.2.ay hk⟩) ?_ hd
 intro w hk _ _
 unfold bh
 have:(execOp (bB L) ⟨some d,.makeMap T (some x),ty,pos,af,g⟩).run P w= .ok (.value (.map (some w.heap.size))) {w with heap:=w.heap.push (.map #[] 0)}:=by
  simp only[execOp,Option.map_some,hx,Sem.run_bind,mv (u:=u),Result.andThen,Sem.run_pure]
 rw[this]
 exact⟨w.heap.size,rfl,⟨trivial,trivial⟩,⟨hk.size,aE.made w enc V⟩,hk.trans (Kp.push w _ rfl)⟩
theorem SG.makeMap{κ ν:Type}(enc:κ→Value)(V:ν→Value){d:Nat}{T:TypeId}(hd:Nat.blt d n=true)(hw:want ops L ⟨some d,.makeMap T none,ty,pos,af,g⟩=some true)
  (h:∀b w',Kp [] w w'→w.heap.size≤b→aE w' b enc V []→SG P n ops Q rest ((d,.map (some b))::L) w'):SG P n ops Q (⟨some d,.makeMap T none,ty,pos,af,g⟩::rest) L w:=by
 refine SG.op (by simpa using hd) rfl hw (by simp[Op.operands]) ?_
 unfold bh
 have:(execOp (bB L) ⟨some d,.makeMap T none,ty,pos,af,g⟩).run P w= .ok (.value (.map (some w.heap.size))) {w with heap:=w.heap.push (.map #[] 0)}:=by
  simp[execOp,Instr.makeMap,newObj,Sem.run,Result.andThen]
 rw[this]
 exact h w.heap.size _ (Kp.push w _ rfl) (Nat.le_refl _) (aE.made w enc V)
end
theorem nR{P:Program}{T:TypeId}(m:Nat)(hm:m≤10000)(hk:P.keyTypeAt m T=true)(ht:P.tiled m T=true)(hwide:(match P.underlying T with|some (.array _ _)|some (.struct _)=>true|_=>false)=true)(hkt:P.keyType T=true){l l':List Value}
  (hf:(Value.agg l.toArray).formed P T=true) (hf':(Value.agg l'.toArray).formed P T=true) (hx:(P.keyLits (P.types.size+1) T l).isSome=true) (hy:(P.keyLits (P.types.size+1) T l').isSome=true) (w:World):
  ∃r:Bool,(Op.equal T (.agg l.toArray) (.agg l'.toArray)).run P w= .ok r w∧(r=true↔l=l'):=by
 have key:∀{l:List Value},(Value.agg l.toArray).formed P T=true→(P.keyLits (P.types.size+1) T l).isSome=true→∃q,keyOf P T (.agg l.toArray)=some q:=by
  intro l hf hx
  obtain⟨L,hL⟩:=Option.isSome_iff_exists.1 hx
  refine⟨.string (keyBytes L),?_⟩
  have hc:(Value.agg l.toArray).cells.toList=l:=by simp[Value.cells]
  unfold keyOf
  cases hu:P.underlying T with
  |none=>rw[hu] at hwide;simp at hwide
  |some d=>
   rw[hu] at hwide
   cases d<;>simp at hwide<;>simp only[hkt,hf,Bool.and_self,if_true,hc,hL,Option.map_some]
 obtain⟨q,hq⟩:=key hf hx
 obtain⟨q',hq'⟩:=key hf' hy
 obtain⟨r,h1,h2⟩:=run_equal_deep w hm hk hwide hq hq'
 refine⟨r,h1,h2.trans ⟨fun e=>?_,fun e=>?_⟩⟩
 ·subst e
  have:=keyOf_inj_deep ht hwide hq hq'
  simpa using this
 ·subst e
  rw[hq] at hq'
  cases hq'
  rfl
end
section
theorem cT.deep{P:Program}{k:TypeId}{κ:Type}{enc:κ→List Value}(m:Nat)(hm:m+1≤10000)(hk:P.keyTypeAt m k=true)(ht:P.tiled m k=true)(hwide:(match P.underlying k with|some (.array _ _)|some (.struct _)=>true|_=>false)=true)(hkt:P.keyType k=true)
  (hf:∀x,(Value.agg (enc x).toArray).formed P k=true) (hx:∀x,(P.keyLits (P.types.size+1) k (enc x)).isSome=true) (hi:∀x y,enc x=enc y→x=y):cT P k (fun x=>Value.agg (enc x).toArray):=by
 refine⟨Maps.Keyed.of_law (deep_law hm hk ht hwide),fun x=>?_,fun x y h=>hi x y (by simpa using h)⟩
 obtain⟨L,hL⟩:=Option.isSome_iff_exists.1 (hx x)
 refine⟨.string (keyBytes L),?_⟩
 have hc:(Value.agg (enc x).toArray).cells.toList=enc x:=by simp[Value.cells]
 unfold keyOf
 cases hu:P.underlying k with
 |none=>rw[hu] at hwide;simp at hwide
 |some d=>
  rw[hu] at hwide
  cases d<;>simp at hwide<;>simp only[hkt,hf,Bool.and_self,if_true,hc,hL,Option.map_some]
end
section
def kZ(a b:Int):Int:=IntKind.wrap .u64 (a+b)
def SQ(a b:Int):Int:=IntKind.wrap .u64 (a*b)
def ic(a b:Int):Int:=IntKind.wrap .u64 ((BitVec.ofInt 64 a^^^BitVec.ofInt 64 b).toNat:Int)
def vk(a b:Int):Int:=IntKind.wrap .u64 ((BitVec.ofInt 64 a|||BitVec.ofInt 64 b).toNat:Int)
def qj(a b:Int):Int:=IntKind.wrap .u64 ((BitVec.ofInt 64 a&&&BitVec.ofInt 64 b).toNat:Int)
def Ep(a b:Int):Int:=IntKind.wrap .u8 ((BitVec.ofInt 8 a|||BitVec.ofInt 8 b).toNat:Int)
def kR(a b:Int):Int:=IntKind.wrap .u64 (a*2^(min b.toNat 64))
def lJ(a b:Int):Int:=a.fdiv (2^(min b.toNat 64))
section
variable {P:Program} {S:List Nat} {w0:World} {F:World→Prop} {L:Env} {d:Option Nat} {ty:TypeId} {pos:String} {af:Array Edge} {g:Option (Nat×Bool)}
theorem Bj{T T':TypeId}[u:Ut P T (.int .u64)]{x y:Operand}{a b:Int}(hx:ro L x=some (.int .u64 a))(hy:ro L y=some (.int .u64 b)):aK P S w0 F L ⟨d,.binOp .add T x y T',ty,pos,af,g⟩ (.int .u64 (kZ a b)):=fun w _ _=>by
 simp only[execOp,ag hx,ag hy,eqGuard,binOp,Op.intArith,Sem.run_bind,Sem.run_pure,Result.andThen,kZ];rfl
theorem ze{T T':TypeId}[u:Ut P T (.int .u64)]{x y:Operand}{a b:Int}(hx:ro L x=some (.int .u64 a))(hy:ro L y=some (.int .u64 b)):aK P S w0 F L ⟨d,.binOp .xor T x y T',ty,pos,af,g⟩ (.int .u64 (ic a b)):=fun w _ _=>by
 simp only[execOp,ag hx,ag hy,eqGuard,binOp,Op.intBits,Sem.run_bind,Sem.run_pure,Result.andThen,ic];rfl
theorem D6{T T':TypeId}[u:Ut P T (.int .u64)]{x y:Operand}{a b:Int}(hx:ro L x=some (.int .u64 a))(hy:ro L y=some (.int .u64 b)):aK P S w0 F L ⟨d,.binOp .or T x y T',ty,pos,af,g⟩ (.int .u64 (vk a b)):=fun w _ _=>by
 simp only[execOp,ag hx,ag hy,eqGuard,binOp,Op.intBits,Sem.run_bind,Sem.run_pure,Result.andThen,vk];rfl
theorem N2{T T':TypeId}[u:Ut P T (.int .u8)]{x y:Operand}{a b:Int}(hx:ro L x=some (.int .u8 a))(hy:ro L y=some (.int .u8 b)):aK P S w0 F L ⟨d,.binOp .or T x y T',ty,pos,af,g⟩ (.int .u8 (Ep a b)):=fun w _ _=>by
 simp only[execOp,ag hx,ag hy,eqGuard,binOp,Op.intBits,Sem.run_bind,Sem.run_pure,Result.andThen,Ep];rfl
theorem N3{T T':TypeId}[u:Ut P T (.int .u64)]{x y:Operand}{a b:Int}(hx:ro L x=some (.int .u64 a))(hy:ro L y=some (.int .u64 b)):aK P S w0 F L ⟨d,.binOp .and T x y T',ty,pos,af,g⟩ (.int .u64 (qj a b)):=fun w _ _=>by
 simp only[execOp,ag hx,ag hy,eqGuard,binOp,Op.intBits,Sem.run_bind,Sem.run_pure,Result.andThen,qj];rfl
theorem D5{T T':TypeId}[u:Ut P T (.int .u64)]{x y:Operand}{k:IntKind}{a b:Int}(hx:ro L x=some (.int .u64 a))(hy:ro L y=some (.int k b))(h:Ar (0≤b)):aK P S w0 F L ⟨d,.binOp .shl T x y T',ty,pos,af,g⟩ (.int .u64 (kR a b)):=fun w _ _=>by
 have h0:¬b<0:=by have:=h.h;omega
 simp only[execOp,ag hx,ag hy,eqGuard,binOp,Op.shift,if_neg h0,Sem.run_bind,Sem.run_pure,Result.andThen,kR];rfl
theorem Gc{T T':TypeId}[u:Ut P T (.int .u64)]{x y:Operand}{k:IntKind}{a b:Int}(hx:ro L x=some (.int .u64 a))(hy:ro L y=some (.int k b))(h:Ar (0≤b)):aK P S w0 F L ⟨d,.binOp .shr T x y T',ty,pos,af,g⟩ (.int .u64 (lJ a b)):=fun w _ _=>by
 have h0:¬b<0:=by have:=h.h;omega
 simp only[execOp,ag hx,ag hy,eqGuard,binOp,Op.shift,if_neg h0,Sem.run_bind,Sem.run_pure,Result.andThen,lJ];rfl
theorem Fy{T T':TypeId}[u:Ut P T (.int .i64)]{x y:Operand}{a b:Int}(hx:ro L x=some (.int .i64 a))(hy:ro L y=some (.int .i64 b))(h:Ar (-9223372036854775808≤a*b∧a*b≤9223372036854775807)):aK P S w0 F L ⟨d,.binOp .mul T x y T',ty,pos,af,g⟩ (.int .i64 (a*b)):=fun w _ _=>by
 have e:IntKind.wrap .i64 (a*b)=a*b:=by
  have h1:=h.h
  generalize a*b=c at*
  simp only[IntKind.wrap,IntKind.signed,IntKind.bits]
  simp
  omega
 simp only[execOp,ag hx,ag hy,eqGuard,binOp,Op.intArith,Sem.run_bind,Sem.run_pure,Result.andThen,e];rfl
theorem N9{T T':TypeId}[u:Ut P T (.int .i64)]{x y:Operand}{a b:Int}(hx:ro L x=some (.int .i64 a))(hy:ro L y=some (.int .i64 b))(h:Ar (0≤a∧a≤9223372036854775807∧0<b)):aK P S w0 F L ⟨d,.binOp .quo T x y T',ty,pos,af,g⟩ (.int .i64 (a/b)):=fun w _ _=>by
 obtain⟨h0,h1,h2⟩:=h.h
 have e:IntKind.wrap .i64 (a.tdiv b)=a/b:=by
  rw[Int.tdiv_eq_ediv_of_nonneg h0]
  have h3:a/b≤a:=Int.ediv_le_self b h0
  have h4:0≤a/b:=Int.ediv_nonneg h0 (by omega)
  generalize a/b=c at*
  simp only[IntKind.wrap,IntKind.signed,IntKind.bits]
  simp
  omega
 have hb:b≠0:=by omega
 simp only[execOp,ag hx,ag hy,eqGuard,binOp,Op.intDiv,if_neg hb,Sem.run_bind,Sem.run_pure,Result.andThen,e];rfl
theorem Jc{T T':TypeId}[u:Ut P T (.int .i64)]{x y:Operand}{a b:Int}(hx:ro L x=some (.int .i64 a))(hy:ro L y=some (.int .i64 b))(h:Ar (0≤a∧0<b)):aK P S w0 F L ⟨d,.binOp .rem T x y T',ty,pos,af,g⟩ (.int .i64 (a%b)):=fun w _ _=>by
 obtain⟨h0,h2⟩:=h.h
 have hb:b≠0:=by omega
 simp only[execOp,ag hx,ag hy,eqGuard,binOp,Op.intDiv,if_neg hb,Sem.run_bind,Sem.run_pure,Result.andThen,Int.tmod_eq_emod_of_nonneg h0];rfl
theorem N1{T T':TypeId}[u:Ut P T (.int .u64)]{x y:Operand}{a b:Int}(hx:ro L x=some (.int .u64 a))(hy:ro L y=some (.int .u64 b))(h:Ar (0≤a-b∧a-b<18446744073709551616)):aK P S w0 F L ⟨d,.binOp .sub T x y T',ty,pos,af,g⟩ (.int .u64 (a-b)):=fun w _ _=>by
 have e:IntKind.wrap .u64 (a-b)=a-b:=by
  have h1:=h.h
  generalize a-b=c at*
  simp only[IntKind.wrap,IntKind.signed,IntKind.bits]
  simp
  omega
 simp only[execOp,ag hx,ag hy,eqGuard,binOp,Op.intArith,Sem.run_bind,Sem.run_pure,Result.andThen,e];rfl
theorem HX{T E:TypeId}{n:Nat}[u:Ut P T (.array n E)][s:Sz P E 1][c:cR P E]{x y:Operand}{k:IntKind}{z:Int}{j:Nat}{l:List Value}{v:Value}(hx:ro L x=some (.agg l.toArray))(hy:ro L y=some (.int k z))(hz:z=(j:Int))(h1:Ar (j<n))(hv:l[j]?=some v):
  aK P S w0 F L ⟨d,.index T x y,ty,pos,af,g⟩ v:=fun w _ _=>by
 obtain⟨i,h2,h3⟩:=s.eq
 obtain⟨dsc,h4,h5⟩:=c.eq
 subst hz
 have h6:(0:Int)≤(j:Int)∧(j:Int)<(n:Int):=⟨by omega,by have:=h1.h;omega⟩
 simp[execOp,ag hx,ag hy,Instr.index,asIntOf,run_underlying u.eq,h6,sizeOf,typeInfo,h2,h3,part,iL (u:=⟨h4⟩),h5,hv]
 intro h7
 have:=h1.h
 omega
theorem Gf{T T':TypeId}[u:Ut P T (.int .u8)][u':Ut P T' (.int .u64)]{x:Operand}{a:UInt8}(hx:ro L x=some (bv a)):aK P S w0 F L ⟨d,.convert T T' x,ty,pos,af,g⟩ (.int .u64 (a.toNat:Int)):=by
 have h:=vj (P:=P) (S:=S) (w0:=w0) (F:=F) (d:=d) (ty:=ty) (pos:=pos) (af:=af) (g:=g) (T:=T) (T':=T') (k':= .u64) hx
 have e:IntKind.wrap .u64 (a.toNat:Int)=(a.toNat:Int):=by
  have:a.toNat<256:=a.toNat_lt
  simp only[IntKind.wrap,IntKind.signed,IntKind.bits]
  simp
  omega
 rwa [e] at h
def F3(z:Int):UInt8:=UInt8.ofNat (z%256).toNat
theorem oZ(n:Nat):F3 (n:Int)=UInt8.ofNat n:=by
 unfold F3
 apply UInt8.toNat.inj
 rw[UInt8.toNat_ofNat',UInt8.toNat_ofNat']
 omega
theorem HA(z:Int):IntKind.wrap .u8 z=((F3 z).toNat:Int):=by
 unfold F3
 rw[UInt8.toNat_ofNat']
 simp only[IntKind.wrap,IntKind.signed,IntKind.bits]
 simp
 omega
theorem Bo{T T':TypeId}{k:IntKind}[u:Ut P T (.int k)][u':Ut P T' (.int .u8)]{x:Operand}{a:Int}(hx:ro L x=some (.int k a)):aK P S w0 F L ⟨d,.convert T T' x,ty,pos,af,g⟩ (bv (F3 a)):=by
 have h:=vj (P:=P) (S:=S) (w0:=w0) (F:=F) (d:=d) (ty:=ty) (pos:=pos) (af:=af) (g:=g) (T:=T) (T':=T') (k':= .u8) hx
 rwa [HA] at h
theorem Eb{T T':TypeId}[u:Ut P T (.int .i64)][u':Ut P T' (.int .u64)]{x:Operand}{a:Nat}(hx:ro L x=some (.int .i64 (a:Int)))(h:Ar (a<9223372036854775808)):aK P S w0 F L ⟨d,.convert T T' x,ty,pos,af,g⟩ (.int .u64 (a:Int)):=by
 have h1:=vj (P:=P) (S:=S) (w0:=w0) (F:=F) (d:=d) (ty:=ty) (pos:=pos) (af:=af) (g:=g) (T:=T) (T':=T') (k':= .u64) hx
 have e:IntKind.wrap .u64 (a:Int)=(a:Int):=by
  have:=h.h
  simp only[IntKind.wrap,IntKind.signed,IntKind.bits]
  simp
  omega
 rwa [e] at h1
end
theorem lE{n:Nat}(h:n<18446744073709551616):IntKind.wrap .u64 (n:Int)=(n:Int):=by
 simp only[IntKind.wrap,IntKind.signed,IntKind.bits]
 simp
 omega
theorem nv(z:Int):0≤IntKind.wrap .u64 z∧IntKind.wrap .u64 z<18446744073709551616:=by
 simp only[IntKind.wrap,IntKind.signed,IntKind.bits]
 simp
 omega
theorem DG(a b:Int):0≤ic a b∧ic a b<18446744073709551616:=nv _
theorem Ao(a b:Int):∃n:Nat,ic a b=(n:Int)∧n<18446744073709551616:=by
 have:=DG a b
 exact⟨(ic a b).toNat,by omega,by omega⟩
theorem xS{a c i:Nat}(ha:a<2^i)(hc:a+c*2^i<18446744073709551616):vk (a:Int) ((c*2^i:Nat):Int)=((a+c*2^i:Nat):Int):=by
 unfold vk
 have h2:(BitVec.ofInt 64 (a:Int)|||BitVec.ofInt 64 ((c*2^i:Nat):Int)).toNat=a+c*2^i:=by
  rw[BitVec.toNat_or,BitVec.ofInt_natCast,BitVec.ofInt_natCast,BitVec.toNat_ofNat,BitVec.toNat_ofNat,Nat.mod_eq_of_lt (by omega),Nat.mod_eq_of_lt (by omega)]
  have:=Nat.two_pow_add_eq_or_of_lt ha c
  rw[Nat.mul_comm c,Nat.or_comm,←this]
  omega
 rw[h2,lE hc]
theorem tT{a i:Nat}(h:a*2^i<18446744073709551616)(hi:i≤64):kR (a:Int) (i:Int)=((a*2^i:Nat):Int):=by
 unfold kR
 rw[Int.toNat_natCast,Nat.min_eq_left hi]
 have:(a:Int)*2^i=((a*2^i:Nat):Int):=by simp
 rw[this,lE h]
theorem tS{a i:Nat}(hi:i≤64):lJ (a:Int) (i:Int)=((a/2^i:Nat):Int):=by
 unfold lJ
 rw[Int.toNat_natCast,Nat.min_eq_left hi]
 have:((2:Int)^i)=((2^i:Nat):Int):=by simp
 rw[this,Int.fdiv_eq_ediv_of_nonneg _ (Int.natCast_nonneg _)]
 rfl
def val:List UInt8→Nat
 |[]=>0
 |b::l=>b.toNat+256*val l
theorem rS:∀l:List UInt8,val l<256^l.length
 |[]=>by simp[val]
 |b::l=>by
  have h:=rS l
  have hb:b.toNat<256:=b.toNat_lt
  simp only[val,List.length_cons,Nat.pow_succ]
  omega
theorem lG:∀(a b:List UInt8),val (a++b)=val a+256^a.length*val b
 |[],b=>by simp[val]
 |x::a,b=>by
  simp only[List.cons_append,val,List.length_cons,Nat.pow_succ]
  rw[lG a b,Nat.mul_add,←Nat.mul_assoc,Nat.mul_comm (256^a.length) 256]
  omega
theorem AM{l:List UInt8}{i:Nat}(h:i<l.length):val (l.take (i+1))=val (l.take i)+l[i].toNat*2^(8*i):=by
 rw[List.take_succ_eq_append_getElem h,lG]
 have:(l.take i).length=i:=by simp;omega
 rw[this]
 have e:(256:Nat)^i=2^(8*i):=by rw[Nat.pow_mul]
 simp only[val,Nat.mul_zero,Nat.add_zero]
 rw[e,Nat.mul_comm]
def CW(n:Nat):Nat→List UInt8
 |0=>[]
 |k+1=>UInt8.ofNat n::CW (n/256) k
theorem lW(n k:Nat):(CW n k).length=k:=by
 induction k generalizing n with
 |zero=>rfl
 |succ k ih=>simp[CW,ih]
abbrev Dg:=BA 8
def num(d:Dg):Nat:=val d.1
def frm(n:Nat):Dg:=⟨CW n 8,lW n 8⟩
theorem pJ(d:Dg):num d<18446744073709551616:=by
 have:=rS d.1
 rw[d.2] at this
 exact this
structure Hs where
 a:Int
 b:Int
 c:Int
 d:Int
def sf(x k:Int):Int:=vk (kR x k) (lJ x (64-k))
def Ga(s:Hs)(i:Int):Hs:=
 let w0:=ic (kZ s.a s.b) i
 let w3:=sf (ic s.d w0) 32
 let w2:=kZ s.c w3
 let w1:=sf (ic s.b w2) 24
 let w0:=kZ w0 w1
 let w3:=sf (ic w3 w0) 16
 let w2:=kZ w2 w3
 let w1:=sf (ic w1 w2) 63
 ⟨w0,w1,w2,w3⟩
def jg(s:Hs):Nat→Hs
 |0=>s
 |k+1=>Ga (jg s k) ((k+1:Nat):Int)
def Fw(s:Hs):Hs:=jg s 6
def c9(s:Hs)(n:Int):Hs:=Fw ⟨ic s.a n,s.b,s.c,s.d⟩
def cJ(k:Int):Hs:=⟨2611923443488327891,1376283091369227076,11820040416388919760,k⟩
def cQ(s:Hs):Dg:=frm (ic s.a s.c).toNat
def gq(s:Hs):List UInt8→Nat→Hs
 |_,0=>s
 |l,k+1=>gq (c9 s (val (l.take 8):Int)) (l.drop 8) k
def de(s:Hs)(l:List UInt8):Hs:=
 let s:=gq s l (l.length/8)
 let s:=c9 s (val (l.drop (l.length/8*8)++[1]):Int)
 c9 s (l.length:Int)
def kV(l:List UInt8):Dg:=cQ (de (cJ 1) l)
def iZ(a b:Dg):Dg:=cQ (c9 (c9 (cJ 3) (num a:Int)) (num b:Int))
def SM(a:Dg):Dg:=cQ (c9 (cJ 2) (num a:Int))
def oG(s:Hs):List Dg→Hs
 |[]=>s
 |d::l=>oG (c9 s (num d:Int)) l
def rk(l:List Dg):Dg:=cQ (c9 (oG (cJ 5) l) (l.length:Int))
theorem sE(s:Hs)(a b:List Dg):oG s (a++b)=oG (oG s a) b:=by
 induction a generalizing s with
 |nil=>rfl
 |cons x a ih=>simp[oG,ih]
def pD:Nat→Nat→List UInt8
 |0,n=>[UInt8.ofNat n]
 |f+1,n=>if n<128 then[UInt8.ofNat n] else UInt8.ofNat (128+n%128)::pD f (n/128)
def cP(n:Nat):List UInt8:=pD 10 n
theorem uc:∀f n,(pD f n).length≤f+1
 |0,n=>by simp[pD]
 |f+1,n=>by
  unfold pD
  split
  ·simp
  ·have:=uc f (n/128)
   simp
   omega
theorem Eo{n:Nat}:Ep ((F3 (n:Int)).toNat:Int) 128=((UInt8.ofNat (128+n%128)).toNat:Int):=by
 rw[oZ]
 have key:∀m:_root_.Fin 256,Ep (m.val:Int) 128=((128+m.val%128:Nat):Int):=by decide+kernel
 have h1:(UInt8.ofNat n).toNat=n%256:=UInt8.toNat_ofNat' ..
 rw[h1,UInt8.toNat_ofNat']
 have:=key ⟨n%256,Nat.mod_lt _ (by omega)⟩
 simp only at this
 rw[this]
 omega
end
section
structure GD where
 X:Type
 x0:X
 val:X→Value
 phi:X→World→Prop
def GD.none:GD:=⟨Unit,(),fun _=>undef,fun _ _=>True⟩
def ew:List (Nat×GD)→Nat→Option GD
 |[],_=>Option.none
 |(j,d)::G,i=>bif Nat.beq j i then some d else ew G i
def bX(G:List (Nat×GD))(i:Nat):GD:=(ew G i).getD GD.none
def ig(G:List (Nat×GD))(i:Nat):Bool:=(ew G i).isSome
abbrev Fact:=Nat×(World→Prop)
def fk(ops:List Oper)(i:Nat)(Γ:List Fact)(w:World):Prop:=∀p∈Γ,jG ops i p.1=true→p.2 w
def Dp(S:List Nat×Nat)(w0:World)(G:List (Nat×GD))(i:Nat)(w w':World):Prop:=Kp [] w w'∨((i=S.2∧Kp S.1 w0 w'∨∀X,Kp X w0 w→Kp X w0 w')∧∀j x,j≠i→(bX G j).phi x w→(bX G j).phi x w')
section
variable (P:Program) (S:List Nat×Nat) (w0:World) (ops:List Oper) (G:List (Nat×GD)) (K:Env→List Fact→Prop)
def Live(D:Nat→Bool)(V:Nat→Value)(ξ:(i:Nat)→(bX G i).X):List Nat→Env→List Fact→Prop
 |[],L,Γ=>K L Γ
 |i::ord,L,Γ=>∃o,ops[i]?=some o∧
   ((ig G i=false∧((D i=true∧Live D V ξ ord (fY o.dst (V i) L) Γ)∨
     (D i=false∧want ops L o=some false∧Live D V ξ ord (fY o.dst undef L) Γ)∨
     (D i=false∧want ops L o=some true∧∃v,o.op.operands.toList.all (known L)=true∧(∀w,Kp S.1 w0 w→fk ops i Γ w→bh P (bB L) o w (fun v' w'=>v'=v∧Kp [] w w'))∧Live D V ξ ord (fY o.dst v L) Γ)))∨
    (ig G i=true∧((D i=true∧Live D V ξ ord (fY o.dst ((bX G i).val (ξ i)) L) ((i,(bX G i).phi (ξ i))::Γ))∨
     (D i=false∧want ops L o=some true∧o.op.operands.toList.all (known L)=true∧
      (∀w,Kp S.1 w0 w→(i=S.2→Kp [] w0 w)→fk ops i Γ w→bh P (bB L) o w (fun v w'=>∃x,v=(bX G i).val x∧(bX G i).phi x w'∧Dp S w0 G i w w'))∧
      ∀x,Live D V ξ ord (fY o.dst ((bX G i).val x) L) ((i,(bX G i).phi x)::Γ))∨
     (D i=false∧want ops L o=some true∧o.op.operands.toList.all (known L)=true∧(∀p∈Γ,jG ops i p.1=true)∧∃x,
      (∀w,Kp S.1 w0 w→(i=S.2→Kp [] w0 w)→fk ops i Γ w→bh P (bB L) o w (fun v w'=>v=(bX G i).val x∧(bX G i).phi x w'∧Dp S w0 G i w w'))∧
      Live D V ξ ord (fY o.dst ((bX G i).val x) L) ((i,(bX G i).phi x)::Γ)))))
def bE:List Nat→Env→List Fact→Prop:=Live P S w0 ops G K (fun _=>false) (fun _=>undef) (fun i=>(bX G i).x0)
end
section
variable {P:Program} {n:Nat} {ops:List Oper} {Q:Exit→Act→World→Prop} {S:List Nat×Nat} {w0:World} {L0:Env} {G:List (Nat×GD)} {K:Env→List Fact→Prop}
theorem Live.congr{D D':Nat→Bool}{V V':Nat→Value}{ξ ξ':(i:Nat)→(bX G i).X}:∀{ord:List Nat} {L:Env} {Γ:List Fact},(∀i∈ord,D i=D' i∧V i=V' i∧ξ i=ξ' i)→Live P S w0 ops G K D V ξ ord L Γ→Live P S w0 ops G K D' V' ξ' ord L Γ
 |[],_,_,_,h=>h
 |i::ord,L,Γ,he,⟨o,ho,h⟩=>by
  obtain⟨e1,e2,e3⟩:=he i (by simp)
  have he':∀j∈ord,D j=D' j∧V j=V' j∧ξ j=ξ' j:=fun j hj=>he j (by simp[hj])
  refine⟨o,ho,?_⟩
  rcases h with⟨hg,h⟩|⟨hg,h⟩
  ·refine Or.inl ⟨hg,?_⟩
   rcases h with⟨hd,h⟩|⟨hd,hw,h⟩|⟨hd,hw,v,hk,hc,h⟩
   ·exact Or.inl ⟨by rw[←e1];exact hd,by rw[←e2];exact Live.congr he' h⟩
   ·exact Or.inr (Or.inl ⟨by rw[←e1];exact hd,hw,Live.congr he' h⟩)
   ·exact Or.inr (Or.inr ⟨by rw[←e1];exact hd,hw,v,hk,hc,Live.congr he' h⟩)
  ·refine Or.inr ⟨hg,?_⟩
   rcases h with⟨hd,h⟩|⟨hd,hw,hk,hc,h⟩|⟨hd,hw,hk,ha,x,hc,h⟩
   ·exact Or.inl ⟨by rw[←e1];exact hd,by rw[←e3];exact Live.congr he' h⟩
   ·exact Or.inr (Or.inl ⟨by rw[←e1];exact hd,hw,hk,hc,fun x=>Live.congr he' (h x)⟩)
   ·exact Or.inr (Or.inr ⟨by rw[←e1];exact hd,hw,hk,ha,x,hc,Live.congr he' h⟩)
def ij(G:List (Nat×GD))(V:Nat→Value)(ξ:(i:Nat)→(bX G i).X)(i:Nat):Value:=bif ig G i then(bX G i).val (ξ i) else V i
def Way(ops:List Oper)(G:List (Nat×GD))(L0:Env)(D:Nat→Bool)(V:Nat→Value)(ξ:(i:Nat)→(bX G i).X)(pre:List Nat)(L:Env):Prop:=
 ∀t v,look L t=some v→(∃j∈pre,da ops j=some t∧(D j=true→v=ij G V ξ j))∨((∀j∈pre,da ops j≠some t)∧look L0 t=some v)
theorem Way.nil{D:Nat→Bool}{V:Nat→Value}{ξ:(i:Nat)→(bX G i).X}:Way ops G L0 D V ξ [] L0:=fun t v h=>Or.inr ⟨by simp,h⟩
theorem Way.cons{D:Nat→Bool}{V:Nat→Value}{ξ:(i:Nat)→(bX G i).X}{pre:List Nat}{L:Env}{i:Nat}{o:Oper}{u:Value}(h:Way ops G L0 D V ξ pre L)(ho:ops[i]?=some o)(hu:D i=true→u=ij G V ξ i):Way ops G L0 D V ξ (i::pre) (fY o.dst u L):=by
 intro t v hv
 rw[nL] at hv
 have hdi:da ops i=o.dst:=by simp[da,ho]
 by_cases e:o.dst=some t
 ·rw[if_pos e] at hv
  cases hv
  exact Or.inl ⟨i,by simp,by rw[hdi,e],hu⟩
 ·rw[if_neg e] at hv
  rcases h t v hv with⟨j,hj,h1,h2⟩|⟨h1,h2⟩
  ·exact Or.inl ⟨j,by simp[hj],h1,h2⟩
  ·refine Or.inr ⟨fun j hj=>?_,h2⟩
   rcases List.mem_cons.1 hj with rfl|hj
   ·rw[hdi];exact e
   ·exact h1 j hj
def jH(V:Nat→Value)(i:Nat)(v:Value):Nat→Value:=fun j=>if j=i then v else V j
def mg(ξ:(i:Nat)→(bX G i).X)(i:Nat)(x:(bX G i).X):(j:Nat)→(bX G j).X:=fun j=>if h:j=i then h▸x else ξ j
theorem gv{ξ:(i:Nat)→(bX G i).X}{i:Nat}{x:(bX G i).X}:mg ξ i x i=x:=by simp[mg]
theorem me{ξ:(i:Nat)→(bX G i).X}{i j:Nat}{x:(bX G i).X}(h:j≠i):mg ξ i x j=ξ j:=by simp[mg,h]
theorem Live.plain{D:Nat→Bool}{V:Nat→Value}{ξ:(i:Nat)→(bX G i).X}{r:Nat}(hgr:ig G r=false)(hdr:D r=false){w:World}:∀{ord pre:List Nat} {L:Env} {Γ:List Fact},ord.Nodup→r∈ord→
  (∀g A B,ord=A++g::B→r∈B→ig G g=true→D g=true)→Way ops G L0 D V ξ pre L→(∀p∈Γ,D p.1=true→p.2 w)→(∀i,ig G i=true→D i=true→(bX G i).phi (ξ i) w)→Live P S w0 ops G K D V ξ ord L Γ→
  ∃o L' Γ' A B,ord=A++r::B∧ops[r]?=some o∧Way ops G L0 D V ξ (A.reverse++pre) L'∧(∀p∈Γ',D p.1=true→p.2 w)∧
   ((want ops L' o=some false∧Live P S w0 ops G K (eN D r) (jH V r undef) ξ ord L Γ)∨
    (want ops L' o=some true∧∃v,o.op.operands.toList.all (known L')=true∧(∀w,Kp S.1 w0 w→fk ops r Γ' w→bh P (bB L') o w (fun v' w'=>v'=v∧Kp [] w w'))∧Live P S w0 ops G K (eN D r) (jH V r v) ξ ord L Γ))
 |[],_,_,_,_,hm,_,_,_,_,_=>by cases hm
 |i::ord,pre,L,Γ,hn,hm,hgd,hway,hfa,hph,⟨o,ho,h⟩=>by
  have hn':=List.nodup_cons.1 hn
  by_cases hir:i=r
  ·subst hir
   have hsame:∀j∈ord,D j=eN D i j∧∀v,V j=jH V i v j:=fun j hj=>by
    have hne:j≠i:=fun e=>hn'.1 (e▸hj)
    exact⟨(bH hne).symm,fun v=>by simp[jH,hne]⟩
   refine⟨o,L,Γ,[],ord,rfl,ho,by simpa using hway,hfa,?_⟩
   rcases h with⟨hg,h⟩|⟨hg,h⟩
   ·rcases h with⟨hd,h⟩|⟨hd,hw,h⟩|⟨hd,hw,v,hk,hc,h⟩
    ·rw[hdr] at hd;cases hd
    ·refine Or.inl ⟨hw,o,ho,Or.inl ⟨hg,Or.inl ⟨cS,?_⟩⟩⟩
     have e:jH V i undef i=undef:=by simp[jH]
     rw[e]
     exact Live.congr (fun j hj=>⟨(hsame j hj).1,(hsame j hj).2 _,rfl⟩) h
    ·refine Or.inr ⟨hw,v,hk,hc,o,ho,Or.inl ⟨hg,Or.inl ⟨cS,?_⟩⟩⟩
     have e:jH V i v i=v:=by simp[jH]
     rw[e]
     exact Live.congr (fun j hj=>⟨(hsame j hj).1,(hsame j hj).2 _,rfl⟩) h
   ·rw[hgr] at hg;cases hg
  ·have hm':r∈ord:=by
    rcases List.mem_cons.1 hm with h|h
    ·exact absurd h.symm hir
    ·exact h
   have hgd':∀g A B,ord=A++g::B→r∈B→ig G g=true→D g=true:=fun g A B e hb=>hgd g (i::A) B (by rw[e];rfl) hb
   have key:∀{L1:Env} {Γ1:List Fact},Way ops G L0 D V ξ (i::pre) L1→(∀p∈Γ1,D p.1=true→p.2 w)→Live P S w0 ops G K D V ξ ord L1 Γ1→
     ∃o' L' Γ' A B,i::ord=A++r::B∧ops[r]?=some o'∧Way ops G L0 D V ξ (A.reverse++pre) L'∧(∀p∈Γ',D p.1=true→p.2 w)∧
      ((want ops L' o'=some false∧Live P S w0 ops G K (eN D r) (jH V r undef) ξ ord L1 Γ1)∨
       (want ops L' o'=some true∧∃v,o'.op.operands.toList.all (known L')=true∧(∀w,Kp S.1 w0 w→fk ops r Γ' w→bh P (bB L') o' w (fun v' w'=>v'=v∧Kp [] w w'))∧Live P S w0 ops G K (eN D r) (jH V r v) ξ ord L1 Γ1)):=by
    intro L1 Γ1 hw1 hf1 h1
    obtain⟨o',L',Γ',A,B,e1,e2,e3,e4,e5⟩:=Live.plain hgr hdr hn'.2 hm' hgd' hw1 hf1 hph h1
    exact⟨o',L',Γ',i::A,B,by rw[e1];rfl,e2,by simpa using e3,e4,e5⟩
   have eD:eN D r i=D i:=bH hir
   have eV:∀v,jH V r v i=V i:=fun v=>by simp[jH,hir]
   rcases h with⟨hg,h⟩|⟨hg,h⟩
   ·rcases h with⟨hd,h⟩|⟨hd,hw,h⟩|⟨hd,hw,v,hk,hc,h⟩
    ·obtain⟨o',L',Γ',A,B,e1,e2,e3,e4,e5⟩:=key (hway.cons ho (fun _=>by simp[ij,hg])) hfa h
     refine⟨o',L',Γ',A,B,e1,e2,e3,e4,?_⟩
     rcases e5 with⟨f1,f2⟩|⟨f1,v,f2,f3,f4⟩
     ·exact Or.inl ⟨f1,o,ho,Or.inl ⟨hg,Or.inl ⟨by rw[eD];exact hd,by rw[eV];exact f2⟩⟩⟩
     ·exact Or.inr ⟨f1,v,f2,f3,o,ho,Or.inl ⟨hg,Or.inl ⟨by rw[eD];exact hd,by rw[eV];exact f4⟩⟩⟩
    ·obtain⟨o',L',Γ',A,B,e1,e2,e3,e4,e5⟩:=key (hway.cons ho (fun hd'=>by rw[hd] at hd';cases hd')) hfa h
     refine⟨o',L',Γ',A,B,e1,e2,e3,e4,?_⟩
     rcases e5 with⟨f1,f2⟩|⟨f1,v,f2,f3,f4⟩
     ·exact Or.inl ⟨f1,o,ho,Or.inl ⟨hg,Or.inr (Or.inl ⟨by rw[eD];exact hd,hw,f2⟩)⟩⟩
     ·exact Or.inr ⟨f1,v,f2,f3,o,ho,Or.inl ⟨hg,Or.inr (Or.inl ⟨by rw[eD];exact hd,hw,f4⟩)⟩⟩
    ·obtain⟨o',L',Γ',A,B,e1,e2,e3,e4,e5⟩:=key (hway.cons ho (fun hd'=>by rw[hd] at hd';cases hd')) hfa h
     refine⟨o',L',Γ',A,B,e1,e2,e3,e4,?_⟩
     rcases e5 with⟨f1,f2⟩|⟨f1,v',f2,f3,f4⟩
     ·exact Or.inl ⟨f1,o,ho,Or.inl ⟨hg,Or.inr (Or.inr ⟨by rw[eD];exact hd,hw,v,hk,hc,f2⟩)⟩⟩
     ·exact Or.inr ⟨f1,v',f2,f3,o,ho,Or.inl ⟨hg,Or.inr (Or.inr ⟨by rw[eD];exact hd,hw,v,hk,hc,f4⟩)⟩⟩
   ·have hdi:D i=true:=hgd i [] ord rfl hm' hg
    rcases h with⟨hd,h⟩|⟨hd,_⟩|⟨hd,_⟩
    ·obtain⟨o',L',Γ',A,B,e1,e2,e3,e4,e5⟩:=key (hway.cons ho (fun _=>by simp[ij,hg])) (fun p hp hpd=>by
      rcases List.mem_cons.1 hp with rfl|hp
      ·exact hph i hg hd
      ·exact hfa p hp hpd) h
     refine⟨o',L',Γ',A,B,e1,e2,e3,e4,?_⟩
     rcases e5 with⟨f1,f2⟩|⟨f1,v,f2,f3,f4⟩
     ·exact Or.inl ⟨f1,o,ho,Or.inr ⟨hg,Or.inl ⟨by rw[eD];exact hd,f2⟩⟩⟩
     ·exact Or.inr ⟨f1,v,f2,f3,o,ho,Or.inr ⟨hg,Or.inl ⟨by rw[eD];exact hd,f4⟩⟩⟩
    ·rw[hdi] at hd;cases hd
    ·rw[hdi] at hd;cases hd
def yD(P:Program)(S:List Nat×Nat)(w0:World)(ops:List Oper)(G:List (Nat×GD))(K:Env→List Fact→Prop)(D:Nat→Bool)(V:Nat→Value)(ξ:(i:Nat)→(bX G i).X)(r:Nat)(o:Oper)(L':Env)(Γ':List Fact)(ord:List Nat)(L:Env)(Γ:List Fact):Prop:=
 ((∀w,Kp S.1 w0 w→(r=S.2→Kp [] w0 w)→fk ops r Γ' w→bh P (bB L') o w (fun v w'=>∃x,v=(bX G r).val x∧(bX G r).phi x w'∧Dp S w0 G r w w'))∧∀x,Live P S w0 ops G K (eN D r) V (mg ξ r x) ord L Γ)∨
 ((∀p∈Γ,D p.1=true)∧∃x,(∀w,Kp S.1 w0 w→(r=S.2→Kp [] w0 w)→fk ops r Γ' w→bh P (bB L') o w (fun v w'=>v=(bX G r).val x∧(bX G r).phi x w'∧Dp S w0 G r w w'))∧Live P S w0 ops G K (eN D r) V (mg ξ r x) ord L Γ)
theorem Live.effect{D:Nat→Bool}{V:Nat→Value}{ξ:(i:Nat)→(bX G i).X}{r:Nat}(hgr:ig G r=true)(hdr:D r=false)(hanc:∀j,jG ops r j=true→D j=true){w:World}(hph:∀i,ig G i=true→D i=true→(bX G i).phi (ξ i) w):∀{ord pre:List Nat} {L:Env} {Γ:List Fact},ord.Nodup→r∈ord→
  Way ops G L0 D V ξ pre L→(∀p∈Γ,D p.1=true→p.2 w)→Live P S w0 ops G K D V ξ ord L Γ→
  ∃o L' Γ' A B,ord=A++r::B∧ops[r]?=some o∧Way ops G L0 D V ξ (A.reverse++pre) L'∧(∀p∈Γ',D p.1=true→p.2 w)∧want ops L' o=some true∧o.op.operands.toList.all (known L')=true∧yD P S w0 ops G K D V ξ r o L' Γ' ord L Γ
 |[],_,_,_,_,hm,_,_,_=>by cases hm
 |i::ord,pre,L,Γ,hn,hm,hway,hfa,⟨o,ho,h⟩=>by
  have hn':=List.nodup_cons.1 hn
  by_cases hir:i=r
  ·subst hir
   have hcg:∀(x:(bX G i).X) {L1:Env} {Γ1:List Fact},Live P S w0 ops G K D V ξ ord L1 Γ1→Live P S w0 ops G K (eN D i) V (mg ξ i x) ord L1 Γ1:=fun x {L1 Γ1} h1=>Live.congr (fun j hj=>by
    have hne:j≠i:=fun e=>hn'.1 (e▸hj)
    exact⟨(bH hne).symm,rfl,(me hne).symm⟩) h1
   rcases h with⟨hg,h⟩|⟨hg,h⟩
   ·rw[hgr] at hg;cases hg
   ·rcases h with⟨hd,h⟩|⟨hd,hw,hk,hc,h⟩|⟨hd,hw,hk,ha,x,hc,h⟩
    ·rw[hdr] at hd;cases hd
    ·refine⟨o,L,Γ,[],ord,rfl,ho,by simpa using hway,hfa,hw,hk,Or.inl ⟨hc,fun x=>⟨o,ho,Or.inr ⟨hg,Or.inl ⟨cS,?_⟩⟩⟩⟩⟩
     rw[gv]
     exact hcg x (h x)
    ·refine⟨o,L,Γ,[],ord,rfl,ho,by simpa using hway,hfa,hw,hk,Or.inr ⟨fun p hp=>hanc p.1 (ha p hp),x,hc,⟨o,ho,Or.inr ⟨hg,Or.inl ⟨cS,?_⟩⟩⟩⟩⟩
     rw[gv]
     exact hcg x h
  ·have hm':r∈ord:=by
    rcases List.mem_cons.1 hm with h|h
    ·exact absurd h.symm hir
    ·exact h
   have eD:eN D r i=D i:=bH hir
   have eX:∀x,mg ξ r x i=ξ i:=fun x=>me hir
   have key:∀{L1:Env} {Γ1:List Fact},Way ops G L0 D V ξ (i::pre) L1→(∀p∈Γ1,D p.1=true→p.2 w)→Live P S w0 ops G K D V ξ ord L1 Γ1→
     ∃o L' Γ' A B,i::ord=A++r::B∧ops[r]?=some o∧Way ops G L0 D V ξ (A.reverse++pre) L'∧(∀p∈Γ',D p.1=true→p.2 w)∧want ops L' o=some true∧o.op.operands.toList.all (known L')=true∧yD P S w0 ops G K D V ξ r o L' Γ' ord L1 Γ1:=by
    intro L1 Γ1 hw1 hf1 h1
    obtain⟨o',L',Γ',A,B,e1,e2,e3,e4,e5,e6,e7⟩:=Live.effect hgr hdr hanc hph hn'.2 hm' hw1 hf1 h1
    exact⟨o',L',Γ',i::A,B,by rw[e1];rfl,e2,by simpa using e3,e4,e5,e6,e7⟩
   have up:∀{L1:Env} {Γ1:List Fact} {o':Oper} {L':Env} {Γ':List Fact},(∀p∈Γ,p∈Γ1)→(∀x,Live P S w0 ops G K (eN D r) V (mg ξ r x) ord L1 Γ1→Live P S w0 ops G K (eN D r) V (mg ξ r x) (i::ord) L Γ)→yD P S w0 ops G K D V ξ r o' L' Γ' ord L1 Γ1→yD P S w0 ops G K D V ξ r o' L' Γ' (i::ord) L Γ:=by
    intro L1 Γ1 o' L' Γ' hs hl he
    rcases he with⟨h1,h2⟩|⟨h1,x,h2,h3⟩
    ·exact Or.inl ⟨h1,fun x=>hl x (h2 x)⟩
    ·exact Or.inr ⟨fun p hp=>h1 p (hs p hp),x,h2,hl x h3⟩
   rcases h with⟨hg,h⟩|⟨hg,h⟩
   ·rcases h with⟨hd,h⟩|⟨hd,hw,h⟩|⟨hd,hw,v,hk,hc,h⟩
    ·obtain⟨o',L',Γ',A,B,e1,e2,e3,e4,e5,e6,e7⟩:=key (hway.cons ho (fun _=>by simp[ij,hg])) hfa h
     exact⟨o',L',Γ',A,B,e1,e2,e3,e4,e5,e6,up (fun p hp=>hp) (fun x hx=>⟨o,ho,Or.inl ⟨hg,Or.inl ⟨by rw[eD];exact hd,hx⟩⟩⟩) e7⟩
    ·obtain⟨o',L',Γ',A,B,e1,e2,e3,e4,e5,e6,e7⟩:=key (hway.cons ho (fun hd'=>by rw[hd] at hd';cases hd')) hfa h
     exact⟨o',L',Γ',A,B,e1,e2,e3,e4,e5,e6,up (fun p hp=>hp) (fun x hx=>⟨o,ho,Or.inl ⟨hg,Or.inr (Or.inl ⟨by rw[eD];exact hd,hw,hx⟩)⟩⟩) e7⟩
    ·obtain⟨o',L',Γ',A,B,e1,e2,e3,e4,e5,e6,e7⟩:=key (hway.cons ho (fun hd'=>by rw[hd] at hd';cases hd')) hfa h
     exact⟨o',L',Γ',A,B,e1,e2,e3,e4,e5,e6,up (fun p hp=>hp) (fun x hx=>⟨o,ho,Or.inl ⟨hg,Or.inr (Or.inr ⟨by rw[eD];exact hd,hw,v,hk,hc,hx⟩)⟩⟩) e7⟩
   ·rcases h with⟨hd,h⟩|⟨hd,hw,hk,hc,h⟩|⟨hd,hw,hk,ha,y,hc,h⟩
    ·obtain⟨o',L',Γ',A,B,e1,e2,e3,e4,e5,e6,e7⟩:=key (hway.cons ho (fun _=>by simp[ij,hg])) (fun p hp hpd=>by
      rcases List.mem_cons.1 hp with rfl|hp
      ·exact hph i hg hd
      ·exact hfa p hp hpd) h
     exact⟨o',L',Γ',A,B,e1,e2,e3,e4,e5,e6,up (fun p hp=>List.mem_cons_of_mem _ hp) (fun x hx=>⟨o,ho,Or.inr ⟨hg,Or.inl ⟨by rw[eD];exact hd,by rw[eX];exact hx⟩⟩⟩) e7⟩
    ·have hf:∀(y:(bX G i).X),∀p∈((i,(bX G i).phi y)::Γ:List Fact),D p.1=true→p.2 w:=fun y p hp hpd=>by
      rcases List.mem_cons.1 hp with rfl|hp
      ·simp only at hpd;rw[hd] at hpd;cases hpd
      ·exact hfa p hp hpd
     have all:∀y,∀x,Live P S w0 ops G K (eN D r) V (mg ξ r x) ord (fY o.dst ((bX G i).val y) L) ((i,(bX G i).phi y)::Γ):=fun y=>by
      obtain⟨o',L',Γ',A,B,e1,e2,e3,e4,e5,e6,e7⟩:=key (hway.cons ho (fun hd'=>by rw[hd] at hd';cases hd')) (hf y) (h y)
      rcases e7 with⟨_,h2⟩|⟨h1,_⟩
      ·exact h2
      ·have:=h1 _ List.mem_cons_self
       simp only at this
       rw[hd] at this
       cases this
     obtain⟨o',L',Γ',A,B,e1,e2,e3,e4,e5,e6,e7⟩:=key (hway.cons ho (fun hd'=>by rw[hd] at hd';cases hd')) (hf (bX G i).x0) (h (bX G i).x0)
     exact⟨o',L',Γ',A,B,e1,e2,e3,e4,e5,e6,up (fun p hp=>List.mem_cons_of_mem _ hp) (fun x _=>⟨o,ho,Or.inr ⟨hg,Or.inr (Or.inl ⟨by rw[eD];exact hd,hw,hk,hc,fun y=>all y x⟩)⟩⟩) e7⟩
    ·obtain⟨o',L',Γ',A,B,e1,e2,e3,e4,e5,e6,e7⟩:=key (hway.cons ho (fun hd'=>by rw[hd] at hd';cases hd')) (fun p hp hpd=>by
      rcases List.mem_cons.1 hp with rfl|hp
      ·simp only at hpd;rw[hd] at hpd;cases hpd
      ·exact hfa p hp hpd) h
     exact⟨o',L',Γ',A,B,e1,e2,e3,e4,e5,e6,up (fun p hp=>List.mem_cons_of_mem _ hp) (fun x hx=>⟨o,ho,Or.inr ⟨hg,Or.inr (Or.inr ⟨by rw[eD];exact hd,hw,hk,ha,y,hc,hx⟩)⟩⟩) e7⟩
theorem Live.done{D:Nat→Bool}{V:Nat→Value}{ξ:(i:Nat)→(bX G i).X}{w:World}(hph:∀i,ig G i=true→D i=true→(bX G i).phi (ξ i) w):∀{ord pre:List Nat} {L:Env} {Γ:List Fact},(∀i∈ord,D i=true)→Way ops G L0 D V ξ pre L→(∀p∈Γ,p.2 w)→Live P S w0 ops G K D V ξ ord L Γ→
  ∃L' Γ',Way ops G L0 D V ξ (ord.reverse++pre) L'∧(∀p∈Γ',p.2 w)∧K L' Γ'
 |[],pre,L,Γ,_,hway,hfa,h=>⟨L,Γ,by simpa using hway,hfa,h⟩
 |i::ord,pre,L,Γ,hall,hway,hfa,⟨o,ho,h⟩=>by
  have hdi:=hall i (by simp)
  have hall':∀j∈ord,D j=true:=fun j hj=>hall j (by simp[hj])
  rcases h with⟨hg,h⟩|⟨hg,h⟩
  ·rcases h with⟨hd,h⟩|⟨hd,_⟩|⟨hd,_⟩
   ·obtain⟨L',Γ',e1,e2,e3⟩:=Live.done hph hall' (hway.cons ho (fun _=>by simp[ij,hg])) hfa h
    exact⟨L',Γ',by simpa using e1,e2,e3⟩
   ·rw[hdi] at hd;cases hd
   ·rw[hdi] at hd;cases hd
  ·rcases h with⟨hd,h⟩|⟨hd,_⟩|⟨hd,_⟩
   ·obtain⟨L',Γ',e1,e2,e3⟩:=Live.done hph hall' (hway.cons ho (fun _=>by simp[ij,hg])) (fun p hp=>by
     rcases List.mem_cons.1 hp with rfl|hp
     ·exact hph i hg hd
     ·exact hfa p hp) h
    exact⟨L',Γ',by simpa using e1,e2,e3⟩
   ·rw[hdi] at hd;cases hd
   ·rw[hdi] at hd;cases hd
end
end
end Go.Proofs.YtpnjgjddabeapaaGreatDoor
