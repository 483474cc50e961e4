import Derived.Test.YtpnjgjddabeapaaGreatDoorMp1
namespace Go.Proofs.YtpnjgjddabeapaaGreatDoor
set_option linter.all false
set_option maxHeartbeats 400000000
open List Or Go.Proofs.Tryz
section
variable{b off:Nat}{i:TypeInfo}{w:World}
theorem Row.append{A B:List Value}(h:Row w b off A)(g:Row w b (off+A.length) B):Row w b off (A++B):=by
 obtain⟨e,T,f,c,j⟩:=h
 obtain⟨n,m,o,d,k⟩:=g
 rw[c] at d
 cases d
 refine⟨e,T,f,c,fun i v a=>?_⟩
 by_cases l:i<A.length
 ·rw[getElem?_append_left l] at a
  exact j i v a
 ·rw[getElem?_append_right (by omega)] at a
  have:=k _ v a
  rw[show off+A.length+(i-A.length)=off+i by omega] at this
  exact this
section
variable {α:Type} {enc:α->List Value} {sz:Nat}
theorem Sl.tail{x:α}{l:List α}(h:Sl enc sz w (some ⟨b,off,none⟩) (x::l)):Sl enc sz w (some ⟨b,off+sz,none⟩) l:=fun a y c=>by
 have:=h.row (i:=a+1) (x:=y) (by simpa using c)
 refine⟨b,off+sz,rfl,?_⟩
 rw[show off+sz+a*sz=off+(a+1)*sz by rw[Nat.add_mul];omega]
 exact this
theorem Sl.flat(c:∀a,(enc a).length=sz){w:World}{b:Nat}:∀{l:List α} {off:Nat},l≠[]->Sl enc sz w (some ⟨b,off,none⟩) l->Row w b off (bX enc l)
 |[],_,h,_=>absurd rfl h
 |[a],off,_,h=>by
  have:=h.row (i:=0) (x:=a) rfl
  simpa[bX] using this
 |a::y::l,off,_,h=>by
  have d:=h.row (i:=0) (x:=a) rfl
  have e:=Sl.flat c (by simp) h.tail
  have:bX enc (a::y::l)=enc a++bX enc (y::l):=by simp[bX]
  rw[this]
  refine Row.append (by simpa using d) ?_
  rw[c]
  exact e
variable {P:Program} {w:World}
theorem yz{t ty e:TypeId}[u:Ut P t (.slice e)][f:dJ P e i]{z:Value}(D:i.zero=some z)(R:z.cells.size=i.size)(N:0<i.size)(v:∀x,(enc x).length=i.size)(K:∀x,bI (enc x)=true)
  {a:Option Addr} {c:Nat} {l:List α} (C:Sl enc i.size w a l) {g m:Nat} (r:aG w g (.cells #[] e)) (I:m<=g) (G:l.length<=maxLen) (s:l.length*i.bytes<=140737488355328):
  ∃n h,(Builtin.append_ #[t,t] ty #[.slice (some ⟨g,0,none⟩) 0 0,.slice a l.length c]).run P w= .ok n h/\h.ownsRow m e i.size n l.length (bX enc l)/\Kp [] w h:=by
 have A:w.ownsRow m e i.size (.slice (some ⟨g,0,none⟩) 0 0) 0 []:=by
  refine⟨by simp,Or.inr ⟨g,0,#[],rfl,I,r,Nat.le_refl _,by simp[maxLen],by simp,by simp⟩⟩
 by_cases o:l=[]
 ·subst o
  refine⟨.slice (some ⟨g,0,none⟩) 0 0,w,?_,A,Kp.refl _ _⟩
  cases a<;>simp[Builtin.append_,run_underlying u.eq,sizeOf,typeInfo,f.eq,Builtin.lenOf,Builtin.firstCells,loadCells,loadCellsFrom,storeCells]
 ·have L:0<l.length:=length_pos_iff.2 o
  obtain⟨b,E,rfl,_⟩:=C.at L
  have B:=C.flat v o
  have y:(bX enc l).length=l.length*i.size:=cD v l
  obtain⟨n,h,k,q,S⟩:=gD (P:=P) (ty:=ty) (d:= .bool) (c:=c) (u:=u) (f:=f) D R N A y B (qE K l) (by omega) (by simpa using s) (by have:=r.lt;omega)
  have J:∀j p,(bX enc l)[j]?=some p->w.cell? ((⟨b,E,none⟩:Addr).add j)=some p:=fun j p O=>by rw[dQ];exact B.cell O
  have T:l.length<=9223372036854775807:=by simp only[maxLen] at G;omega
  have M:=run_append_grow (P:=P) w t ty e i z u.eq f.eq D ⟨g,0,none⟩ 0 0 [] (by simp) (by simp) ⟨b,E,none⟩ l.length c (bX enc l) y J (by omega) (by omega) (growslice_fits (by omega) (by simpa using s))
  have F:=k
  rw[M] at k
  simp only[Result.ok.injEq] at k
  obtain⟨U,Q⟩:=k
  have H:Kp [] w h:=by rw[<-Q];exact Kp.alloc_drew w _ rfl
  simp only[Nat.zero_add,nil_append] at q
  exact⟨n,h,F,q,H⟩
def gE(m:Nat)(E:TypeId):GD:=⟨Nat,0,fun b=> .slice (some ⟨b,0,none⟩) 0 0,fun b w=>m<=b/\aG w b (.cells #[] E)⟩
theorem Bc{T E:TypeId}[u:Ut P T (.slice E)][f:dJ P E i]:(Instr.buildSlice T 0 #[]).run P w= .ok (.slice (some ⟨w.heap.size,0,none⟩) 0 0) {w with heap:=w.heap.push (.cells #[] E)}:=by
 simp[Instr.buildSlice,run_underlying u.eq,sizeOf,typeInfo,f.eq,Instr.fill,newRow,newObj,Sem.run,Result.andThen]
 congr 2
 exact Array.eq_empty_of_size_eq_zero (by simp)
variable {n:Nat} {ops:List Oper} {Q:Exit->Act->World->Prop} {S:List Nat×Nat} {w0:World} {L:Env} {G:List (Nat×GD)} {K:Env->List Fact->Prop} {Γ:List Fact} {j:Nat} {ord:List Nat} {ty:TypeId} {pos:String} {af:Array Edge} {g:Option (Nat×Bool)}
end
end
section
variable{E:TypeId}{w:World}
section
variable {α:Type} {enc:α->List Value} {sz:Nat} {P:Program}
def kr(P:Program)(E:TypeId)(enc:α->List Value)(sz:Nat)(f:FuncId)(args:Array Value)(w:World)(l:List α):Prop:=Calls P f args w (fun e w'=>∃v,e= .returned v/\w'.ownsRow w.heap.size E sz v l.length (bX enc l)/\Kp [] w w')
theorem c9{base b:Nat}{v:Value}{n:Nat}{xs:List Value}(h:w.ownsRow base E sz v n xs)(k:b<=base):w.ownsRow b E sz v n xs:=by
 obtain⟨e,a⟩:=h
 refine⟨e,?_⟩
 rcases a with a|⟨g,c,d,f,i,j⟩
 ·exact Or.inl a
 ·exact Or.inr ⟨g,c,d,f,Nat.le_trans k i,j⟩
theorem kr.HZ{f:FuncId}{args:Array Value}{l:List α}(k:∀x,(enc x).length=sz)(h:kr P E enc sz f args w l):Hn P enc sz f args w l:=
 h.mono (fun e m ⟨v,g,i,j⟩=>by
  obtain⟨a,c,b,d⟩:=sr.own k i rfl
  exact⟨a,c,by rw[g,b],d,j⟩)
def gO(m:Nat)(E:TypeId)(enc:α->List Value)(sz:Nat)(l:List α):GD:=⟨Value,undef,fun v=>v,fun v w=>w.ownsRow m E sz v l.length (bX enc l)⟩
variable {n:Nat} {ops:List Oper} {Q:Exit->Act->World->Prop} {S:List Nat×Nat} {w0:World} {L:Env} {G:List (Nat×GD)} {K:Env->List Fact->Prop} {Γ:List Fact} {i:Nat} {ord:List Nat} {ty:TypeId} {pos:String} {af:Array Edge} {g:Option (Nat×Bool)}
end
end
section
section
variable {P:Program} {L:Env} {ty:TypeId} {pos:String} {af:Array Edge} {g:Option (Nat×Bool)} {S:List Nat} {w0:World} {ops:List Oper} {gh:List Nat} {K:Env->(World->Prop)->(World->Prop)->Prop} {i:Nat} {ord:List Nat} {F R:World->Prop}
theorem aM.uP{X:Type}{d:Nat}{f:FuncId}[bU P f]{args:List Operand}{vs:List Value}{h:Array TypeId}(val:X->Value)(a b:X->World->Prop)
  (A:ops[i]?=some ⟨some d,.call ⟨.value (.func f),args.toArray,h⟩,ty,pos,af,g⟩) (B:want ops L ⟨some d,.call ⟨.value (.func f),args.toArray,h⟩,ty,pos,af,g⟩=some true) (y:gh.elem i=true) (z:(Op.call ⟨.value (.func f),args.toArray,h⟩).operands.toList.all (known L)=true)
  (v:bg L args vs) (q:∀x,cH S (a x)) (s:∀x,cH [] (b x)) (r:cH S F) (t:∀w,Kp S w0 w->F w->R w->Calls P f vs.toArray w (fun e c=>∃x,e= .returned (val x)/\a x c/\b x c/\Kp S w c))
  (u:∀x,aM P S w0 ops gh K ord ((d,val x)::L) (fun w=>F w/\a x w) (b x)):aM P S w0 ops gh K (i::ord) L F R:=
 aM.ghost val a b A B y z q s r (fun w n o p=>fR (by rw[v.arr];exact(t w n o p).mono (fun e c ⟨x,j,k,l,m⟩=>⟨val x,j,x,rfl,k,l,m⟩))) u
end
end
section
variable{c d m:Nat}{x:Operand}{a:Option Addr}{E T k:TypeId}
abbrev Se:={z:Int// -9223372036854775808<=z/\z<=9223372036854775807}
@[reducible] def iv (z:Se):Value:= .int .i64 z.1
theorem IE{a b:Se}(h:iv a=iv b):a=b:=by
 apply Subtype.ext
 simpa using h
theorem wf_i64(z:Se):(Lit.int .i64 z.1).wf=true:=by
 have:=z.2
 simp[Lit.wf,IntKind.min,IntKind.max,IntKind.signed,IntKind.bits]
 omega
theorem GH{P:Program}(hu:P.underlying k=some (.int .i64)):da P k iv:=
 ⟨Maps.int_keyed hu,fun z=>⟨.int .i64 z.1,by simp[keyOf,hu,mapKey,wf_i64]⟩,fun a b h=>IE h⟩
instance{P:Program}{k:TypeId}[u:Ut P k (.int .i64)]:zQ P k iv:=⟨GH u.eq⟩
section
variable {κ ν:Type} {enc:κ->Value} {V:ν->Value} {m:List (κ×ν)} {w w':World} {b:Nat} {P:Program} {k T E:TypeId}
theorem yy[DecidableEq κ][u:Ut P T (.map k E)](h:aF w b enc V m)(K:da P k enc)(x:κ)(ty:TypeId):
  ∃t,(Builtin.delete_ #[T,k] ty #[.map (some b),enc x]).run P w= .ok (.tuple #[]) {w with heap:=w.heap.setIfInBounds b t}/\aF {w with heap:=w.heap.setIfInBounds b t} b enc V (m.filter (fun p=>decide (p.1≠x)))/\Kp [b] w {w with heap:=w.heap.setIfInBounds b t}:=by
 obtain⟨a,c,d,C,i,G⟩:=h.keys K
 obtain⟨l,n⟩:=K.key x
 have g:w.heap[b]?=some (.map a c):=d
 have z:a.toList.map (·.key)=m.map (fun p=>enc p.1):=by
  have:=congrArg (List.map Prod.fst) i
  simpa[Function.comp_def] using this
 rcases K.law.find w n a.toList G with⟨h1,h2⟩|⟨j,e0,h1,h2,h3⟩
 ·refine⟨.map a c,?_,⟨a,c,d.set _,C,?_⟩,Kp.set w d rfl rfl⟩
  ·simp[Builtin.delete_,run_underlying u.eq,MapKept.run_getObj_map g,K.law.check w _ n,h1,MapKept.run_setObj_map _ g,Result.andThen]
  ·rw[filter_eq_self.2]
   ·exact i
   ·intro p f
    simp only[decide_eq_true_eq]
    intro e
    have:enc p.1∈a.toList.map (·.key):=by rw[z];exact mem_map.2 ⟨p,f,rfl⟩
    obtain⟨q,I,J⟩:=mem_map.1 this
    exact h2 q I (by rw[J,e])
 ·have M:j<a.toList.length:=(List.getElem?_eq_some_iff.1 h2).1
  have r:=(MapKept.stamped_iff a c).1 C
  have N:m.length=a.toList.length:=by
   have:=congrArg length i
   simpa using this.symm
  have y:j<m.length:=by omega
  have H:enc m[j].1=enc x:=by
   have:=congrArg (fun l=>l[j]?) z
   simp only[getElem?_map,h2,Option.map_some,getElem?_eq_getElem y,Option.some.injEq] at this
   rw[<-this,h3]
  have o:m[j].1=x:=K.inj _ _ H
  have F:m.filter (fun p=>decide (p.1≠x))=m.eraseIdx j:=by
   have A:=h.nodup
   have B:m=m.take j++(m[j]::m.drop (j+1)):=by rw[<-drop_eq_getElem_cons y,take_append_drop]
   rw[eraseIdx_eq_take_drop_succ]
   conv=>lhs;rw[B]
   rw[B,map_append,map_cons] at A
   have v:=nodup_append.1 A
   have D:=nodup_cons.1 v.2.1
   rw[filter_append,filter_cons]
   rw[if_neg (by simp[o])]
   congr 1
   ·rw[filter_eq_self]
    intro p f
    simp only[decide_eq_true_eq]
    intro e
    exact v.2.2 p.1 (mem_map.2 ⟨p,f,rfl⟩) m[j].1 (by simp) (by rw[e,o])
   ·rw[filter_eq_self]
    intro p f
    simp only[decide_eq_true_eq]
    intro e
    exact D.1 (by rw[o,<-e];exact mem_map.2 ⟨p,f,rfl⟩)
  refine⟨.map (a.eraseIdxIfInBounds j) c,?_,⟨a.eraseIdxIfInBounds j,c,d.set _,?_,?_⟩,Kp.set w d rfl rfl⟩
  ·simp[Builtin.delete_,run_underlying u.eq,MapKept.run_getObj_map g,K.law.check w _ n,h1,MapKept.run_setObj_map _ g,Result.andThen]
  ·rw[MapKept.stamped_iff]
   have s:(a.eraseIdxIfInBounds j).toList.Sublist a.toList:=by
    simp only[Array.toList_eraseIdxIfInBounds]
    exact eraseIdx_sublist _ _
   exact⟨fun x L=>r.1 x (s.subset L),r.2.1.sublist (s.map _),r.2.2.sublist s⟩
  ·rw[F,Array.toList_eraseIdxIfInBounds,ChangeMaps.map_eraseIdx,i,<-ChangeMaps.map_eraseIdx]
end
section
variable {P:Program} {n:Nat} {Q:Exit->Act->World->Prop} {L:Env} {w:World} {ops:List Oper} {rest:List Oper} {ty:TypeId} {pos:String} {af:Array Edge} {g:Option (Nat×Bool)}
theorem SG.delete{c e:Type}[DecidableEq c]{enc:c->Value}{V:e->Value}{m:List (c×e)}{b:Nat}[u:Ut P T (.map k E)][K:zQ P k enc]{a:Operand}{kx:c}
  (r:want ops L ⟨none,.call {callee:= .builtin .delete,args:= #[a,x],argTypes:= #[T,k]},ty,pos,af,g⟩=some true) (o:(known L a&&known L x)=true) (l:bH L a= .map (some b)) (s:bH L x=enc kx) (q:aF w b enc V m)
  (h:∀d,Kp [b] w d->aF d b enc V (m.filter (fun p=>decide (p.1≠kx)))->SG P n ops Q rest L d):SG P n ops Q (⟨none,.call {callee:= .builtin .delete,args:= #[a,x],argTypes:= #[T,k]},ty,pos,af,g⟩::rest) L w:=by
 refine SG.op rfl rfl r (by simpa[Op.operands,Call.operands] using o) ?_
 unfold bD
 obtain⟨t,f,i,j⟩:=yy (P:=P) (u:=u) q K.key kx ty
 have:(execOp (bH L) ⟨none,.call {callee:= .builtin .delete,args:= #[a,x],argTypes:= #[T,k]},ty,pos,af,g⟩).run P w= .ok (.value (.tuple #[])) {w with heap:=w.heap.setIfInBounds b t}:=by
  simp only[execOp,resolve,invoke,builtin,Sem.run_bind,Sem.run_pure,Result.andThen_ok,map_toArray,map_cons,map_nil,l,s,f]
 rw[this]
 exact h _ j i
theorem xD[u:Ut P T (.slice E)]:(Op.equal T (.slice a m c) (.slice none 0 0)).run P w= .ok a.isNone w:=rM (fun d=>by
 cases a<;>simp only[Op.equalIn,Sem.run_bind,run_underlying u.eq,Result.andThen,Sem.run_pure,Option.isNone])
theorem Lw{S:List Nat}{w0:World}{F:World->Prop}{d:Option Nat}{T':TypeId}[u:Ut P T (.slice E)](e:ro L x=some (.slice a m c)):aP P S w0 F L ⟨d,.binOp .eql T x (.const (.slice none 0 0)) T',ty,pos,af,g⟩ (.bool a.isNone):=fun w _ _=>by
 have b:bH L (.const (.slice none 0 0))= .slice none 0 0:=rfl
 simp[execOp,ag e,b,eqGuard,binOp,xD (u:=u)]
theorem SG.EK{o:Type}{enc:o->List Value}{t e:TypeId}{b:TypeInfo}[u:Ut P t (.slice e)][f:dJ P e b]{z:Value}{s:Operand}{j:Nat}{l:List o}(D:Nat.blt d n=true)
  (K:want ops L ⟨some d,.call {callee:= .builtin .append,args:= #[s,x],argTypes:= #[t,t]},ty,pos,af,g⟩=some true) (F:(known L s&&known L x)=true) (E:∀x,(enc x).length=b.size) (H:∀x,bI (enc x)=true)
  (I:bH L s= .slice (some ⟨j,0,none⟩) 0 0) (M:bH L x= .slice a l.length c) (N:b.zero=some z) (O:Nat.beq z.cells.size b.size=true) (J:Nat.blt 0 b.size=true) (y:l.length<=maxLen) (B:l.length*b.bytes<=140737488355328) (G:m<=j)
  (C:Sl enc b.size w a l) (A:aG w j (.cells #[] e))
  (h:∀v i,Kp [] w i->i.ownsRow m e b.size v l.length (bX enc l)->SG P n ops Q rest ((d,v)::L) i):SG P n ops Q (⟨some d,.call {callee:= .builtin .append,args:= #[s,x],argTypes:= #[t,t]},ty,pos,af,g⟩::rest) L w:=by
 refine SG.op (by simpa using D) rfl K (by simpa[Op.operands,Call.operands] using F) ?_
 obtain⟨k,i,p,q,r⟩:=yz (P:=P) (ty:=ty) (c:=c) (u:=u) (f:=f) N (Nat.eq_of_beq_eq_true O) (by simpa[Nat.blt_eq] using J) E H C A G y B
 unfold bD
 have:(execOp (bH L) ⟨some d,.call {callee:= .builtin .append,args:= #[s,x],argTypes:= #[t,t]},ty,pos,af,g⟩).run P w= .ok (.value k) i:=by
  simp only[execOp,resolve,invoke,builtin,Sem.run_bind,Sem.run_pure,Result.andThen_ok,map_toArray,map_cons,map_nil,I,M,p]
 rw[this]
 exact h k i r q
theorem SG.empty{i:TypeInfo}[u:Ut P T (.slice E)][f:dJ P E i](c:Nat.blt d n=true)(e:want ops L ⟨some d,.buildSlice T 0 #[],ty,pos,af,g⟩=some true)
  (h:∀b a,Kp [] w a->w.heap.size<=b->aG a b (.cells #[] E)->SG P n ops Q rest ((d,.slice (some ⟨b,0,none⟩) 0 0)::L) a):SG P n ops Q (⟨some d,.buildSlice T 0 #[],ty,pos,af,g⟩::rest) L w:=by
 refine SG.op (by simpa using c) rfl e (by simp[Op.operands]) ?_
 unfold bD
 have:(execOp (bH L) ⟨some d,.buildSlice T 0 #[],ty,pos,af,g⟩).run P w= .ok (.value (.slice (some ⟨w.heap.size,0,none⟩) 0 0)) {w with heap:=w.heap.push (.cells #[] E)}:=by
  simp only[execOp,map_toArray,map_nil,Sem.run_bind,Bc (u:=u) (f:=f),Result.andThen,Sem.run_pure]
 rw[this]
 exact h _ _ (Kp.push w _ rfl) (Nat.le_refl _) (aG.push w _)
end
end
section
variable{news xs:List Value}{b base c d m off:Nat}{e t:TypeId}{i:TypeInfo}{v z:Value}
section
variable {P:Program} {w w':World}
theorem kl{ty:TypeId}[u:Ut P t (.slice e)][f:dJ P e i](y:i.zero=some z)
  {A:Value} {n:Nat}  (q:w.ownsRow base e i.size v n xs)   (k:news.length=m*i.size) (K:Row w b off news) (C:bI news=true)
  (E:n+m<=maxLen) (s:(n+m)*i.bytes<=140737488355328) (d:(Builtin.append_ #[t,t] ty #[v,.slice (some ⟨b,off,none⟩) m c]).run P w= .ok A w'):
  ∀a,A.ownBlock=some a->v.ownBlock=some a\/a=w.heap.size:=by
 have p:∀j u,news[j]?=some u->w.cell? ((⟨b,off,none⟩:Addr).add j)=some u:=fun j u r=>by rw[dQ];exact K.cell r
 have D:∀u∈news,u.oneCell'=true:=fun u r=>by rw[qu];exact all_eq_true.1 C u r
 have L:n+m<=9223372036854775807:=by simp only[maxLen] at E;omega
 rcases q.2 with⟨rfl,rfl⟩|⟨a,cap,cur,rfl,hbg,h,hnc,hcm,hcs,htake⟩
 ·by_cases H:m=0
  ·subst H
   have I:news=[]:=eq_nil_of_length_eq_zero (by simpa using k)
   subst I
   have:(Builtin.append_ #[t,t] ty #[.slice none 0 0,.slice (some ⟨b,off,none⟩) 0 c]).run P w= .ok (.slice none 0 0) w:=by
    simp[Builtin.append_,run_underlying u.eq,sizeOf,typeInfo,f.eq,Builtin.lenOf,Builtin.firstCells,loadCells,loadCellsFrom]
   rw[this] at d
   cases d
   intro a h
   exact Or.inl h
  ·have l:=run_append_nil (P:=P) w t ty e i z u.eq f.eq y ⟨b,off,none⟩ m c news k p (by omega) (by omega) (by have F:=s;simp only[Nat.zero_add] at F;omega)
   rw[l] at d
   cases d
   intro a h
   simp only[Value.ownBlock,Option.some.injEq] at h
   exact Or.inr h.symm
 ·by_cases x:n+m<=cap
  ·have G:n*i.size+news.length<=cur.size:=by rw[k,hcs,<-Nat.add_mul];exact Nat.mul_le_mul_right _ x
   have l:=run_append_room (P:=P) w t ty e i u.eq f.eq a n cap cur h ⟨b,off,none⟩ m c news k p D x G
   rw[l] at d
   cases d
   intro B o
   exact Or.inl o
  ·have J:∀j u,xs[j]?=some u->w.cell? ((⟨a,0,none⟩:Addr).add j)=some u:=q.cells (g:=a) rfl
   have l:=run_append_grow (P:=P) w t ty e i z u.eq f.eq y ⟨a,0,none⟩ n cap xs q.1 J ⟨b,off,none⟩ m c news k p (by omega) (by omega) (growslice_fits (by omega) s)
   rw[l] at d
   cases d
   intro B o
   simp only[Value.ownBlock,Option.some.injEq] at o
   exact Or.inr o.symm
variable {L:Env} {ty:TypeId} {pos:String} {af:Array Edge} {g:Option (Nat×Bool)} {S:List Nat} {w0:World} {ops:List Oper} {gh:List Nat} {K:Env->(World->Prop)->(World->Prop)->Prop} {j:Nat} {ord:List Nat} {F:World->Prop}
theorem aM.mv[u:Ut P t (.slice e)][f:dJ P e i]{s x:Operand}{nn:Nat}
  (N:ops[j]?=some ⟨some d,.call {callee:= .builtin .append,args:= #[s,x],argTypes:= #[t,t]},ty,pos,af,g⟩) (T:want ops L ⟨some d,.call {callee:= .builtin .append,args:= #[s,x],argTypes:= #[t,t]},ty,pos,af,g⟩=some true) (k:gh.elem j=true) (l:(known L s&&known L x)=true)
  (Q:bH L s=v) (V:bH L x= .slice (some ⟨b,off,none⟩) m c) (C:i.zero=some z) (W:Nat.beq z.cells.size i.size=true) (R:Nat.blt 0 i.size=true) (O:∀w,Kp S w0 w->F w->Row w b off news) (y:news.length=m*i.size) (o:bI news=true)
  (q:nn+m<=maxLen) (r:(nn+m)*i.bytes<=140737488355328) (M:base<=w0.heap.size) (I:∀b∈aR v,b∈S) (H:cH S F)
  (h:∀a,aM P S w0 ops gh K ord ((d,a)::L) (fun w=>F w/\∀g,a.ownBlock=some g->v.ownBlock=some g\/w0.heap.size<=g) (fun w=>w.ownsRow base e i.size a (nn+m) (xs++news))):
  aM P S w0 ops gh K (j::ord) L F (fun w=>w.ownsRow base e i.size v nn xs):=by
 refine aM.ghost (X:=Value) (fun a=>a) (fun a _=>∀g,a.ownBlock=some g->v.ownBlock=some g\/w0.heap.size<=g) (fun a w=>w.ownsRow base e i.size a (nn+m) (xs++news)) N T k (by simpa[Op.operands,Call.operands] using l) (fun _ _ _ _ h=>h) (fun a w w' l h=>aV h l) H (fun w n G A=>?_) h
 have B:=O w n G
 have J:base<=w.heap.size:=Nat.le_trans M n.size
 obtain⟨a,w',p,D,E⟩:=gD (P:=P) (ty:=ty) (d:= .bool) (c:=c) (u:=u) (f:=f) C (Nat.eq_of_beq_eq_true W) (by simpa[Nat.blt_eq] using R) A y B o q r J
 have U:=kl (P:=P) (ty:=ty) (c:=c) (u:=u) (f:=f) C A y B o q r p
 unfold bD
 have:(execOp (bH L) ⟨some d,.call {callee:= .builtin .append,args:= #[s,x],argTypes:= #[t,t]},ty,pos,af,g⟩).run P w= .ok (.value a) w':=by
  simp only[execOp,resolve,invoke,builtin,Sem.run_bind,Sem.run_pure,Result.andThen_ok,map_toArray,map_cons,map_nil,Q,V,p]
 rw[this]
 refine⟨a,rfl,fun g k=>?_,D,E.mono I⟩
 rcases U g k with h|h
 ·exact Or.inl h
 ·exact Or.inr (by rw[h];exact n.size)
theorem aM.lP{R:World->Prop}{T E:TypeId}{c:List (Nat×Operand)}{vs:List (Nat×Value)}{cs:Array Value}
  (s:ops[j]?=some ⟨some d,.buildSlice T b c.toArray,ty,pos,af,g⟩) (u:want ops L ⟨some d,.buildSlice T b c.toArray,ty,pos,af,g⟩=some true) (o:gh.elem j=true) (f:(Op.buildSlice T b c.toArray).operands.toList.all (known L)=true)
  (n:(c.map fun p=>(p.1,bH L p.2))=vs) (t:∀w:World,(Instr.buildSlice T b vs.toArray).run P w= .ok (.slice (some ⟨w.heap.size,0,none⟩) b b) {w with heap:=w.heap.push (.cells cs E)}) (m:∀z∈S,z<w0.heap.size) (k:cH S F) (i:cH [] R)
  (h:∀a,aM P S w0 ops gh K ord ((d,.slice (some ⟨a,0,none⟩) b b)::L) (fun w=>F w/\(w0.heap.size<=a/\aG w a (.cells cs E))) R):aM P S w0 ops gh K (j::ord) L F R:=by
 refine aM.ghost (X:=Nat) (fun a=> .slice (some ⟨a,0,none⟩) b b) (fun a w=>w0.heap.size<=a/\aG w a (.cells cs E)) (fun _=>R) s u o f (fun a w w' f h=>⟨h.1,h.2.kp f (fun r=>by have:=m _ r;omega)⟩) (fun _=>i) k (fun w q v l=>?_) h
 unfold bD
 have e:(c.toArray.map fun(p:Nat×Operand)=>(p.1,bH L p.2))=vs.toArray:=by simp[n]
 have:(execOp (bH L) ⟨some d,.buildSlice T b c.toArray,ty,pos,af,g⟩).run P w= .ok (.value (.slice (some ⟨w.heap.size,0,none⟩) b b)) {w with heap:=w.heap.push (.cells cs E)}:=by
  simp only[execOp,e,Sem.run_bind,t w,Result.andThen,Sem.run_pure]
 rw[this]
 exact⟨w.heap.size,rfl,⟨q.size,aG.push w _⟩,i _ _ (Kp.push w _ rfl) l,(Kp.push w _ rfl).any⟩
end
end
section
variable{k:IntKind}{b j n off sz:Nat}{x y:Operand}{E T:TypeId}
section
variable {P:Program} {S:List Nat} {w0:World} {F:World->Prop} {L:Env} {d:Option Nat} {ty:TypeId} {pos:String} {af:Array Edge} {g:Option (Nat×Bool)}
theorem FJ[u:Ut P T (.array n E)][f:Sz P E sz](h:bH L x= .pointer (some ⟨b,off,none⟩))(l:bH L y= .int k (j:Int))(a:j<n):
  aP P S w0 F L ⟨d,.indexAddr T x y,ty,pos,af,g⟩ (.pointer (some ⟨b,off+j*sz,none⟩)):=fun w _ _=>by
 obtain⟨i,c,e⟩:=f.eq
 have m:(j:Int)<n:=by omega
 subst e
 simp[execOp,h,l,Instr.indexAt,asIntOf,run_underlying u.eq,sizeOf,typeInfo,Instr.sureAddr,c,a,dQ]
theorem Ga[u:Ut P T (.array n E)][f:Sz P E sz]{z:Int}(c:ro L x=some (.pointer (some ⟨b,off,none⟩)))(e:ro L y=some (.int k z))(i:z=(j:Int))(a:Ar (j<n)):
  aP P S w0 F L ⟨d,.indexAddr T x y,ty,pos,af,g⟩ (.pointer (some ⟨b,off+j*sz,none⟩)):=FJ (u:=u) (f:=f) (ag c) (by rw[ag e,i]) a.h
end
end
section
variable{s:Hs}{b:Nat}{T:TypeId}{w:World}
open Go.Proofs
theorem ur{P:Program}{S:List Nat}{w0:World}{F:World->Prop}{L:Env}{d:Option Nat}{ty:TypeId}{pos:String}{af:Array Edge}{g:Option (Nat×Bool)}{E:TypeId}{n:Nat}[u:Ut P T (.array n E)]{sz:Nat}[f:Sz P E sz]{x:Operand}{off:Nat}{k:IntKind}{z:Int}(c:ro L x=some (.pointer (some ⟨b,off,none⟩)))(a:Ar (0<=z/\z<n)):
  aP P S w0 F L ⟨d,.indexAddr T x (.const (.int k z)),ty,pos,af,g⟩ (.pointer (some ⟨b,off+z.toNat*sz,none⟩)):=Ga (u:=u) (f:=f) (k:=k) (z:=z) c rfl (Int.toNat_of_nonneg a.h.1).symm ⟨by have:=a.h;omega⟩
def j6(s:Hs):List Value:=[.int .u64 s.a,.int .u64 s.b,.int .u64 s.c,.int .u64 s.d]
theorem uI(h:aG w b (.cells (j6 s).toArray T)):Row w b 0 [.int .u64 s.a]/\Row w b 1 [.int .u64 s.b]/\Row w b 2 [.int .u64 s.c]/\Row w b 3 [.int .u64 s.d]/\Row w b 0 (j6 s):=
 ⟨Row.of h [] [.int .u64 s.b,.int .u64 s.c,.int .u64 s.d] rfl rfl,Row.of h [.int .u64 s.a] [.int .u64 s.c,.int .u64 s.d] rfl rfl,Row.of h [.int .u64 s.a,.int .u64 s.b] [.int .u64 s.d] rfl rfl,Row.of h [.int .u64 s.a,.int .u64 s.b,.int .u64 s.c] [] rfl rfl,Row.all h rfl⟩
theorem Th(w:World)(a b c e:Int):(Instr.build 202 #[(0,.int .u64 a),(1,.int .u64 b),(2,.int .u64 c),(3,.int .u64 e)]).run prog w= .ok (.agg (j6 ⟨a,b,c,e⟩).toArray) w:=by kernel_rfl
attribute [local irreducible] CG NG SG aP aM Row aG aF aQ mH iZ xY rZ mA nc
theorem nP(w:World)(x k:Int)(h:rZ (IntKind.wrap .u64 k) 63=k)(a:0<=k/\k<=64):dq prog 187 #[.int .u64 x,.int .i64 k] w (.int .u64 (uq x k)):=by
 refine bN func187 rfl ntmps187 rfl ?_
 repeat (first|apply ar|(apply au;rfl;(first|apply F7|apply Qm|apply F6|apply Ic|apply Qk|apply aB|apply aE|apply xX)<;>first|rfl|exact zc))
 rw[h]
 skip
 refine aO (Or.inl rfl) results187 (aD.tmp rfl) ?_
 exact⟨rfl,Kp.refl _ _⟩
theorem Kc(w:World)(x:Int):dq prog 187 #[.int .u64 x,.int .i64 32] w (.int .u64 (uq x 32)):=nP w x 32 (by decide+kernel) (by omega)
theorem Kd(w:World)(x:Int):dq prog 187 #[.int .u64 x,.int .i64 24] w (.int .u64 (uq x 24)):=nP w x 24 (by decide+kernel) (by omega)
theorem Ke(w:World)(x:Int):dq prog 187 #[.int .u64 x,.int .i64 16] w (.int .u64 (uq x 16)):=nP w x 16 (by decide+kernel) (by omega)
theorem Kb(w:World)(x:Int):dq prog 187 #[.int .u64 x,.int .i64 63] w (.int .u64 (uq x 63)):=nP w x 63 (by decide+kernel) (by omega)
theorem zO{k:Nat}(h:k<1000):mH (k:Int) 1=((k+1:Nat):Int):=by
 unfold mH
 have e:(k:Int)+1=((k+1:Nat):Int):=by omega
 rw[e]
 exact mV (by omega)
theorem ul{P n o Q r L w d b t p f g v}(c:SG P n o Q r ((d,v)::L) w)(a:(Nat.blt d n&&(!fm b&&(want o L ⟨some d,b,t,p,f,g⟩==some true&&b.operands.toList.all (known L))))=true:=by rfl)(e:aP P [] w (fun _=>True) L ⟨some d,b,t,p,f,g⟩ v:=by apply cg<;>first|rfl|exact qf):SG P n o Q (⟨some d,b,t,p,f,g⟩::r) L w:=au a e c
theorem un{P n o Q r L w d b t p f g v}(c:SG P n o Q r ((d,v)::L) w)(a:(Nat.blt d n&&(!fm b&&(want o L ⟨some d,b,t,p,f,g⟩==some true&&b.operands.toList.all (known L))))=true:=by rfl)(e:aP P [] w (fun _=>True) L ⟨some d,b,t,p,f,g⟩ v:=by apply cg<;>first|rfl|exact qr):SG P n o Q (⟨some d,b,t,p,f,g⟩::r) L w:=au a e c
theorem qa0{P n o Q r L w d b t p f g v}(c:SG P n o Q r ((d,v)::L) w)(a:(Nat.blt d n&&(!fm b&&(want o L ⟨some d,b,t,p,f,g⟩==some true&&b.operands.toList.all (known L))))=true:=by rfl)(e:aP P [] w (fun _=>True) L ⟨some d,b,t,p,f,g⟩ v:=by apply aB<;>rfl):SG P n o Q (⟨some d,b,t,p,f,g⟩::r) L w:=au a e c
theorem A6(j:aG w b (.cells (j6 s).toArray 202)):Calls prog 166 #[.pointer (some ⟨b,0,none⟩)] w (fun e f=>e= .returned (.tuple #[])/\Kp [b] w f/\aG f b (.cells (j6 (Hu s)).toArray 202)):=by
 refine bC func166 rfl ntmps166 rfl ?_
 obtain⟨E,F,G,H,_⟩:=uI j
 apply CG.seq
 refine CG.fh mixed [0,1,2,3,4,5,6,7,8,9,10,11,12,13,14,15,16,17,18,19] [] (by kernel_rfl) ?_
 repeat (apply bW;rfl;rfl;(first|apply ur|apply aB|apply aE|apply aZ|apply bR)<;>first|rfl|assumption|exact zc|exact wn)
 refine aM.fin (fun y m _ _=>?_)
 repeat (first|apply ar|refine qa0 ?_)
 refine CG.loop (X:=Nat) (fun i=>[(0,.pointer (some ⟨b,0,none⟩)),(2,.int .u64 (jW s i).a),(3,.int .u64 (jW s i).b),(4,.int .u64 (jW s i).c),(5,.int .u64 (jW s i).d),(23,.int .u64 (i:Int))])
  (fun i f=>i<=6/\Kp [] y f) (fun i=>6-i) 0 ⟨by omega,Kp.refl _ _⟩ (aS.of rfl) ?_
 rintro i z ⟨C,g⟩
 by_cases D:i<6
 ·have q:(i:Int)<6:=by omega
  have o:=zO (k:=i) (by omega)
  repeat (first|apply ar|refine ul ?_)
  refine bO rfl ?_
  repeat (first|apply ar|(apply au;rfl;(first|apply Dt|apply Bp|apply aB|apply aE)<;>rfl))
  refine SG.ret rfl rfl rfl (by repeat' (first|exact True.intro|exact ag rfl|refine And.intro ?_ ?_)) (Kc z _) (fun n h=>?_)
  repeat (first|apply ar|(apply au;rfl;(first|apply Dt|apply Bp|apply aB|apply aE)<;>rfl))
  refine SG.ret rfl rfl rfl (by repeat' (first|exact True.intro|exact ag rfl|refine And.intro ?_ ?_)) (Kd n _) (fun A u=>?_)
  repeat (first|apply ar|(apply au;rfl;(first|apply Dt|apply Bp|apply aB|apply aE)<;>rfl))
  refine SG.ret rfl rfl rfl (by repeat' (first|exact True.intro|exact ag rfl|refine And.intro ?_ ?_)) (Ke A _) (fun B v=>?_)
  repeat (first|apply ar|(apply au;rfl;(first|apply Dt|apply Bp|apply aB|apply aE)<;>rfl))
  refine SG.ret rfl rfl rfl (by repeat' (first|exact True.intro|exact ag rfl|refine And.intro ?_ ?_)) (Kb B _) (fun I x=>?_)
  repeat (first|apply ar|(apply au;rfl;(first|apply Dt|apply aB|apply aE)<;>rfl))
  rw[o]
  refine NG.round (i+1) (aS.of rfl) ⟨by omega,g.trans (h.trans (u.trans (v.trans x)))⟩ (by omega)
 ·have q:¬(i:Int)<6:=by omega
  have p:i=6:=by omega
  subst p
  repeat (first|apply ar|refine un ?_)
  refine bA rfl ?_
  repeat (first|apply ar|refine qa0 ?_)
  refine SG.val rfl rfl rfl rfl (aK rfl (fun w=>Th w _ _ _ _)) ?_
  repeat (apply au;rfl;apply bR<;>rfl)
  have r:=j.az (m.trans g)
  refine SG.aN (old:=j6 s) (l:=j6 (jW s 6)) rfl rfl (ag rfl) (ag rfl) r rfl rfl rfl (fun n h t=>?_)
  repeat apply ar
  refine oY (Or.inr rfl) results166 ?_
  exact⟨rfl,(m.trans g).any.trans h,t⟩
end
section
variable{s:Hs}{b i n:Nat}{w:World}
open Go.Proofs
theorem KQ(d:BA n)(h:i<n):(dc d)[i]?=some (bv (d.1[i]'(by rw[d.2];exact h))):=by
 simp only[dc,getElem?_map]
 rw[getElem?_eq_getElem (by rw[d.2];exact h)]
 rfl
theorem DL{d:Dg}(h:i<8):xY (val (d.1.take i):Int) (mA (((d.1[i]'(by rw[d.2];exact h)).toNat:Nat):Int) (8*(i:Int)))=(val (d.1.take (i+1)):Int):=by
 have k:i<d.1.length:=by rw[d.2];exact h
 have j:(8*(i:Int))=((8*i:Nat):Int):=by omega
 have b:=CV k
 have c:val (d.1.take (i+1))<256^(i+1):=by
  have:=ug (d.1.take (i+1))
  have e:(d.1.take (i+1)).length=i+1:=by simp;omega
  rwa [e] at this
 have f:(256:Nat)^(i+1)<=256^8:=Nat.pow_le_pow_right (by omega) (by omega)
 have a:val (d.1.take (i+1))<18446744073709551616:=Nat.lt_of_lt_of_le c f
 have g:val (d.1.take i)<2^(8*i):=by
  have:=ug (d.1.take i)
  have e:(d.1.take i).length=i:=by simp;omega
  rw[e] at this
  rwa [Nat.pow_mul]
 rw[b] at a
 rw[j,vP (Nat.lt_of_le_of_lt (Nat.le_add_left _ _) a) (by omega),Am g a,b]
def zd:Dg:=⟨[0,0,0,0,0,0,0,0],rfl⟩
def part(n i:Nat):List Value:=(EX n i).map bv++replicate (8-i) (bv 0)
theorem DE(n:Nat):part n 8=dc (frm n):=by simp[part,dc,frm]
theorem vZ(h:i<=8):(part n i).length=8:=by simp[part,nu];omega
theorem EW(k:Nat):∀n,EX n (k+1)=EX n k++[UInt8.ofNat (n/2^(8*k))]:=by
 induction k with
 |zero=>intro n;simp[EX]
 |succ k a=>
  intro n
  rw[EX,a (n/256)]
  simp only[EX,cons_append]
  congr 3
  have:(2:Nat)^(8*(k+1))=256*2^(8*k):=by
   rw[show 8*(k+1)=8+8*k from by omega,Nat.pow_add]
  rw[this,Nat.div_div_eq_div_mul]
theorem Bt(h:i<8):jT (part n i) i [bv (UInt8.ofNat (n/2^(8*i)))]=part n (i+1):=by
 have a:replicate (8-i) (bv 0)=[bv 0]++replicate (8-(i+1)) (bv 0):=by
  rw[show 8-i=(8-(i+1))+1 from by omega,replicate_succ]
  rfl
 have:=nL (pre:=(EX n i).map bv) (old:=[bv 0]) (post:=replicate (8-(i+1)) (bv 0)) (l:=[bv (UInt8.ofNat (n/2^(8*i)))]) rfl
 rw[<-a] at this
 simp only[length_map,nu] at this
 unfold part
 rw[this,EW]
 simp
attribute [local irreducible] CG NG SG aP aM Row aG aF aQ mH iZ xY rZ mA nc
theorem ww{P n o Q r L w d b t p f g v}(c:SG P n o Q r ((d,v)::L) w)(a:(Nat.blt d n&&(!fm b&&(want o L ⟨some d,b,t,p,f,g⟩==some true&&b.operands.toList.all (known L))))=true:=by rfl)(e:aP P [] w (fun _=>True) L ⟨some d,b,t,p,f,g⟩ v:=by (first|apply aB|apply aE)<;>rfl):SG P n o Q (⟨some d,b,t,p,f,g⟩::r) L w:=au a e c
theorem fj(d:Dg)(w:World):dq prog 95 #[dv d] w (.int .u64 (num d:Int)):=by
 refine bC func95 rfl ntmps95 rfl ?_
 repeat apply ar
 refine SG.box rfl rfl rfl (ag rfl) (fun b c j m a=>?_)
 have a:aG c b (.cells (dc d).toArray 47):=a
 have o:Row c b 0 (dc d):=Row.all a rfl
 repeat (first|apply ar|(apply au;rfl;(first|apply aB|apply aE|apply bf)<;>first|rfl|assumption|exact wn|apply ai))
 refine CG.loop (X:=Nat) (fun i=>[(3,.int .u64 (val (d.1.take i):Int)),(6,dv d),(7,.int .i64 (i:Int))])
  (fun i l=>i<=8/\l=c) (fun i=>8-i) 0 ⟨by omega,rfl⟩ (aS.of rfl) ?_
 rintro i q ⟨n,rfl⟩
 by_cases e:i<8
 ·have h:(i:Int)<8:=by omega
  have p:=KQ d e
  have f:=DL (d:=d) e
  repeat (first|apply ar|refine ul ?_)
  refine bO rfl ?_
  repeat (first|apply ar|(apply au;rfl;first|(apply Ie<;>(first|rfl|assumption|exact zc))|((first|apply F7|apply F6|apply Hy|apply Kh|apply aB|apply aE|apply dp)<;>(first|rfl|assumption|exact zc))))
  rw[f]
  refine NG.round (i+1) (aS.of rfl) ⟨by omega,rfl⟩ (by omega)
 ·have h:¬(i:Int)<8:=by omega
  have g:i=8:=by omega
  subst g
  have k:(val (d.1.take 8):Int)=(num d:Int):=by
   unfold num
   rw[take_of_length_le (by rw[d.2];omega)]
  rw[k]
  repeat (first|apply ar|refine un ?_)
  refine bA rfl ?_
  repeat (first|apply ar|refine ww ?_)
  refine aO (Or.inl rfl) results95 (aD.tmp rfl) ?_
  exact⟨rfl,j⟩
theorem wz{P n o Q r L w d b t p f g v}(c:SG P n o Q r ((d,v)::L) w)(a:(Nat.blt d n&&(!fm b&&(want o L ⟨some d,b,t,p,f,g⟩==some true&&b.operands.toList.all (known L))))=true:=by rfl)(e:aP P [] w (fun _=>True) L ⟨some d,b,t,p,f,g⟩ v:=by (first|apply aB|apply dp)<;>first|rfl|exact zc):SG P n o Q (⟨some d,b,t,p,f,g⟩::r) L w:=au a e c
theorem mi(n:Nat)(w:World):dq prog 147 #[.int .u64 (n:Int)] w (dv (frm n)):=by
 refine bC func147 rfl ntmps147 rfl ?_
 repeat apply ar
 refine SG.alloc rfl rfl rfl (fun d y m u c=>?_)
 repeat apply ar
 refine SG.alloc rfl rfl rfl (fun a p g A f=>?_)
 have c:aG y d (.cells (dc zd).toArray 47):=c
 have f:aG p a (.cells (dc zd).toArray 47):=f
 have B:=c.lt
 repeat (first|apply ar|refine qa0 ?_)
 refine CG.loop (X:=Nat) (fun i=>[(0,.int .u64 (n:Int)),(2,.pointer (some ⟨d,0,none⟩)),(3,.pointer (some ⟨a,0,none⟩)),(5,.int .i64 (i:Int))])
  (fun i o=>i<=8/\Kp [a] p o/\aG o a (.cells (part n i).toArray 47)) (fun i=>8-i) 0 ⟨by omega,Kp.refl _ _,f⟩ (aS.of rfl) ?_
 rintro i z ⟨v,h,e⟩
 by_cases x:i<8
 ·have s:(i:Int)<8:=by omega
  have q:nc (n:Int) (8*(i:Int))=((n/2^(8*i):Nat):Int):=by
   have t:(8*(i:Int))=((8*i:Nat):Int):=by omega
   rw[t,vO (by omega)]
  repeat (first|apply ar|refine ul ?_)
  refine bO rfl ?_
  repeat (first|apply ar|(apply au;rfl;first|(apply Dw<;>(first|rfl|exact zc))|((first|apply Ic|apply Hy|apply Ga|apply aB|apply aE)<;>(first|rfl|exact zc))))
  rw[q]
  skip
  rw[qp]
  refine SG.store rfl rfl (ag rfl) (ag rfl) e rfl (by show 0+i*1+1<=(part n i).toArray.size;simp[vZ v];omega) rfl (fun k j b=>?_)
  have b:aG k a (.cells (jT (part n i) (0+i*1) [bv (UInt8.ofNat (n/2^(8*i)))]).toArray 47):=b
  rw[show 0+i*1=i from by omega,Bt x] at b
  repeat (first|apply ar|refine wz ?_)
  refine NG.round (i+1) (aS.of rfl) ⟨by omega,h.trans j,b⟩ (by omega)
 ·have s:¬(i:Int)<8:=by omega
  have r:i=8:=by omega
  subst r
  rw[DE] at e
  have C:Row z a 0 (dc (frm n)):=Row.all e rfl
  repeat (first|apply ar|refine un ?_)
  refine bA rfl ?_
  repeat (first|apply ar|(apply au;rfl;apply bf<;>first|rfl|assumption|exact wn))
  refine SG.aN (old:=dc zd) (l:=dc (frm n)) rfl rfl (ag rfl) (ag rfl) ((c.az g).kp h (bQ (by omega))) (ai _) (ai _) (bj _) (fun k j b=>?_)
  have D:Row k d 0 (dc (frm n)):=Row.all b rfl
  repeat apply ar
  refine aO (Or.inl rfl) results147 (by exact aD.agg rfl rfl (by assumption) (by first|exact ai _|exact nc_length _|exact rc_length _ _ _|exact aT _|exact dl_length _ _ _ _|exact bh _|exact bB _|exact bE _|exact ay _|rfl)) ?_
  have E:=m.size
  have F:=g.size
  exact⟨rfl,((m.trans g).aj h (aW (by omega))).aj j (aW u)⟩
theorem fN(g:aG w b (.cells (j6 s).toArray 202))(z:Int):Calls prog 134 #[.pointer (some ⟨b,0,none⟩),.int .u64 z] w (fun e i=>e= .returned (.tuple #[])/\Kp [b] w i/\aG i b (.cells (j6 (dy s z)).toArray 202)):=by
 refine bN func134 rfl ntmps134 rfl ?_
 obtain⟨p,q,r,t,_⟩:=uI g
 apply CG.seq
 refine CG.tail mixed 8 [0,1,2,3,4,5,6,7] (by kernel_rfl) ?_
 repeat (apply bW;rfl;rfl;(first|apply Bp|apply ur|apply aB|apply aZ|apply bR)<;>first|rfl|assumption|exact zc|exact wn)
 refine aM.tl (fun u h _ _=>?_)
 refine SG.store rfl rfl (ag rfl) (ag rfl) (g.az h) rfl (by show 0+0*1+1<=4;omega) rfl (fun o m f=>?_)
 have f:aG o b (.cells (j6 ⟨iZ s.a z,s.b,s.c,s.d⟩).toArray 202):=f
 repeat (first|apply ar|refine qa0 ?_)
 refine SG.call rfl rfl rfl (by repeat' (first|exact True.intro|exact ag rfl|refine And.intro ?_ ?_)) ((A6 f).mono (fun e v l=>?_))
 obtain⟨k,n,j⟩:=l
 refine⟨_,k,?_⟩
 repeat apply ar
 refine oY (Or.inr rfl) results134 ?_
 exact⟨rfl,(h.any.trans m).trans n,j⟩
theorem j7(j:aG w b (.cells (j6 s).toArray 202)):dq prog 110 #[.pointer (some ⟨b,0,none⟩)] w (dv (cV s)):=by
 refine bC func110 rfl ntmps110 rfl ?_
 obtain⟨n,i,_⟩:=Cx s.a s.c
 have o:cV s=frm n:=by unfold cV;rw[i];rfl
 rw[o]
 repeat apply ar
 refine SG.alloc rfl rfl rfl (fun e q f m d=>?_)
 have d:aG q e (.cells (dc zd).toArray 47):=d
 obtain⟨v,x,y,z,_⟩:=uI (j.az f)
 repeat apply ar
 refine CG.tail mixed 9 [0,1,2,3,4,5,6,7,8] (by kernel_rfl) ?_
 repeat (apply bW;rfl;rfl;(first|apply Bp|apply ur|apply aB|apply aZ|apply bR)<;>first|rfl|assumption|exact zc|exact wn)
 rw[i]
 refine aM.tl (fun r g _ _=>?_)
 refine SG.ret rfl rfl rfl (by repeat' (first|exact True.intro|exact ag rfl|refine And.intro ?_ ?_)) (mi n r) (fun A h=>?_)
 refine SG.aN (old:=dc zd) (l:=dc (frm n)) rfl rfl (ag rfl) (ag rfl) ((d.az g).az h) (ai _) (ai _) (bj _) (fun t p k=>?_)
 have u:Row t e 0 (dc (frm n)):=Row.all k rfl
 repeat apply ar
 refine aO (Or.inl rfl) results110 (by exact aD.agg rfl rfl (by assumption) (by first|exact ai _|exact nc_length _|exact rc_length _ _ _|exact aT _|exact dl_length _ _ _ _|exact bh _|exact bB _|exact bE _|exact ay _|rfl)) ?_
 exact⟨rfl,((f.trans g).trans h).aj p (aW m)⟩
theorem kj(z:Int)(w:World):dq prog 108 #[.int .u64 z] w (.agg (j6 (cL z)).toArray):=by
 refine bC func108 rfl ntmps108 rfl ?_
 repeat apply ar
 refine SG.alloc rfl rfl rfl (fun b g e d a=>?_)
 have a:aG g b (.cells (j6 ⟨0,0,0,0⟩).toArray 202):=a
 repeat (first|apply ar|refine qa0 ?_)
 refine SG.val rfl rfl rfl rfl (aK rfl (fun w=>Th w _ _ _ _)) ?_
 refine SG.aN (old:=j6 ⟨0,0,0,0⟩) (l:=j6 (cL z)) rfl rfl (ag rfl) (ag rfl) a rfl rfl rfl (fun h f c=>?_)
 have i:Row h b 0 (j6 (cL z)):=Row.all c rfl
 repeat apply ar
 refine aO (Or.inl rfl) results108 (by exact aD.agg rfl rfl (by assumption) (by first|exact ai _|exact nc_length _|exact rc_length _ _ _|exact aT _|exact dl_length _ _ _ _|exact bh _|exact bB _|exact bE _|exact ay _|rfl)) ?_
 exact⟨rfl,e.aj f (aW d)⟩
end
section
section
variable {P:Program} {L:Env} {S:List Nat} {w0:World} {F:World->Prop} {d:Option Nat} {ty:TypeId} {pos:String} {af:Array Edge} {g:Option (Nat×Bool)}
end
end
section
variable{af:Array Edge}{c:Bool}{L:Env}{S:List Nat}{x y:Operand}{g:Option (Nat×Bool)}{d:Option Nat}{pos:String}{T' ty:TypeId}{w0:World}{F:World->Prop}
structure Pu where
 money:Int
 nonce:Int
instance:DecidableEq Pu:=fun a b=>decidable_of_iff (a.money=b.money/\a.nonce=b.nonce) (by cases a;cases b;simp)
def ti(x:Pu):List Value:=[.int .i64 x.money,.int .i64 x.nonce]
@[reducible] def qV (x:Pu):Value:= .agg (ti x).toArray
def pz:Pu:=⟨0,0⟩
theorem bE(x:Pu):(ti x).length=2:=rfl
theorem Gd(x:Pu):bI (ti x)=true:=rfl
def Pu.Fit(p:Pu):Prop:= -4000000000000000000<=p.money/\p.money<=4000000000000000000/\-4000000000000000000<=p.nonce/\p.nonce<=4000000000000000000
structure Ac where
 key:Dg
 money:Int
 nonce:Int
def acl(e:Ac):List Value:=dc e.key++[.int .i64 e.money,.int .i64 e.nonce]
@[reducible] def FD (e:Ac):Value:= .agg (acl e).toArray
theorem bh(e:Ac):(acl e).length=10:=by simp[acl,ai]
theorem oM(e:Ac):bI (acl e)=true:=by
 have:=bj e.key
 unfold bI at*
 simp[acl,this,kY]
instance:DecidableEq Ac:=fun a b=>decidable_of_iff (a.key=b.key/\a.money=b.money/\a.nonce=b.nonce) (by cases a;cases b;simp)
abbrev Bk:=List (Dg×Pu)
structure bS(w:World)(bt bm:Nat)(m:Bk):Prop where
 blk:aG w bt (.cells #[.map (some bm)] 136)
 map:aF w bm (dv (n:=8)) qV m
section
variable {w w':World} {bt bm:Nat} {m:Bk}
theorem bS.kp(h:bS w bt bm m)(a:Kp S w w')(b:bt∉S)(c:bm∉S):bS w' bt bm m:=⟨h.blk.kp a b,h.map.kp a c⟩
theorem bS.az(h:bS w bt bm m)(a:Kp [] w w'):bS w' bt bm m:=h.kp a (by simp) (by simp)
theorem bS.r0(h:bS w bt bm m):Row w bt 0 [.map (some bm)]:=Row.of h.blk [] [] rfl rfl
theorem aF.blk{d e:Type}{w:World}{b:Nat}{enc:d->Value}{V:e->Value}{m:List (d×e)}(h:aF w b enc V m):∃a c,aG w b (.map a c):=by
 obtain⟨a,c,f,_⟩:=h
 exact⟨a,c,f⟩
theorem bS.ne(h:bS w bt bm m):bt≠bm:=by
 rintro rfl
 obtain⟨b,acl,a⟩:=h.map.blk
 cases h.blk.uniq a
end
def cC(m:Bk)(k:Dg):Pu:=(aC m k).getD pz
def iN(m:Bk)(k:Dg)(p:Pu):Bk:=if p=pz then m.filter (fun q=>decide (q.1≠k)) else ca m k p
theorem Jv{m:Bk}{k:Dg}:Lk qV (.agg #[.int .i64 0,.int .i64 0]) m k (qV (cC m k)) (aC m k).isSome:=by
 unfold cC
 cases hr:aC m k with
 |none=>exact rz hr
 |some p=>exact iX hr
theorem Kj:∃m,prog.types.size=m+3:=⟨prog.types.size-3,by kernel_rfl⟩
theorem Rz:prog.cellsOf 3=1:=by kernel_rfl
theorem HO:prog.cellsOf 133=2:=by kernel_rfl
theorem Cy(z:Int)(a: -4000000000000000000<=z)(b:z<=4000000000000000000):(Lit.int .i64 z).wf=true:=by
 simp[Lit.wf,IntKind.min,IntKind.max,IntKind.signed,IntKind.bits]
 omega
theorem Ai(x:Pu)(h:x.Fit):(prog.keyLits (prog.types.size+1) 133 (ti x)).isSome=true:=by
 obtain⟨m,g⟩:=Kj
 rw[g]
 obtain⟨a,b⟩:=x
 obtain⟨c,d,e,f⟩:=h
 simp[ti,Program.keyLits,underlying133,underlying3,Rz,HO,Cy a c d,Cy b e f,range,range.loop]
theorem tf(x:Pu):(qV x).formed prog 133=true:=by
 simp[Value.formed,underlying133,HO,bE]
theorem Ge{a b:Pu}(h:ti a=ti b):a=b:=by
 obtain⟨p,n⟩:=a
 obtain⟨q,m⟩:=b
 simp[ti] at h
 obtain⟨rfl,rfl⟩:=h
 rfl
theorem xE{a b:Pu}(g:a.Fit)(h:b.Fit)(w:World):(Op.equal 133 (qV a) (qV b)).run prog w= .ok (decide (a=b)) w:=by
 obtain⟨r,c,d⟩:=BX (P:=prog) (T:=133) 3 (by omega) (by kernel_rfl) (by kernel_rfl) (by rw[underlying133]) (by kernel_rfl) (tf a) (tf b) (Ai a g) (Ai b h) w
 have f:r=decide (a=b):=by
  by_cases e:a=b
  ·rw[decide_eq_true e]
   exact d.2 (by rw[e])
  ·rw[decide_eq_false e]
   cases r with
   |false=>rfl
   |true=>exact absurd (Ge (d.1 rfl)) e
 rw[f] at c
 exact c
theorem Az:prog.eqGuardType prog.depth 133=false:=by kernel_rfl
theorem Sk{a b:Pu}(i:ro L x=some (qV a))(j:ro L y=some (qV b))(e:a.Fit)(f:b.Fit)(h:Dc (a=b) c):
  aP prog S w0 F L ⟨d,.binOp .eql 133 x y T',ty,pos,af,g⟩ (.bool c):=fun w _ _=>by
 rw[<-h.eq]
 simp[execOp,ag i,ag j,eqGuard,binOp,xE e f,Az]
theorem Sj{a b:Pu}(i:ro L x=some (qV a))(j:ro L y=some (qV b))(e:a.Fit)(f:b.Fit)(h:Dc (a=b) c):
  aP prog S w0 F L ⟨d,.binOp .neq 133 x y T',ty,pos,af,g⟩ (.bool (!c)):=fun w _ _=>by
 rw[<-h.eq]
 simp[execOp,ag i,ag j,eqGuard,binOp,xE e f,Az]
theorem QQ:pz.Fit:=by unfold Pu.Fit pz;simp
attribute [local irreducible] CG NG SG aP aM Row aG aF aQ
theorem mr{w:World}{h g:Nat}{m:Bk}(l:bS w h g m)(k:Dg)(p:Pu)(E:p.Fit):Calls prog 79 #[.pointer (some ⟨h,0,none⟩),dv k,qV p] w (fun e q=>e= .returned (.tuple #[])/\bS q h g (iN m k p)/\Kp [g] w q):=by
 refine dG func79 rfl ntmps79 rfl ?_
 have F:=QQ
 have o:=l.ne
 repeat apply ar
 refine SG.box rfl rfl rfl (ag rfl) (fun s I i C u=>?_)
 refine SG.box rfl rfl rfl (ag rfl) (fun t r f D x=>?_)
 have A:Row r s 0 (dc k):=Row.all (u.az f) rfl
 have B:Row r t 0 (ti p):=Row.all x rfl
 have d:=(l.az i).az f
 have H:=d.r0
 have G:=d.map
 repeat (first|apply ar|(apply au;rfl;apply bf<;>first|rfl|assumption|exact wn))
 refine SG.val rfl rfl rfl rfl (aK (v:=qV pz) rfl (fun w=>by kernel_rfl)) ?_
 by_cases e:p=pz
 ·repeat (first|apply ar|(apply au;rfl;apply Sk<;>first|rfl|assumption|exact qf))
  refine bO rfl ?_
  repeat apply ar
  refine CG.tail mixed 5 [0,1,2,3,4] (by kernel_rfl) ?_
  repeat (apply bW;rfl;rfl;(first|apply aB|apply aZ|apply bf|apply aU|apply bR)<;>first|rfl|assumption|exact wn|apply ai)
  refine aM.tl (fun y b _ _=>?_)
  have a:=d.az b
  refine SG.delete (V:=qV) (kx:=k) rfl rfl (ag rfl) (ag rfl) a.map (fun z c j=>?_)
  repeat apply ar
  refine oY (Or.inl rfl) results79 ?_
  refine⟨rfl,⟨a.blk.kp c (bQ o),?_⟩,((i.trans f).trans b).any.trans c⟩
  unfold iN
  rw[if_pos e]
  exact j
 ·repeat (first|apply ar|(apply au;rfl;apply Sk<;>first|rfl|assumption|exact qr))
  refine bA rfl ?_
  repeat apply ar
  refine CG.tail mixed 6 [0,1,2,3,4,5] (by kernel_rfl) ?_
  repeat (apply bW;rfl;rfl;(first|apply aB|apply aZ|apply bf|apply aU|apply bR)<;>first|rfl|assumption|exact wn|apply ai)
  refine aM.tl (fun y b _ _=>?_)
  have a:=d.az b
  refine SG.mapUpdate (enc:=dv (n:=8)) (V:=qV) (kx:=k) (vy:=p) rfl rfl (ag rfl) (ag rfl) (ag rfl) a.map gJ.key (fun z c j=>?_)
  repeat apply ar
  refine oY (Or.inr rfl) results79 ?_
  refine⟨rfl,⟨a.blk.kp c (bQ o),?_⟩,((i.trans f).trans b).any.trans c⟩
  unfold iN
  rw[if_neg e]
  exact j
end
section
abbrev Nn:={n:Int//0<=n/\n<=1099511627776}
def Fq(x:Dg×Nn):List Value:=dc x.1++[.int .i64 x.2.1]
@[reducible] def JV (x:Dg×Nn):Value:= .agg (Fq x).toArray
def x8(x:Dg×Dg):List Value:=dc x.1++dc x.2
@[reducible] def GP (x:Dg×Dg):Value:= .agg (x8 x).toArray
theorem iH(x:Dg×Nn):(Fq x).length=9:=by simp[Fq,ai]
theorem FR(x:Dg×Nn):bI (Fq x)=true:=by simp[Fq,bI,dc,kY]
theorem fK(x:Dg×Dg):(x8 x).length=16:=by simp[x8,ai]
theorem GQ(x:Dg×Dg):bI (x8 x)=true:=by simp[x8,bI,dc,kY]
theorem FT{x y:Dg×Nn}(h:Fq x=Fq y):x=y:=by
 obtain⟨p,n,e⟩:=x
 obtain⟨q,m,d⟩:=y
 have a:=append_inj h (by simp[ai])
 have b:=uM a.1
 have c:n=m:=by simpa using a.2
 subst b
 subst c
 rfl
theorem GR{x y:Dg×Dg}(h:x8 x=x8 y):x=y:=by
 obtain⟨p,n⟩:=x
 obtain⟨q,m⟩:=y
 have a:=append_inj h (by simp[ai])
 exact Prod.ext (uM a.1) (uM a.2)
theorem EN:prog.cellsOf 5=1:=by kernel_rfl
theorem ER:prog.cellsOf 47=8:=by kernel_rfl
theorem G3:prog.cellsOf 3=1:=by kernel_rfl
theorem EO:prog.cellsOf 242=9:=by kernel_rfl
theorem EP:prog.cellsOf 341=16:=by kernel_rfl
theorem Ht:∃m,prog.types.size=m+3:=⟨prog.types.size-3,by kernel_rfl⟩
theorem C6(m:Nat)(a0 a b c d e f g:UInt8)(h:Int)(j:0<=h)(k:h<=1099511627776):(prog.keyLits (m+3+1) 242 [bv a0,bv a,bv b,bv c,bv d,bv e,bv f,bv g,.int .i64 h]).isSome=true:=by
 have i:(Lit.int .i64 h).wf=true:=by
  simp[Lit.wf,IntKind.min,IntKind.max,IntKind.signed,IntKind.bits]
  omega
 simp[Program.keyLits,underlying242,underlying47,underlying5,underlying3,EN,ER,G3,EO,ud,i,range,range.loop]
theorem EC(m:Nat)(a0 a b c d e f g h i j k l n o p:UInt8):(prog.keyLits (m+3+1) 341 [bv a0,bv a,bv b,bv c,bv d,bv e,bv f,bv g,bv h,bv i,bv j,bv k,bv l,bv n,bv o,bv p]).isSome=true:=by
 simp[Program.keyLits,underlying341,underlying47,underlying5,EN,ER,EP,ud,range,range.loop]
theorem C7:da prog 242 JV:=by
 refine da.deep (enc:=Fq) 3 (by omega) (by kernel_rfl) (by kernel_rfl) (by rw[underlying242]) (by kernel_rfl) (fun x=>by simp[Value.formed,underlying242,EO,iH]) (fun x=>?_) (fun x y h=>FT h)
 obtain⟨m,o⟩:=Ht
 rw[o]
 obtain⟨⟨l,n⟩,h,j,k⟩:=x
 match l,n with
 |[a,b,c,d,e,f,g,i],_=>exact C6 m a b c d e f g i h j k
theorem ED:da prog 341 GP:=by
 refine da.deep (enc:=x8) 3 (by omega) (by kernel_rfl) (by kernel_rfl) (by rw[underlying341]) (by kernel_rfl) (fun x=>by simp[Value.formed,underlying341,EP,fK]) (fun x=>?_) (fun x y h=>GR h)
 obtain⟨m,w⟩:=Ht
 rw[w]
 obtain⟨⟨l,v⟩,⟨k,u⟩⟩:=x
 match l,v,k,u with
 |[a,b,c,d,e,f,g,i],_,[j,n,o,p,q,r,s,t],_=>exact EC m a b c d e f g i j n o p q r s t
end
section
variable{tys:Array TypeId}{f:FuncId}{args:List Operand}{caps vs:List Value}{x:Operand}{d:Option Nat}
section
variable {P:Program} {n:Nat} {Q:Exit->Act->World->Prop} {L:Env} {w w0:World} {ops rest:List Oper} {ty:TypeId} {pos:String} {af:Array Edge} {g:Option (Nat×Bool)} {S:List Nat} {F:World->Prop}
def lf(f:FuncId)(caps:List Value):Value:= .func (.func f) #[] caps.toArray
theorem Dr:∀{cs:List Operand} {vs:List Value},cs.map (ro L)=vs.map some->cs.map (bH L)=vs
 |[],vs,h=>by cases vs<;>simp at h⊢
 |x::cs,[],h=>by simp at h
 |x::cs,v::vs,h=>by
  simp only[map_cons,List.cons.injEq] at h⊢
  exact⟨ag h.1,Dr h.2⟩
theorem Hz{cs:List Operand}(h:cs.map (ro L)=vs.map some):aP P S w0 F L ⟨d,.makeFunc (.func f) #[] cs.toArray,ty,pos,af,g⟩ (lf f vs):=fun w _ _=>by
 have e:cs.map (bH L)=vs:=Dr h
 simp[execOp,Instr.makeFunc,lf,e]
theorem sZ[Fn:bU P f](b:bH L x=lf f caps)(a:bg L args vs):
  (execOp (bH L) ⟨d,.call ⟨.value x,args.toArray,tys⟩,ty,pos,af,g⟩).run P w= .ok (.enter f (vs++caps).toArray) w:=by
 simp only[execOp,resolve,b,lf,Deferred.ofValue,a.arr]
 simp[invoke,Fn.run]
theorem SG.HP{d:Nat}[Fn:bU P f](b:Nat.blt d n=true)(j:want ops L ⟨some d,.call ⟨.value x,args.toArray,tys⟩,ty,pos,af,g⟩=some true)(i:(Op.call ⟨.value x,args.toArray,tys⟩).operands.toList.all (known L)=true)
  (h:bH L x=lf f caps) (c:bg L args vs) (a:Calls P f (vs++caps).toArray w (fun e k=>∃v,e= .returned v/\SG P n ops Q rest ((d,v)::L) k)):SG P n ops Q (⟨some d,.call ⟨.value x,args.toArray,tys⟩,ty,pos,af,g⟩::rest) L w:=by
 refine SG.op (by simpa using b) rfl j i ?_
 unfold bD
 rw[sZ (Fn:=Fn) h c]
 exact a
theorem SG.nV{d:Nat}[Fn:bU P f]{v:Value}(j:Nat.blt d n=true)(o:want ops L ⟨some d,.call ⟨.value x,args.toArray,tys⟩,ty,pos,af,g⟩=some true)(m:(Op.call ⟨.value x,args.toArray,tys⟩).operands.toList.all (known L)=true)
  (l:bH L x=lf f caps) (k:bg L args vs) (i:dq P f (vs++caps).toArray w v) (h:∀a,Kp [] w a->SG P n ops Q rest ((d,v)::L) a):SG P n ops Q (⟨some d,.call ⟨.value x,args.toArray,tys⟩,ty,pos,af,g⟩::rest) L w:=
 SG.HP (Fn:=Fn) j o m l k (i.mono (fun e a ⟨b,c⟩=>⟨v,b,h a c⟩))
end
end
section
variable{tys:Array TypeId}{f:FuncId}{args:List Operand}{caps vs:List Value}{x:Operand}
section
variable {P:Program} {L:Env} {ty:TypeId} {pos:String} {af:Array Edge} {g:Option (Nat×Bool)} {S:List Nat} {w0 w:World} {ops:List Oper} {gh:List Nat} {K:Env->(World->Prop)->(World->Prop)->Prop} {i:Nat} {ord:List Nat} {F R:World->Prop}
theorem yK[Fn:bU P f]{d:Option Nat}{R:Value->World->Prop}(b:bH L x=lf f caps)(a:bg L args vs)(h:Calls P f (vs++caps).toArray w (fun e c=>∃v,e= .returned v/\R v c)):
  bD P (bH L) ⟨d,.call ⟨.value x,args.toArray,tys⟩,ty,pos,af,g⟩ w R:=by
 unfold bD
 rw[sZ (Fn:=Fn) b a]
 exact h
theorem aM.I1{X:Type}{d:Nat}[Fn:bU P f](val:X->Value)(a b:X->World->Prop)
  (A:ops[i]?=some ⟨some d,.call ⟨.value x,args.toArray,tys⟩,ty,pos,af,g⟩) (B:want ops L ⟨some d,.call ⟨.value x,args.toArray,tys⟩,ty,pos,af,g⟩=some true) (y:gh.elem i=true) (z:(Op.call ⟨.value x,args.toArray,tys⟩).operands.toList.all (known L)=true)
  (v:bH L x=lf f caps) (u:bg L args vs) (p:∀x,cH S (a x)) (r:∀x,cH [] (b x)) (q:cH S F) (s:∀w,Kp S w0 w->F w->R w->Calls P f (vs++caps).toArray w (fun e c=>∃x,e= .returned (val x)/\a x c/\b x c/\Kp S w c))
  (t:∀x,aM P S w0 ops gh K ord ((d,val x)::L) (fun w=>F w/\a x w) (b x)):aM P S w0 ops gh K (i::ord) L F R:=
 aM.ghost val a b A B y z p r q (fun w m n o=>yK (Fn:=Fn) v u ((s w m n o).mono (fun e c ⟨x,h,j,k,l⟩=>⟨val x,h,x,rfl,j,k,l⟩))) t
end
end
section
variable{ms:Array (String×TypeId)}{tys:Array TypeId}{f:FuncId}{args:List Operand}{vs:List Value}{x:Operand}{d:Option Nat}{name:String}{u:TypeDesc}{T t:TypeId}{v:Value}
class Cj(P:Program)(t:TypeId)(name:String)(f:outParam FuncId):Prop where
 run:∀(v:Value) (w:World),(method (P.types.size+Made.depth) t v name).run P w= .ok (f,v) w
 ahead:∀(v:Value) (w:World),(nilAhead (P.types.size+Made.depth) t v name).run P w= .ok (some false) w
section
variable {P:Program} {n:Nat} {Q:Exit->Act->World->Prop} {L:Env} {w w0:World} {ops rest:List Oper} {ty:TypeId} {pos:String} {af:Array Edge} {g:Option (Nat×Bool)} {S:List Nat} {F R:World->Prop}
def Kz(name:String)(x:Value):Value:= .func (.method name) #[x] #[]
theorem Ly(h:ro L x=some v):aP P S w0 F L ⟨d,.makeFunc (.method name) #[x] #[],ty,pos,af,g⟩ (Kz name v):=fun w _ _=>by
 simp[execOp,Instr.makeFunc,Kz,ag h]
theorem F8(h:ro L x=some (Kz name (.iface t v)))(M:Cj P t name f):aP P S w0 F L ⟨d,.nilCheck x,ty,pos,af,g⟩ (Kz name (.iface t v)):=fun w _ _=>by
 simp[execOp,ag h,Kz,M.ahead]
theorem qS[M:Cj P t name f][Fn:bU P f](b:bH L x= .iface t v)(a:bg L args vs):
  (execOp (bH L) ⟨d,.call ⟨.invoke x name,args.toArray,tys⟩,ty,pos,af,g⟩).run P w= .ok (.enter f (v::vs).toArray) w:=by
 simp only[execOp,resolve,b,a.arr]
 simp[invoke,callMethod,M.run,Fn.run]
theorem SG.AM{d:Nat}[M:Cj P t name f][Fn:bU P f](b:Nat.blt d n=true)(j:want ops L ⟨some d,.call ⟨.invoke x name,args.toArray,tys⟩,ty,pos,af,g⟩=some true)(i:(Op.call ⟨.invoke x name,args.toArray,tys⟩).operands.toList.all (known L)=true)
  (h:bH L x= .iface t v) (c:bg L args vs) (a:Calls P f (v::vs).toArray w (fun e k=>∃v,e= .returned v/\SG P n ops Q rest ((d,v)::L) k)):SG P n ops Q (⟨some d,.call ⟨.invoke x name,args.toArray,tys⟩,ty,pos,af,g⟩::rest) L w:=by
 refine SG.op (by simpa using b) rfl j i ?_
 unfold bD
 rw[qS (M:=M) (Fn:=Fn) h c]
 exact a
theorem SG.Ia{d:Nat}{u:Value}[M:Cj P t name f][Fn:bU P f](j:Nat.blt d n=true)(o:want ops L ⟨some d,.call ⟨.invoke x name,args.toArray,tys⟩,ty,pos,af,g⟩=some true)(m:(Op.call ⟨.invoke x name,args.toArray,tys⟩).operands.toList.all (known L)=true)
  (l:bH L x= .iface t v) (k:bg L args vs) (i:dq P f (v::vs).toArray w u) (h:∀a,Kp [] w a->SG P n ops Q rest ((d,u)::L) a):SG P n ops Q (⟨some d,.call ⟨.invoke x name,args.toArray,tys⟩,ty,pos,af,g⟩::rest) L w:=
 SG.AM (M:=M) (Fn:=Fn) j o m l k (i.mono (fun e a ⟨b,c⟩=>⟨u,b,h a c⟩))
theorem ri[M:Cj P t name f][Fn:bU P f]{R:Value->World->Prop}(b:bH L x= .iface t v)(a:bg L args vs)(h:Calls P f (v::vs).toArray w (fun e c=>∃u,e= .returned u/\R u c)):
  bD P (bH L) ⟨d,.call ⟨.invoke x name,args.toArray,tys⟩,ty,pos,af,g⟩ w R:=by
 unfold bD
 rw[qS (M:=M) (Fn:=Fn) b a]
 exact h
variable {gh:List Nat} {K:Env->(World->Prop)->(World->Prop)->Prop} {i:Nat} {ord:List Nat}
theorem aM.zD{X:Type}{d:Nat}[M:Cj P t name f][Fn:bU P f](val:X->Value)(a b:X->World->Prop)
  (D:ops[i]?=some ⟨some d,.call ⟨.invoke x name,args.toArray,tys⟩,ty,pos,af,g⟩) (E:want ops L ⟨some d,.call ⟨.invoke x name,args.toArray,tys⟩,ty,pos,af,g⟩=some true) (B:gh.elem i=true) (C:(Op.call ⟨.invoke x name,args.toArray,tys⟩).operands.toList.all (known L)=true)
  (A:bH L x= .iface t v) (z:bg L args vs) (q:∀x,cH S (a x)) (s:∀x,cH [] (b x)) (r:cH S F) (u:∀w,Kp S w0 w->F w->R w->Calls P f (v::vs).toArray w (fun e c=>∃x,e= .returned (val x)/\a x c/\b x c/\Kp S w c))
  (y:∀x,aM P S w0 ops gh K ord ((d,val x)::L) (fun w=>F w/\a x w) (b x)):aM P S w0 ops gh K (i::ord) L F R:=
 aM.ghost val a b D E B C q s r (fun w m o p=>ri (M:=M) (Fn:=Fn) A z ((u w m o p).mono (fun e c ⟨x,h,j,k,l⟩=>⟨val x,h,x,rfl,j,k,l⟩))) y
theorem zr[u:Ut P T (.interface ms)](k:Nat)(t:TypeId)(v:Value):(Op.equalIn (k+1) T (.iface t v) .nilIface).run P w= .ok false w:=by
 simp only[Op.equalIn]
 simp[run_underlying u.eq,Result.andThen]
theorem EA[u:Ut P T (.interface ms)](t:TypeId)(v:Value):(Op.equal T (.iface t v) .nilIface).run P w= .ok false w:=zr 9999 t v
theorem F9{T':TypeId}[u:Ut P T (.interface ms)](h:ro L x=some (.iface t v)):aP P S w0 F L ⟨d,.binOp .eql T x (.const .nilIface) T',ty,pos,af,g⟩ (.bool false):=fun w _ _=>by
 have a:bH L (.const .nilIface)= .nilIface:=rfl
 simp only[execOp,ag h,a]
 simp[eqGuard,binOp,EA t v,Result.andThen]
theorem vS[hu:Ut P T u](a:(match u with| .interface _=>false|_=>true)=true)(h:ro L x=some v):aP P S w0 F L ⟨d,.makeInterface T x,ty,pos,af,g⟩ (.iface T v):=fun w _ _=>by
 simp only[execOp,ag h,Instr.makeInterface]
 cases u<;>first|(simp at a;done)|simp[run_underlying hu.eq,Result.andThen]
theorem Qw{A:TypeId}[hu:Ut P A u](a:(match u with| .interface _=>false|_=>true)=true)(h:ro L x=some (.iface A v)):aP P S w0 F L ⟨d,.typeAssert x T A true,ty,pos,af,g⟩ (.tuple #[v,.bool true]):=fun w _ _=>by
 simp only[execOp,ag h,Instr.typeAssert]
 cases u<;>first|(simp at a;done)|simp[run_underlying hu.eq,Result.andThen]
end
end
section
instance Jt:Cj prog 40 "Verify" 245:=⟨fun v w=>by kernel_rfl,fun v w=>by kernel_rfl⟩
instance QD:Cj prog 197 "Key" 253:=⟨fun v w=>by kernel_rfl,fun v w=>by kernel_rfl⟩
instance LD:Cj prog 197 "Sign" 254:=⟨fun v w=>by kernel_rfl,fun v w=>by kernel_rfl⟩
instance Sr:Cj prog 74 "Do" 138:=⟨fun v w=>by kernel_rfl,fun v w=>by kernel_rfl⟩
instance KA:Cj prog 74 "Clone" 250:=⟨fun v w=>by kernel_rfl,fun v w=>by kernel_rfl⟩
instance LF:Cj prog 74 "Same" 251:=⟨fun v w=>by kernel_rfl,fun v w=>by kernel_rfl⟩
end
section
variable{k:IntKind}{b c j m n off sz:Nat}{lo x:Operand}{E T:TypeId}
section
variable {P:Program} {S:List Nat} {w0:World} {F:World->Prop} {L:Env} {d:Option Nat} {ty:TypeId} {pos:String} {af:Array Edge} {g:Option (Nat×Bool)}
theorem Sm[u:Ut P T (.slice E)][f:Sz P E sz]{a:Operand}{k':IntKind}{z e:Int}(y:ro L x=some (.slice (some ⟨b,off,none⟩) n c))(v:ro L lo=some (.int k z))(s:ro L a=some (.int k' e))(A:z=(j:Int))(B:e=(m:Int))(t:Ar (j<=m/\m<=c/\j<c)):
  aP P S w0 F L ⟨d,.slice T x (some lo) (some a) none,ty,pos,af,g⟩ (.slice (some ⟨b,off+j*sz,none⟩) (m-j) (c-j)):=fun w _ _=>by
 obtain⟨i,l,o⟩:=f.eq
 obtain⟨C,D,G⟩:=t.h
 subst o
 subst A
 subst B
 simp only[execOp,ag y,Option.map_some,Option.map_none,ag v,ag s,Instr.sliceAt,Sem.run_bind,run_underlying u.eq,Result.andThen,Instr.slice,Instr.sliceBounds,Instr.sliceBound,asIntOf,Sem.run_pure]
 have p:(0:Int)<=(m:Int)/\(m:Int)<=(c:Int):=⟨by omega,by omega⟩
 simp only[p,and_self,if_true,Sem.run_pure,Int.toNat_natCast]
 have q:(0:Int)<=(j:Int)/\(j:Int)<=(m:Int):=⟨by omega,by omega⟩
 simp only[q,and_self,if_true,Sem.run_pure,sizeOf,typeInfo,Sem.run_bind,run_program,Result.andThen,l]
 have r:c≠j:=by omega
 simp[r,dQ]
theorem qL[u:Ut P T (.slice E)][f:Sz P E sz](m:ro L x=some (.slice none n c))(l:ro L lo=some (.int k (j:Int)))(o:j<=n):
  aP P S w0 F L ⟨d,.slice T x (some lo) none none,ty,pos,af,g⟩ (.slice none (n-j) (c-j)):=fun w _ _=>by
 obtain⟨i,a,b⟩:=f.eq
 have e:(j:Int)<=n:=by omega
 subst b
 simp only[execOp,ag m,Option.map_some,Option.map_none,ag l,Instr.sliceAt,Sem.run_bind,run_underlying u.eq,Result.andThen,Instr.slice,Instr.sliceBounds,Instr.sliceBound,asIntOf,Sem.run_pure]
 have h:(0:Int)<=(j:Int)/\(j:Int)<=(n:Int):=⟨by omega,e⟩
 simp only[h,and_self,if_true,Sem.run_pure,sizeOf,typeInfo,Sem.run_bind,run_program,Result.andThen,a]
 simp
theorem U5[u:Ut P T (.array n E)]{a:Addr}(b:ro L x=some (.slice (some a) m c))(h:Ar (n<=m)):
  aP P S w0 F L ⟨d,.sliceToArrayPointer T x,ty,pos,af,g⟩ (.pointer (some a)):=fun w _ _=>by
 have e:=h.h
 simp[execOp,ag b,Instr.arrayAt,run_underlying u.eq]
 intro f
 omega
theorem Vd[u:Ut P T (.array n E)][f:Sz P E sz](e:ro L x=some (.pointer (some ⟨b,off,none⟩))):
  aP P S w0 F L ⟨d,.slice T x none none none,ty,pos,af,g⟩ (.slice (some ⟨b,off,none⟩) n n):=fun w _ _=>by
 obtain⟨i,a,c⟩:=f.eq
 subst c
 simp only[execOp,ag e,Option.map_none,Instr.sliceAt,Sem.run_bind,run_underlying u.eq,Result.andThen,Instr.sureAddr,Instr.sliceBounds,Sem.run_pure,sizeOf,typeInfo,run_program,a]
 simp[Addr.add]
end
section
variable {P:Program} {n:Nat} {Q:Exit->Act->World->Prop} {L:Env} {w:World} {ops:List Oper} {rest:List Oper} {ty:TypeId} {pos:String} {af:Array Edge} {g:Option (Nat×Bool)}
theorem SG.copy{d:Nat}{t j e T':TypeId}[u:Ut P t (.slice e)][z:Sz P e 1]{s:Operand}{c2 c0:Nat}{f:Option Addr}{cs:Array Value}{news:List Value}
  (F:Nat.blt d n=true) (M:want ops L ⟨some d,.call {callee:= .builtin .copy,args:= #[s,x],argTypes:= #[t,j]},ty,pos,af,g⟩=some true) (G:(known L s&&known L x)=true)
  (K:bH L s= .slice (some ⟨b,0,none⟩) m c0) (N:bH L x= .slice f news.length c2) (k:aG w b (.cells cs T')) (H:news.length<=m) (O:m<=cs.size) (J:bI news=true) (C:∀a c,f=some ⟨a,c,none⟩->news≠[]->Row w a c news) (D:news≠[]->∃a c,f=some ⟨a,c,none⟩)
  (I:f=none\/∃a c,f=some ⟨a,c,none⟩)
  (h:∀p,Kp [b] w p->aG p b (.cells (jT cs.toList 0 news).toArray T')->SG P n ops Q rest ((d,.int .i64 (news.length:Int))::L) p):SG P n ops Q (⟨some d,.call {callee:= .builtin .copy,args:= #[s,x],argTypes:= #[t,j]},ty,pos,af,g⟩::rest) L w:=by
 refine SG.op (by simpa using F) rfl M (by simpa[Op.operands,Call.operands] using G) ?_
 unfold bD
 obtain⟨i,A,B⟩:=z.eq
 have o:Nat.min news.length m=news.length:=Nat.min_eq_left H
 have r:(Builtin.firstCells i.size (Nat.min news.length m) (.slice f news.length c2)).run P w= .ok news.toArray w:=by
  rw[o,B]
  rcases I with rfl|⟨a,c,rfl⟩
  ·have:news=[]:=by
    cases news with
    |nil=>rfl
    |cons y l=>obtain⟨a,c,e⟩:=D (by simp);cases e
   subst this
   simp[Builtin.firstCells]
  ·simp only[Builtin.firstCells,loadCells,Nat.mul_one]
   by_cases q:news=[]
   ·subst q
    simp[loadCellsFrom]
   ·rw[run_loadCellsFrom (C a c rfl q) news.length 0 _ (by omega)]
    simp
 have v:=fi (P:=P) (b:=b) (off:=0) (T:=T') news 0 w cs k (by simp;omega) J
 have:(execOp (bH L) ⟨some d,.call {callee:= .builtin .copy,args:= #[s,x],argTypes:= #[t,j]},ty,pos,af,g⟩).run P w= .ok (.value (.int .i64 (news.length:Int))) {w with heap:=w.heap.setIfInBounds b (.cells (jT cs.toList 0 news).toArray T')}:=by
  have E:(Builtin.copy_ #[t,j] ty #[.slice (some ⟨b,0,none⟩) m c0,.slice f news.length c2]).run P w= .ok (.int .i64 (news.length:Int)) {w with heap:=w.heap.setIfInBounds b (.cells (jT cs.toList 0 news).toArray T')}:=by
   rw[o] at r
   simp only[Nat.add_zero] at v
   simp only[Builtin.copy_,getElem?_toArray,getElem?_cons_zero,getElem?_cons_succ,Sem.run_bind,run_underlying u.eq,Result.andThen_ok,sizeOf,typeInfo,run_program,A,Builtin.lenOf,Sem.run_pure,o,r,v,goInt]
  simp only[execOp,resolve,invoke,builtin,Sem.run_bind,Sem.run_pure,Result.andThen_ok,map_toArray,map_cons,map_nil,K,N,E]
 rw[this]
 exact h _ (Kp.set w k rfl rfl) (k.set _)
end
end
section
variable{s:Hs}{l r:List UInt8}{b c:Nat}{a:Option Addr}{w:World}
open Go.Proofs
abbrev iE:UInt8->List Value:=fun u=>[bv u]
theorem GM(l:List UInt8):bX iE l=l.map bv:=by
 induction l with
 |nil=>rfl
 |cons x l a=>simp[bX,iE] at a⊢;exact a
theorem Dh{off:Nat}(h:Sl iE 1 w (some ⟨b,off,none⟩) l)(i m:Nat)(j:i+m<=l.length)(n:0<m):Row w b (off+i*1) (((l.drop i).take m).map bv):=by
 have c:Sl iE 1 w (some ⟨b,off+i*1,none⟩) ((l.drop i).take m):=fun k x a=>by
  have d:k<((l.drop i).take m).length:=(List.getElem?_eq_some_iff.1 a).1
  have f:k<m:=by simp at d;omega
  rw[getElem?_take_of_lt f,getElem?_drop] at a
  refine⟨b,off+i*1,rfl,?_⟩
  have:=h.row a
  rwa [show off+(i+k)*1=off+i*1+k*1 from by omega] at this
 have g:(l.drop i).take m≠[]:=by
  intro e
  have:((l.drop i).take m).length=0:=by rw[e];rfl
  simp at this
  omega
 have:=Sl.flat (enc:=iE) (fun _=>rfl) g c
 rwa [GM] at this
theorem xF(s:Hs):∀(i:Nat) (l:List UInt8),iy s l (i+1)=dy (iy s l i) (val ((l.drop (i*8)).take 8):Int):=by
 intro i
 induction i generalizing s with
 |zero=>intro l;simp[iy]
 |succ i a=>
  intro l
  rw[iy,a,iy,drop_drop,show 8+i*8=(i+1)*8 from by omega]
def d8(l:List UInt8)(h:l.length=8):Dg:=⟨l,h⟩
attribute [local irreducible] CG NG SG aP aM Row aG aF aQ mH iZ xY rZ mA nc
theorem yf(y:aG w b (.cells (j6 s).toArray 202))(n:Sl iE 1 w a l)(A:∀f h,a=some ⟨f,h,none⟩->f≠b)(I:l.length<=1000000000)(G:l.length<=c):
  Calls prog 145 #[.pointer (some ⟨b,0,none⟩),.slice a l.length c] w (fun e g=>e= .returned (.tuple #[])/\Kp [b] w g/\aG g b (.cells (j6 (iy s l (l.length/8))).toArray 202)):=by
 refine bN func145 rfl ntmps145 rfl ?_
 have t:(l.length:Int)/8=((l.length/8:Nat):Int):=by omega
 repeat (first|apply ar|(apply au;rfl;(first|apply Qs|apply aB|apply dg)<;>first|rfl|exact zc))
 rw[t]
 refine CG.loop (X:=Nat) (fun d=>[(0,.pointer (some ⟨b,0,none⟩)),(1,.slice a l.length c),(7,.int .i64 ((l.length/8:Nat):Int)),(8,.int .i64 (d:Int))])
  (fun d g=>d<=l.length/8/\Kp [b] w g/\aG g b (.cells (j6 (iy s l d)).toArray 202)) (fun d=>l.length/8-d) 0 ⟨by omega,Kp.refl _ _,y⟩ (aS.of rfl) ?_
 rintro d q ⟨H,j,m⟩
 by_cases J:d<l.length/8
 ·have x:(d:Int)<((l.length/8:Nat):Int):=by omega
  obtain⟨f,h,rfl,_⟩:=n.at (i:=d) (by omega)
  have E:=A f h rfl
  have p:=Dh (n.kp j (fun F K e=>by cases e;exact bQ E)) (d*8) 8 (by omega) (by omega)
  have k:((l.drop (d*8)).take 8).length=8:=by simp;omega
  have p:Row q f (h+d*8*1) (dc (d8 _ k)):=p
  have u:(d:Int)*8=((d*8:Nat):Int):=by omega
  have v:((d*8:Nat):Int)+8=((d*8+8:Nat):Int):=by omega
  repeat (first|apply ar|refine ul ?_)
  refine bO rfl ?_
  repeat (first|apply ar|(apply au;rfl;(first|apply Hy|apply aB|apply aE|apply dp)<;>first|rfl|exact zc))
  rw[u]
  skip
  rw[v]
  repeat (apply au;rfl;(first|apply Sm|apply U5|apply bf)<;>first|rfl|assumption|exact zc|exact wn|apply ai)
  refine SG.ret rfl rfl rfl (by repeat' (first|exact True.intro|exact ag rfl|refine And.intro ?_ ?_)) (fj (d8 _ k) q) (fun L o=>?_)
  refine SG.call rfl rfl rfl (by repeat' (first|exact True.intro|exact ag rfl|refine And.intro ?_ ?_)) ((fN (m.az o) _).mono (fun e M C=>?_))
  obtain⟨B,D,z⟩:=C
  refine⟨_,B,?_⟩
  repeat (first|apply ar|refine wz ?_)
  refine NG.round (d+1) (aS.of rfl) ⟨by omega,(j.trans o.any).trans D,?_⟩ (by omega)
  rw[xF]
  exact z
 ·have x:¬(d:Int)<((l.length/8:Nat):Int):=by omega
  have r:d=l.length/8:=by omega
  subst r
  repeat (first|apply ar|refine un ?_)
  refine bA rfl ?_
  repeat apply ar
  refine oY (Or.inr rfl) results145 ?_
  exact⟨rfl,j,m⟩
def yH(r:List UInt8):List UInt8:=r++(1::replicate (7-r.length) 0)
theorem yG(h:r.length<8):(yH r).length=8:=by simp[yH];omega
theorem sS:∀k,val (replicate k (0:UInt8))=0
 |0=>rfl
 |k+1=>by rw[replicate_succ];simp[val,sS k]
theorem Gh(r:List UInt8):val (yH r)=val (r++[1]):=by
 unfold yH
 rw[show(1:UInt8)::replicate (7-r.length) 0=[1]++replicate (7-r.length) 0 from rfl,<-append_assoc,na,sS]
 simp
theorem IU(h:r.length<8):jT (dc zd) 0 (r.map bv)=r.map bv++(bv 0::replicate (7-r.length) (bv 0)):=by
 have e:dc zd=replicate 8 (bv 0):=rfl
 rw[e]
 simp only[jT,take_zero,nil_append,Nat.zero_add,length_map,drop_replicate]
 rw[show 8-r.length=(7-r.length)+1 from by omega,replicate_succ]
theorem Iq:jT (r.map bv++(bv 0::replicate (7-r.length) (bv 0))) r.length [bv 1]=(yH r).map bv:=by
 have:=nL (pre:=r.map bv) (old:=[bv 0]) (post:=replicate (7-r.length) (bv 0)) (l:=[bv 1]) rfl
 simp only[length_map] at this
 rw[show bv 0::replicate (7-r.length) (bv 0)=[bv 0]++replicate (7-r.length) (bv 0) from rfl,this]
 simp[yH]
def IP(r:List UInt8)(h:r.length<8):Dg:=⟨yH r,yG h⟩
theorem Cg(r:List UInt8):bI (r.map bv)=true:=by simp[bI,kY]
theorem qa5{P n o Q r L w d b t p f g v}(c:SG P n o Q r ((d,v)::L) w)(a:(Nat.blt d n&&(!fm b&&(want o L ⟨some d,b,t,p,f,g⟩==some true&&b.operands.toList.all (known L))))=true:=by rfl)(e:aP P [] w (fun _=>True) L ⟨some d,b,t,p,f,g⟩ v:=by (first|apply aB|apply bf)<;>first|rfl|assumption|exact wn|apply ai):SG P n o Q (⟨some d,b,t,p,f,g⟩::r) L w:=au a e c
theorem EB(D:aG w b (.cells (j6 s).toArray 202))(U:Sl iE 1 w a l)(V:l=[]/\a=none\/∃d f,a=some ⟨d,f,none⟩)(ae:∀d f,a=some ⟨d,f,none⟩->d≠b)(hl:l.length<=1000000000)(hc:l.length<=c):
  Calls prog 146 #[.pointer (some ⟨b,0,none⟩),.slice a l.length c] w (fun e i=>e= .returned (.tuple #[])/\Kp [b] w i/\aG i b (.cells (j6 (dy (dy s (val (l.drop (l.length/8*8)++[1]):Int)) (l.length:Int))).toArray 202)):=by
 refine bN func146 rfl ntmps146 rfl ?_
 have K:(l.length:Int)/8*8=((l.length/8*8:Nat):Int):=by omega
 generalize B:l.drop (l.length/8*8)=r
 have ac:r.length=l.length-l.length/8*8:=by rw[<-B];simp
 have q:r.length<8:=by omega
 have ah:=D.lt
 repeat apply ar
 refine SG.alloc rfl rfl rfl (fun k w1 A G x=>?_)
 have x:aG w1 k (.cells (dc zd).toArray 47):=x
 repeat apply ar
 refine CG.tail mixed 7 [0,1,2,3,4,5,6] (by kernel_rfl) ?_
 repeat (apply bW;rfl;rfl;(first|apply Hy|apply Qs|apply Vd|apply aB|apply dg)<;>first|rfl|exact zc)
 rw[K]
 have M:∃g C,(∀i,Kp [] w i->∀d f,g=some ⟨d,f,none⟩->r.map bv≠[]->Row i d f (r.map bv))/\(r≠[]->∃d f,g=some ⟨d,f,none⟩)/\(g=none\/∃d f,g=some (⟨d,f,none⟩:Addr))/\
   (∀(S:List Nat) (w0:World) (F:World->Prop) (L:Env) (pos:String) (af:Array Edge),ro L (.tmp 7)=some (.slice a l.length c)->ro L (.tmp 11)=some (.int .i64 ((l.length/8*8:Nat):Int))->aP prog S w0 F L ⟨some 12,.slice 33 (.tmp 7) (some (.tmp 11)) none none,33,pos,af,none⟩ (.slice g r.length C)):=by
  rcases V with⟨rfl,rfl⟩|⟨d,f,rfl⟩
  ·have ad:r=[]:=by rw[<-B];rfl
   subst ad
   exact⟨none,c,fun _ _ _ _ e=>absurd e (by simp),fun h=>absurd rfl h,Or.inl rfl,fun S w0 F L pos af u v=>qL (j:=0) u v (Nat.le_refl _)⟩
  ·refine⟨some ⟨d,if c=l.length/8*8 then f else f+l.length/8*8*1,none⟩,c-l.length/8*8,fun i W b3 al e Z=>?_,fun _=>⟨_,_,rfl⟩,Or.inr ⟨_,_,rfl⟩,fun S w0 F L pos af u v=>?_⟩
   ·simp only[Option.some.injEq,Addr.mk.injEq,and_true] at e
    obtain⟨rfl,rfl⟩:=e
    have ab:0<r.length:=by
     cases r with
     |nil=>exact absurd rfl Z
     |cons am r=>simp
    rw[if_neg (by omega)]
    have:=Dh (U.az W) (l.length/8*8) r.length (by omega) ab
    rwa [B,take_of_length_le (Nat.le_refl _)] at this
   ·rw[ac]
    exact oT (j:=l.length/8*8) (ag u) (ag v) (by omega)
 obtain⟨g,C,N,O,P,Q⟩:=M
 refine aM.val rfl rfl rfl (Q _ _ _ _ _ _ rfl rfl) ?_
 refine aM.tl (fun w2 p _ _=>?_)
 refine SG.copy (m:=8) (news:=r.map bv) rfl rfl rfl (ag rfl) (by rw[length_map];exact ag rfl) (x.az p) (by rw[length_map];omega) (by simp[ai]) (Cg r) (N w2 (A.trans p)) (fun h=>O (fun e=>h (by rw[e];rfl))) P (fun w3 H n=>?_)
 have n:aG w3 k (.cells (jT (dc zd) 0 (r.map bv)).toArray 47):=n
 rw[IU q] at n
 rw[length_map]
 repeat (first|apply ar|(apply au;rfl;(first|apply Ga|apply aB|apply aE)<;>first|rfl|exact zc))
 refine SG.store rfl rfl (ag rfl) (ag rfl) n rfl (by show 0+r.length*1+1<=_;simp) rfl (fun t I o=>?_)
 have o:aG t k (.cells (jT (r.map bv++(bv 0::replicate (7-r.length) (bv 0))) (0+r.length*1) [bv 1]).toArray 47):=o
 rw[show 0+r.length*1=r.length from by omega,Iq] at o
 have ak:Row t k 0 (dc (IP r q)):=Row.all o rfl
 repeat (first|apply ar|refine qa5 ?_)
 refine SG.ret rfl rfl rfl (by repeat' (first|exact True.intro|exact ag rfl|refine And.intro ?_ ?_)) (fj (IP r q) t) (fun w5 J=>?_)
 have T:aG w5 b (.cells (j6 s).toArray 202):=((((D.az A).az p).kp H (bQ (by omega))).kp I (bQ (by omega))).az J
 refine SG.call rfl rfl rfl (by repeat' (first|exact True.intro|exact ag rfl|refine And.intro ?_ ?_)) ((fN T _).mono (fun e w6 z=>?_))
 obtain⟨y,X,R⟩:=z
 refine⟨_,y,?_⟩
 repeat (first|apply ar|(apply au;rfl;first|(apply Gb<;>(first|rfl|exact zc))|((first|apply aB|apply dg)<;>(first|rfl|exact zc))))
 refine SG.call rfl rfl rfl (by repeat' (first|exact True.intro|exact ag rfl|refine And.intro ?_ ?_)) ((fN R _).mono (fun e w7 z=>?_))
 obtain⟨y,Y,E⟩:=z
 refine⟨_,y,?_⟩
 repeat apply ar
 refine oY (Or.inr rfl) results146 ?_
 have aa:num (IP r q)=val (r++[1]):=Gh r
 rw[aa] at E
 have k4:Kp [] w t:=((A.trans p).aj H (aW G)).aj I (aW G)
 exact⟨rfl,((k4.trans J).any.trans X).trans Y,E⟩
theorem rR(p:aG w b (.cells (j6 s).toArray 202))(j:Sl iE 1 w a l)(t:l=[]/\a=none\/∃d f,a=some ⟨d,f,none⟩)(g:∀d f,a=some ⟨d,f,none⟩->d≠b)(n:l.length<=1000000000)(k:l.length<=c):
  Calls prog 109 #[.pointer (some ⟨b,0,none⟩),.slice a l.length c] w (fun e o=>e= .returned (.tuple #[])/\Kp [b] w o/\aG o b (.cells (j6 (dH s l)).toArray 202)):=by
 refine bN func109 rfl ntmps109 rfl ?_
 repeat (first|apply ar|refine qa0 ?_)
 refine SG.call rfl rfl rfl (by repeat' (first|exact True.intro|exact ag rfl|refine And.intro ?_ ?_)) ((yf p j g n k).mono (fun e v i=>?_))
 obtain⟨h,m,q⟩:=i
 refine⟨_,h,?_⟩
 repeat (first|apply ar|refine qa0 ?_)
 refine SG.call rfl rfl rfl (by repeat' (first|exact True.intro|exact ag rfl|refine And.intro ?_ ?_)) ((EB q (j.kp m (fun d f e=>bQ (g d f e))) t g n k).mono (fun e x i=>?_))
 obtain⟨h,u,r⟩:=i
 refine⟨_,h,?_⟩
 repeat apply ar
 refine oY (Or.inr rfl) results109 ?_
 exact⟨rfl,m.trans u,r⟩
theorem oe(x:Sl iE 1 w a l)(y:l=[]/\a=none\/∃b d,a=some ⟨b,d,none⟩)(z:∀b d,a=some ⟨b,d,none⟩->b<w.heap.size)(F:l.length<=1000000000)(B:l.length<=c):
  dq prog 59 #[.slice a l.length c] w (dv (mB l)):=by
 refine bC func59 rfl ntmps59 rfl ?_
 repeat apply ar
 refine SG.alloc rfl rfl rfl (fun b p j A f=>?_)
 have f:aG p b (.cells (dc zd).toArray 47):=f
 have K:=f.lt
 repeat apply ar
 refine SG.ret rfl rfl rfl (by repeat' (first|exact True.intro|exact ag rfl|refine And.intro ?_ ?_)) (kj 1 p) (fun P h=>?_)
 refine SG.alloc rfl rfl rfl (fun r q i J g=>?_)
 have g:aG q r (.cells (j6 ⟨0,0,0,0⟩).toArray 202):=g
 refine SG.aN (old:=j6 ⟨0,0,0,0⟩) (l:=j6 (cL 1)) rfl rfl (ag rfl) (ag rfl) g rfl rfl rfl (fun H k t=>?_)
 have M:=j.size
 have N:=h.size
 have O:=i.size
 have G:Kp [] w q:=(j.trans h).trans i
 have o:Kp [] w H:=G.aj k (aW (by omega))
 repeat (first|apply ar|refine qa0 ?_)
 refine SG.call rfl rfl rfl (by repeat' (first|exact True.intro|exact ag rfl|refine And.intro ?_ ?_)) ((rR t (x.az o) y (fun s d e=>by have:=z s d e;omega) F B).mono (fun e Q D=>?_))
 obtain⟨C,m,u⟩:=D
 refine⟨_,C,?_⟩
 repeat apply ar
 refine SG.ret rfl rfl rfl (by repeat' (first|exact True.intro|exact ag rfl|refine And.intro ?_ ?_)) (j7 u) (fun R n=>?_)
 refine SG.aN (old:=dc zd) (l:=dc (mB l)) rfl rfl (ag rfl) (ag rfl) (((((f.az h).az i).kp k (bQ (by omega))).kp m (bQ (by omega))).az n) (ai _) (ai _) (bj _) (fun I E v=>?_)
 have L:Row I b 0 (dc (mB l)):=Row.all v rfl
 repeat apply ar
 refine aO (Or.inl rfl) results59 (by exact aD.agg rfl rfl (by assumption) (by first|exact ai _|exact nc_length _|exact rc_length _ _ _|exact aT _|exact dl_length _ _ _ _|exact bh _|exact bB _|exact bE _|exact ay _|rfl)) ?_
 exact⟨rfl,((o.aj m (aW (by omega))).trans n).aj E (aW A)⟩
theorem CZ(x y:Dg)(w:World):dq prog 197 #[dv x,dv y] w (dv (jR x y)):=by
 refine bN func197 rfl ntmps197 rfl ?_
 repeat apply ar
 refine SG.box rfl rfl rfl (ag rfl) (fun t M z R d=>?_)
 have d:aG M t (.cells (dc x).toArray 47):=d
 refine SG.box rfl rfl rfl (ag rfl) (fun k N r S f=>?_)
 have f:aG N k (.cells (dc y).toArray 47):=f
 refine SG.alloc rfl rfl rfl (fun s B g P c=>?_)
 have c:aG B s (.cells (dc zd).toArray 47):=c
 have T:=c.lt
 have U:=d.lt
 have V:=f.lt
 repeat apply ar
 refine SG.ret rfl rfl rfl (by repeat' (first|exact True.intro|exact ag rfl|refine And.intro ?_ ?_)) (kj 3 B) (fun w2 a=>?_)
 refine SG.alloc rfl rfl rfl (fun E C b Q m=>?_)
 have m:aG C E (.cells (j6 ⟨0,0,0,0⟩).toArray 202):=m
 refine SG.aN (old:=j6 ⟨0,0,0,0⟩) (l:=j6 (cL 3)) rfl rfl (ag rfl) (ag rfl) m rfl rfl rfl (fun j h F=>?_)
 have sa:=z.size
 have sb:=r.size
 have Y:=g.size
 have Z:=a.size
 have s3:=b.size
 have K:Kp [] w C:=(((z.trans r).trans g).trans a).trans b
 have L:Kp [] w j:=K.aj h (aW (by omega))
 have X:Row j t 0 (dc x):=((Row.all d rfl).az (((r.trans g).trans a).trans b)).kp h (bQ (by omega))
 have A:Row j k 0 (dc y):=((Row.all f rfl).az ((g.trans a).trans b)).kp h (bQ (by omega))
 repeat (first|apply ar|(apply au;rfl;apply bf<;>first|rfl|assumption|exact wn|apply ai))
 refine SG.ret rfl rfl rfl (by repeat' (first|exact True.intro|exact ag rfl|refine And.intro ?_ ?_)) (fj x j) (fun w5 i=>?_)
 refine SG.call rfl rfl rfl (by repeat' (first|exact True.intro|exact ag rfl|refine And.intro ?_ ?_)) ((fN (F.az i) _).mono (fun e D o=>?_))
 obtain⟨n,p,G⟩:=o
 refine⟨_,n,?_⟩
 have A:Row D k 0 (dc y):=(A.az i).kp p (bQ (by omega))
 repeat (first|apply ar|(apply au;rfl;apply bf<;>first|rfl|assumption|exact wn|apply ai))
 refine SG.ret rfl rfl rfl (by repeat' (first|exact True.intro|exact ag rfl|refine And.intro ?_ ?_)) (fj y D) (fun w7 q=>?_)
 refine SG.call rfl rfl rfl (by repeat' (first|exact True.intro|exact ag rfl|refine And.intro ?_ ?_)) ((fN (G.az q) _).mono (fun e w8 o=>?_))
 obtain⟨n,u,H⟩:=o
 refine⟨_,n,?_⟩
 repeat apply ar
 refine SG.ret rfl rfl rfl (by repeat' (first|exact True.intro|exact ag rfl|refine And.intro ?_ ?_)) (j7 H) (fun w9 v=>?_)
 refine SG.aN (old:=dc zd) (l:=dc (jR x y)) rfl rfl (ag rfl) (ag rfl) ((((((((c.az a).az b).kp h (bQ (by omega))).az i).kp p (bQ (by omega))).az q).kp u (bQ (by omega))).az v) (ai _) (ai _) (bj _) (fun O J I=>?_)
 have W:Row O s 0 (dc (jR x y)):=Row.all I rfl
 repeat apply ar
 refine aO (Or.inl rfl) results197 (by exact aD.agg rfl rfl (by assumption) (by first|exact ai _|exact nc_length _|exact rc_length _ _ _|exact aT _|exact dl_length _ _ _ _|exact bh _|exact bB _|exact bE _|exact ay _|rfl)) ?_
 exact⟨rfl,(((((L.trans i).aj p (aW (by omega))).trans q).aj u (aW (by omega))).trans v).aj J (aW (by omega))⟩
theorem BH{l:List Dg}(c:Nat)(P:Sl dc 8 w a l)(T:∀b D,a=some ⟨b,D,none⟩->b<w.heap.size)(Z:l.length<=1000000000):
  dq prog 170 #[.slice a l.length c] w (dv (tB l)):=by
 refine bC func170 rfl ntmps170 rfl ?_
 repeat apply ar
 refine SG.alloc rfl rfl rfl (fun b E B U j=>?_)
 have j:aG E b (.cells (dc zd).toArray 47):=j
 have aa:=j.lt
 repeat apply ar
 refine SG.ret rfl rfl rfl (by repeat' (first|exact True.intro|exact ag rfl|refine And.intro ?_ ?_)) (kj 5 E) (fun w2 s=>?_)
 refine SG.alloc rfl rfl rfl (fun o F t V k=>?_)
 have k:aG F o (.cells (j6 ⟨0,0,0,0⟩).toArray 202):=k
 refine SG.aN (old:=j6 ⟨0,0,0,0⟩) (l:=j6 (cL 5)) rfl rfl (ag rfl) (ag rfl) k rfl rfl rfl (fun y u L=>?_)
 have s1:=B.size
 have s2:=s.size
 have s3:=t.size
 have Q:Kp [] w F:=(B.trans s).trans t
 have R:Kp [] w y:=Q.aj u (aW (by omega))
 have ab:=k.lt
 have s4:=u.size
 have K:aG y b (.cells (dc zd).toArray 47):=((j.az s).az t).kp u (bQ (by omega))
 repeat (first|apply ar|(apply au;rfl;(first|apply aB|apply dg)<;>rfl))
 refine CG.loop (X:=Nat) (fun i=>[(0,.slice a l.length c),(2,.pointer (some ⟨b,0,none⟩)),(3,.pointer (some ⟨o,0,none⟩)),(7,.slice a l.length c),(8,.int .i64 (l.length:Int)),(9,.int .i64 (i:Int))])
  (fun i n=>i<=l.length/\Kp [] w n/\y.heap.size<=n.heap.size/\aG n o (.cells (j6 (pU (cL 5) (l.take i))).toArray 202)/\aG n b (.cells (dc zd).toArray 47)) (fun i=>l.length-i) 0 ⟨by omega,R,Nat.le_refl _,by simpa[pU] using L,K⟩ (aS.of rfl) ?_
 rintro i w5 ⟨Y,x,s5,m,p⟩
 by_cases C:i<l.length
 ·have J:(i:Int)<(l.length:Int):=by omega
  obtain⟨S,D,rfl,ae⟩:=(P.az x).at C
  repeat (first|apply ar|refine ul ?_)
  refine bO rfl ?_
  repeat (first|apply ar|(apply au;rfl;(first|apply bf|apply fa)<;>first|rfl|assumption|exact zc|exact wn|apply ai))
  refine SG.alloc rfl rfl rfl (fun A G d W h=>?_)
  have h:aG G A (.cells (dc zd).toArray 47):=h
  refine SG.aN (old:=dc zd) (l:=dc l[i]) rfl rfl (ag rfl) (ag rfl) h (ai _) (ai _) (bj _) (fun z f M=>?_)
  have ad:Row z A 0 (dc l[i]):=Row.all M rfl
  have l5:=m.lt
  have af:=p.lt
  repeat (first|apply ar|(apply au;rfl;apply bf<;>first|rfl|assumption|exact wn|apply ai))
  refine SG.ret rfl rfl rfl (by repeat' (first|exact True.intro|exact ag rfl|refine And.intro ?_ ?_)) (fj l[i] z) (fun H g=>?_)
  refine SG.call rfl rfl rfl (by repeat' (first|exact True.intro|exact ag rfl|refine And.intro ?_ ?_)) ((fN (((m.az d).kp f (bQ (by omega))).az g) _).mono (fun e w9 r=>?_))
  obtain⟨q,v,O⟩:=r
  refine⟨_,q,?_⟩
  repeat (first|apply ar|refine wz ?_)
  have s6:=d.size
  have s7:=f.size
  have s8:=g.size
  have s9:=v.size
  refine NG.round (i+1) (aS.of rfl) ⟨by omega,(((x.trans d).aj f (aW (by omega))).trans g).aj v (aW (by omega)),by omega,?_,(((p.az d).kp f (bQ (by omega))).az g).kp v (bQ (by omega))⟩ (by omega)
  rw[take_succ_eq_append_getElem C,uD]
  exact O
 ·have J:¬(i:Int)<(l.length:Int):=by omega
  have I:i=l.length:=by omega
  subst I
  rw[take_of_length_le (Nat.le_refl _)] at m
  repeat (first|apply ar|refine un ?_)
  refine bA rfl ?_
  repeat (first|apply ar|(apply au;rfl;first|(apply Gb<;>(first|rfl|exact zc))|((first|apply aB|apply dg)<;>(first|rfl|exact zc))))
  refine SG.call rfl rfl rfl (by repeat' (first|exact True.intro|exact ag rfl|refine And.intro ?_ ?_)) ((fN m _).mono (fun e G r=>?_))
  obtain⟨q,d,h⟩:=r
  refine⟨_,q,?_⟩
  repeat apply ar
  refine SG.ret rfl rfl rfl (by repeat' (first|exact True.intro|exact ag rfl|refine And.intro ?_ ?_)) (j7 h) (fun z f=>?_)
  refine SG.aN (old:=dc zd) (l:=dc (tB l)) rfl rfl (ag rfl) (ag rfl) ((p.kp d (bQ (by omega))).az f) (ai _) (ai _) (bj _) (fun H g N=>?_)
  have ac:Row H b 0 (dc (tB l)):=Row.all N rfl
  repeat apply ar
  refine aO (Or.inl rfl) results170 (by exact aD.agg rfl rfl (by assumption) (by first|exact ai _|exact nc_length _|exact rc_length _ _ _|exact aT _|exact dl_length _ _ _ _|exact bh _|exact bB _|exact bE _|exact ay _|rfl)) ?_
  exact⟨rfl,((x.aj d (aW (by omega))).trans f).aj g (aW (by omega))⟩
end
section
variable{b l:List UInt8}{c:Nat}{x y:Operand}{a:Option Addr}{E T T':TypeId}
def sv(l:List UInt8):Value:= .string ⟨l.toArray⟩
section
variable {P:Program} {S:List Nat} {w0:World} {F:World->Prop} {L:Env} {d:Option Nat} {ty:TypeId} {pos:String} {af:Array Edge} {g:Option (Nat×Bool)}
theorem FK[u:Ut P T (.slice E)][e:Ut P E (.int .u8)][t:Ut P T' .string](B:bH L x= .slice a l.length c)(h:Sl (fun u:UInt8=>[bv u]) 1 w0 a l)(o:∀b f,a=some ⟨b,f,none⟩->b∉S):
  aP P S w0 F L ⟨d,.convert T T' x,ty,pos,af,g⟩ (sv l):=fun w q _=>by
 have n:=h.kp q (fun b f e s=>o b f e s)
 have A:(convert T T' (.slice a l.length c)).run P w= .ok (sv l) w:=by
  cases a with
  |none=>
   have r:l=[]:=by
    cases l with
    |nil=>rfl
    |cons y l=>
     obtain⟨b,f,e,_⟩:=h 0 y rfl
     cases e
   subst r
   rw[run_convert_bytes_string w T T' E none _ c u.eq e.eq t.eq]
   rfl
  |some k=>
   refine run_convert_bytes_back w T T' E k c l u.eq e.eq t.eq (fun j p=>?_)
   obtain⟨b,f,m,z⟩:=n j l[j] (getElem?_eq_getElem p)
   cases m
   have:=z.cell (i:=0) (v:=bv l[j]) rfl
   rw[dQ]
   simpa[Nat.mul_one] using this
 simp only[execOp,B,Sem.run_bind,A,Result.andThen,Sem.run_pure]
theorem CP{a:List UInt8}(c:bH L x=sv a)(e:bH L y=sv b):aP P S w0 F L ⟨d,.binOp .eql T x y T',ty,pos,af,g⟩ (.bool (decide (a=b))):=fun w _ _=>by
 simp only[sv] at c e
 simp[execOp,c,e,eqGuard,binOp_string_eql]
 by_cases h:a=b<;>simp[h]
theorem Sn[u:Ut P T (.slice E)][e:Ut P E (.int .u8)][t:Ut P T' .string]{n:Nat}(j:ro L x=some (.slice a n c))(f:Sl (fun u:UInt8=>[bv u]) 1 w0 a l)(i:n=l.length)(h:∀b k,a=some ⟨b,k,none⟩->b∉S):
  aP P S w0 F L ⟨d,.convert T T' x,ty,pos,af,g⟩ (sv l):=by
 subst i
 exact FK (u:=u) (e:=e) (t:=t) (ag j) f h
theorem Vc{a:List UInt8}{c:Bool}(e:ro L x=some (sv a))(f:ro L y=some (sv b))(h:Dc (a=b) c):aP P S w0 F L ⟨d,.binOp .eql T x y T',ty,pos,af,g⟩ (.bool c):=h.eq▸CP (ag e) (ag f)
end
end
section
theorem Kp.Ce(w:World)(o:Obj):Kp [] w (w.drew.alloc o):=by
 refine⟨by show w.heap.size<=(w.heap.push o).size;simp,fun b d _=>?_,rfl,rfl,rfl,fun a c=>?_,Nat.le_succ _⟩
 ·show(w.heap.push o)[b]?=_
  rw[Array.getElem?_push,if_neg (by omega)]
 ·refine jn ?_
  show(w.heap.push o)[a.block]?=_
  rw[Array.getElem?_push,if_neg (by omega)]
section
variable {P:Program} {n:Nat} {ops:List Oper} {Q:Exit->Act->World->Prop} {w:World} {L:Env} {ty:TypeId} {pos:String} {af:Array Edge} {g:Option (Nat×Bool)} {rest:List Oper}
end
section
variable {P:Program} {S:List Nat} {w0:World} {F:World->Prop} {L:Env} {d:Option Nat} {ty:TypeId} {pos:String} {af:Array Edge} {g:Option (Nat×Bool)}
end
end
section
variable{E T T':TypeId}
section
variable {P:Program} {n:Nat} {ops:List Oper} {Q:Exit->Act->World->Prop} {w:World} {L:Env} {ty:TypeId} {pos:String} {af:Array Edge} {g:Option (Nat×Bool)} {rest:List Oper}
theorem Dk[u:Ut P T .string][u':Ut P T' (.slice E)][e:Ut P E (.int .u8)](w:World)(l:List UInt8):
  ∃c f k,l.length<=c/\(convert T T' (sv l)).run P w= .ok (.slice (some ⟨w.heap.size,0,none⟩) l.length c) (w.drew.alloc (.cells f E k))/\Sl (fun u:UInt8=>[bv u]) 1 (w.drew.alloc (.cells f E k)) (some ⟨w.heap.size,0,none⟩) l:=by
 have h:=run_bytes_of_string (P:=P) w T T' E ⟨l.toArray⟩ u.eq u'.eq e.eq
 have m:=grownCap_ge w (ByteArray.mk l.toArray).size 0 E
 generalize p:grownCap w (ByteArray.mk l.toArray).size 0 E=c at h m
 refine⟨c,bytesRow ⟨l.toArray⟩ c,((bytesRow ⟨l.toArray⟩ c).size,(bytesRow ⟨l.toArray⟩ c).size+1),m,h,fun i x d=>⟨w.heap.size,0,rfl,bytesRow ⟨l.toArray⟩ c,E,((bytesRow ⟨l.toArray⟩ c).size,(bytesRow ⟨l.toArray⟩ c).size+1),?_,?_⟩⟩
 ·show(w.heap.push _)[w.heap.size]?=_
  rw[Array.getElem?_push,if_pos rfl]
 ·intro j v b
  have o:j=0:=by have:=(List.getElem?_eq_some_iff.1 b).1;simp at this;omega
  subst o
  simp only[getElem?_cons_zero,Option.some.injEq] at b
  subst b
  have a:i<l.length:=(List.getElem?_eq_some_iff.1 d).1
  rw[getElem?_eq_getElem a,Option.some.injEq] at d
  subst d
  simp only[bytesRow,Nat.mul_one,Nat.zero_add,Nat.add_zero]
  rw[Array.getElem?_append_left (by simpa using a)]
  simp[a]
theorem SG.JY[u:Ut P T .string][u':Ut P T' (.slice E)][e:Ut P E (.int .u8)]{d:Nat}{x:Operand}{l:List UInt8}(o:Nat.blt d n=true)(q:want ops L ⟨some d,.convert T T' x,ty,pos,af,g⟩=some true)(p:known L x=true)(r:ro L x=some (sv l))
  (h:∀b c a,Kp [] w a->w.heap.size<=b->l.length<=c->b<a.heap.size->Sl (fun u:UInt8=>[bv u]) 1 a (some ⟨b,0,none⟩) l->SG P n ops Q rest ((d,.slice (some ⟨b,0,none⟩) l.length c)::L) a):SG P n ops Q (⟨some d,.convert T T' x,ty,pos,af,g⟩::rest) L w:=by
 refine SG.op (by simpa using o) rfl q (by simpa[Op.operands] using p) ?_
 unfold bD
 obtain⟨c,f,i,j,k,m⟩:=Dk (P:=P) (T:=T) (T':=T') (u:=u) (u':=u') (e:=e) w l
 have:(execOp (bH L) ⟨some d,.convert T T' x,ty,pos,af,g⟩).run P w= .ok (.value (.slice (some ⟨w.heap.size,0,none⟩) l.length c)) (w.drew.alloc (.cells f E i)):=by
  simp only[execOp,ag r,Sem.run_bind,k,Result.andThen,Sem.run_pure]
 rw[this]
 exact h _ _ _ (Kp.Ce w _) (Nat.le_refl _) j (by show w.heap.size<(w.heap.push _).size;simp) m
end
end
section
def lF(n:Int):Prop:=0<=n/\n<=1125899906842624
instance(n:Int):Decidable (lF n):=by unfold lF;infer_instance
def oW:List Int->Int->Option Int
 |[],s=>some s
 |n::l,s=>if lF s/\lF n/\lF (s+n) then oW l (s+n) else none
def dX(d:Dg)(l:List UInt8):Dg:=cV (dH (dy (cL 4) (num d:Int)) l)
attribute [local irreducible] CG NG SG aP aM Row aG aF aQ num dy dH cV cL
theorem nf(n:Int)(w:World):dq prog 193 #[.int .i64 n] w (.bool (decide (lF n))):=by
 refine bC func193 rfl ntmps193 rfl ?_
 by_cases a:0<=n
 ·by_cases b:n<=1125899906842624
  ·rw[decide_eq_true ⟨a,b⟩]
   repeat (first|apply ar|(apply au;rfl;(first|apply aB|apply aE|apply cI|apply Cq|apply ji)<;>first|rfl|exact qf))
   refine aO (Or.inl rfl) results193 (aD.tmp rfl) ?_
   exact⟨rfl,Kp.refl _ _⟩
  ·rw[decide_eq_false (fun h=>b h.2)]
   repeat (first|apply ar|(apply au;rfl;(first|apply aB|apply aE|apply cI|apply Cq|apply ji)<;>first|rfl|exact qf|exact qr))
   refine aO (Or.inl rfl) results193 (aD.tmp rfl) ?_
   exact⟨rfl,Kp.refl _ _⟩
 ·rw[decide_eq_false (fun h=>a h.1)]
  repeat (first|apply ar|(apply au;rfl;(first|apply aB|apply aE|apply cI|apply ji)<;>first|rfl|exact qr)|refine SG.skip rfl rfl ?_)
  refine aO (Or.inl rfl) results193 (aD.tmp rfl) ?_
  exact⟨rfl,Kp.refl _ _⟩
theorem wt{P n o Q r L w d b t p f g v}(c:SG P n o Q r ((d,v)::L) w)(a:(Nat.blt d n&&(!fm b&&(want o L ⟨some d,b,t,p,f,g⟩==some true&&b.operands.toList.all (known L))))=true:=by rfl)(e:aP P [] w (fun _=>True) L ⟨some d,b,t,p,f,g⟩ v:=by apply aE<;>rfl):SG P n o Q (⟨some d,b,t,p,f,g⟩::r) L w:=au a e c
theorem qb2{P n o Q r L w d b t p f g v}(c:SG P n o Q r ((d,v)::L) w)(a:(Nat.blt d n&&(!fm b&&(want o L ⟨some d,b,t,p,f,g⟩==some true&&b.operands.toList.all (known L))))=true:=by rfl)(e:aP P [] w (fun _=>True) L ⟨some d,b,t,p,f,g⟩ v:=by (first|apply aB|apply ig)<;>rfl):SG P n o Q (⟨some d,b,t,p,f,g⟩::r) L w:=au a e c
theorem zw(a b:Int)(w:World):dq prog 172 #[.int .i64 a,.int .i64 b] w (if lF a/\lF b/\lF (a+b) then .tuple #[.int .i64 (a+b),.int .i64 0] else .tuple #[.int .i64 0,.int .i64 2]):=by
 refine bN func172 rfl ntmps172 rfl ?_
 have no:∀{L:Env} {j:World},¬(lF a/\lF b/\lF (a+b))->Kp [] w j->look L 4=some (.int .i64 0)->look L 5=some (.int .i64 2)->NG 24 .ret (bodyPost prog Tryz.f172 (fun e j=>e= .returned (if lF a/\lF b/\lF (a+b) then .tuple #[.int .i64 (a+b),.int .i64 0] else .tuple #[.int .i64 0,.int .i64 2])/\Kp [] w j)) L j:=
  fun c n l m=>dT (Or.inl rfl) results172 (aD.tmp l) (aD.tmp m) ⟨by rw[if_neg c],n⟩
 repeat (first|apply ar|refine ww ?_)
 refine SG.ret rfl rfl rfl (by repeat' (first|exact True.intro|exact ag rfl|refine And.intro ?_ ?_)) (nf a _) (fun p k=>?_)
 by_cases d:lF a
 rotate_left
 ·rw[decide_eq_false d]
  repeat (first|apply ar|(apply au;rfl;(first|apply aB|apply cI|apply ig)<;>rfl)|refine SG.skip rfl rfl ?_)
  refine bO rfl ?_
  repeat (first|apply ar|refine wt ?_)
  exact no (fun h=>d h.1) k rfl rfl
 rw[decide_eq_true d]
 repeat refine qb2 ?_
 refine SG.ret rfl rfl rfl (by repeat' (first|exact True.intro|exact ag rfl|refine And.intro ?_ ?_)) (nf b _) (fun q g=>?_)
 have g:=k.trans g
 by_cases c:lF b
 rotate_left
 ·rw[decide_eq_false c]
  repeat (first|apply ar|(apply au;rfl;(first|apply aB|apply cI|apply ig)<;>rfl)|refine SG.skip rfl rfl ?_)
  refine bO rfl ?_
  repeat (first|apply ar|refine wt ?_)
  exact no (fun h=>c h.2.1) g rfl rfl
 rw[decide_eq_true c]
 have o:Ar (-9223372036854775808<=a+b/\a+b<=9223372036854775807):=Ar.mk (by unfold lF at d c;omega)
 repeat (apply au;rfl;(first|apply aB|apply cI|apply dp|apply ig)<;>first|rfl|assumption)
 refine SG.ret rfl rfl rfl (by repeat' (first|exact True.intro|exact ag rfl|refine And.intro ?_ ?_)) (nf (a+b) _) (fun r i=>?_)
 have i:=g.trans i
 by_cases f:lF (a+b)
 rotate_left
 ·rw[decide_eq_false f]
  repeat (first|apply ar|(apply au;rfl;(first|apply cI|apply ig)<;>rfl))
  refine bO rfl ?_
  repeat (first|apply ar|refine wt ?_)
  exact no (fun h=>f h.2.2) i rfl rfl
 rw[decide_eq_true f]
 repeat (first|apply ar|(apply au;rfl;(first|apply cI|apply ig)<;>rfl))
 refine bA rfl ?_
 repeat (first|apply ar|(apply au;rfl;(first|apply aB|apply aE|apply dp)<;>first|rfl|assumption))
 refine dT (Or.inl rfl) results172 (aD.tmp rfl) (aD.tmp rfl) ?_
 exact⟨by rw[if_pos ⟨d,c,f⟩],i⟩
theorem iA(d:Dg)(l:List UInt8)(Q:l.length<=1000)(w:World):dq prog 92 #[dv d,sv l] w (dv (dX d l)):=by
 refine bN func92 rfl ntmps92 rfl ?_
 repeat apply ar
 refine SG.box rfl rfl rfl (ag rfl) (fun z wa x P j=>?_)
 refine SG.alloc rfl rfl rfl (fun i y m N a=>?_)
 have a:aG y i (.cells (dc zd).toArray 47):=a
 have J:=a.lt
 have L:=j.lt
 repeat apply ar
 refine SG.ret rfl rfl rfl (by repeat' (first|exact True.intro|exact ag rfl|refine And.intro ?_ ?_)) (kj 4 y) (fun Z g=>?_)
 refine SG.alloc rfl rfl rfl (fun I w3 h O r=>?_)
 refine SG.aN (old:=j6 ⟨0,0,0,0⟩) (l:=j6 (cL 4)) rfl rfl (ag rfl) (ag rfl) r rfl rfl rfl (fun q n A=>?_)
 have Y:=x.size
 have V:=m.size
 have W:=g.size
 have X:=h.size
 have G:Kp [] w q:=(((x.trans m).trans g).trans h).aj n (aW (by omega))
 have U:Row q z 0 (dc d):=((Row.all j rfl).az ((m.trans g).trans h)).kp n (bQ (by omega))
 have a:=(a.az (g.trans h)).kp n (bQ (by omega))
 clear j r
 repeat (first|apply ar|(apply au;rfl;apply bf<;>first|rfl|assumption|exact wn|apply ai))
 refine SG.ret rfl rfl rfl (by repeat' (first|exact True.intro|exact ag rfl|refine And.intro ?_ ?_)) (fj d q) (fun w5 o=>?_)
 refine SG.call rfl rfl rfl (by repeat' (first|exact True.intro|exact ag rfl|refine And.intro ?_ ?_)) ((fN (A.az o) _).mono (fun e w6 k=>?_))
 obtain⟨f,t,s⟩:=k
 refine⟨_,f,?_⟩
 clear f
 have K:=s.lt
 repeat (first|apply ar|refine qa0 ?_)
 refine SG.JY rfl rfl rfl rfl (fun b c w7 p M E R D=>?_)
 refine SG.call rfl rfl rfl (by repeat' (first|exact True.intro|exact ag rfl|refine And.intro ?_ ?_)) ((rR (s.az p) D (Or.inr ⟨_,_,rfl⟩) (fun i T e=>by cases e;omega) (by omega) E).mono (fun e w8 k=>?_))
 obtain⟨f,u,B⟩:=k
 refine⟨_,f,?_⟩
 clear f
 repeat apply ar
 refine SG.ret rfl rfl rfl (by repeat' (first|exact True.intro|exact ag rfl|refine And.intro ?_ ?_)) (j7 B) (fun w9 v=>?_)
 refine SG.aN (old:=dc zd) (l:=dc (dX d l)) rfl rfl (ag rfl) (ag rfl) (((((a.az o).kp t (bQ (by omega))).az p).kp u (bQ (by omega))).az v) (ai _) (ai _) (bj _) (fun H F C=>?_)
 have S:Row H i 0 (dc (dX d l)):=Row.all C rfl
 repeat apply ar
 refine aO (Or.inl rfl) results92 (by exact aD.agg rfl rfl (by assumption) (by first|exact ai _|exact nc_length _|exact rc_length _ _ _|exact aT _|exact dl_length _ _ _ _|exact bh _|exact bB _|exact bE _|exact ay _|rfl)) ?_
 exact⟨rfl,(((((G.trans o).aj t (aW (by omega))).trans p).aj u (aW (by omega))).trans v).aj F (aW (by omega))⟩
end
section
section
variable {α κ:Type} (key:α->κ) (non fee:α->Int)
def zR(l:List α)(e:α):Prop:=∀o∈l,key o=key e->non e<=non o
structure sw(X:List α)(a:α)(Y:List α):Prop where
 f:zR key non (X++a::Y) a
 max:∀e∈X++a::Y,zR key non (X++a::Y) e->fee e<=fee a
 ear:∀e∈X,zR key non (X++a::Y) e->fee e<fee a
inductive Ord:List α->List α->Prop
 |nil:Ord [] []
 |step (X:List α) (a:α) (Y r:List α):sw key non fee X a Y->Ord (X++Y) r->Ord (X++a::Y) (a::r)
variable {key non fee}
theorem yr{X X' Y c:List α}{a d:α}(h:X++a::Y=X'++d::c)(f:X.length=X'.length):X=X'/\a=d/\Y=c:=by
 obtain⟨e,b⟩:=append_inj h f
 simp only[List.cons.injEq] at b
 exact⟨e,b.1,b.2⟩
theorem De{X X' Y c:List α}{a d:α}(h:X++a::Y=X'++d::c)(e:X.length<X'.length):a∈X':=by
 have b:(X++a::Y)[X.length]?=some a:=by simp
 rw[h,getElem?_append_left e] at b
 exact mem_of_getElem? b
theorem sw.uniq{X X' Y c:List α}{a b:α}(h:sw key non fee X a Y)(k:sw key non fee X' b c)(e:X++a::Y=X'++b::c):X=X'/\a=b/\Y=c:=by
 have g:∀{X X' Y c:List α} {a b:α},sw key non fee X a Y->sw key non fee X' b c->X++a::Y=X'++b::c->¬X.length<X'.length:=fun{X X' Y c a b} h k e j=>by
  have d:=De e j
  have i:=k.ear a d (by rw[<-e];exact h.f)
  have l:=h.max b (by rw[e];simp) (by rw[e];exact k.f)
  omega
 have d:=g h k e
 have i:=g k h e.symm
 exact yr e (by omega)
theorem Ord.uniq{l r c:List α}(h:Ord key non fee l r)(k:Ord key non fee l c):r=c:=by
 induction h generalizing c with
 |nil=>
  generalize b:([]:List α)=l at k
  cases k with
  |nil=>rfl
  |step X a Y r _ _=>simp at b
 |step X a Y r d n g=>
  generalize b:X++a::Y=l at k
  cases k with
  |nil=>simp at b
  |step i m j c e f=>
   obtain⟨rfl,rfl,rfl⟩:=d.uniq e b
   rw[g f]
theorem AQ(F:α->Prop):∀{l:List α},(∃e∈l,F e)->∃X a Y,l=X++a::Y/\F a/\(∀e∈l,F e->fee e<=fee a)/\(∀e∈X,F e->fee e<fee a)
 |[],⟨e,h,_⟩=>by cases h
 |x::t,m=>by
  by_cases g:∃e∈t,F e
  ·obtain⟨X,a,Y,rfl,j,i,k⟩:=AQ F g
   by_cases d:F x/\fee a<=fee x
   ·refine⟨[],x,X++a::Y,rfl,d.1,fun e b c=>?_,fun e b=>(by cases b)⟩
    rcases mem_cons.1 b with rfl|b
    ·exact Int.le_refl _
    ·exact Int.le_trans (i e b c) d.2
   ·refine⟨x::X,a,Y,rfl,j,fun e b c=>?_,fun e b c=>?_⟩
    ·rcases mem_cons.1 b with rfl|b
     ·exact Int.le_of_lt (Int.lt_of_not_ge (fun h=>d ⟨c,h⟩))
     ·exact i e b c
    ·rcases mem_cons.1 b with rfl|b
     ·exact Int.lt_of_not_ge (fun h=>d ⟨c,h⟩)
     ·exact k e b c
  ·obtain⟨e,b,c⟩:=m
   rcases mem_cons.1 b with rfl|b
   ·refine⟨[],e,t,rfl,c,fun o f n=>?_,fun e b=>(by cases b)⟩
    rcases mem_cons.1 f with rfl|f
    ·exact Int.le_refl _
    ·exact absurd ⟨o,f,n⟩ g
   ·exact absurd ⟨e,b,c⟩ g
theorem DU(non:α->Int):∀{l:List α},l≠[]->∃e∈l,∀o∈l,non e<=non o
 |[],h=>absurd rfl h
 |[x],_=>⟨x,by simp,fun o a=>by simp at a;rw[a];exact Int.le_refl _⟩
 |x::y::t,_=>by
  obtain⟨e,c,b⟩:=DU non (l:=y::t) (by simp)
  by_cases h:non x<=non e
  ·refine⟨x,mem_cons_self,fun o a=>?_⟩
   rcases mem_cons.1 a with rfl|a
   ·exact Int.le_refl _
   ·exact Int.le_trans h (b o a)
  ·refine⟨e,mem_cons_of_mem _ c,fun o a=>?_⟩
   rcases mem_cons.1 a with rfl|a
   ·omega
   ·exact b o a
theorem Ord.ex(n:Nat):∀{l:List α},l.length=n->∃r,Ord key non fee l r:=by
 induction n with
 |zero=>intro l b;exact⟨[],by rw[length_eq_zero_iff.1 b];exact .nil⟩
 |succ n m=>
  intro l b
  obtain⟨e,c,d⟩:=DU non (l:=l) (by intro h;rw[h] at b;cases b)
  obtain⟨X,a,Y,rfl,f,g,i⟩:=AQ (fee:=fee) (zR key non l) ⟨e,c,fun o j _=>d o j⟩
  obtain⟨r,k⟩:=m (l:=X++Y) (by simp at b⊢;omega)
  exact⟨a::r,.step X a Y r ⟨f,g,i⟩ k⟩
variable (key non fee)
noncomputable def Bw(l:List α):List α:=Classical.choose (Ord.ex (key:=key) (non:=non) (fee:=fee) l.length (l:=l) rfl)
variable {key non fee}
theorem o5(l:List α):Ord key non fee l (Bw key non fee l):=Classical.choose_spec (Ord.ex (key:=key) (non:=non) (fee:=fee) l.length (l:=l) rfl)
theorem Ord.eq{l r:List α}(h:Ord key non fee l r):Bw key non fee l=r:=(o5 l).uniq h
theorem Ord.perm{l r:List α}(h:Ord key non fee l r):r.Perm l:=by
 induction h with
 |nil=>exact Perm.refl _
 |step X a Y r _ _ b=>exact(b.cons a).trans perm_middle.symm
theorem o6(l:List α):(Bw key non fee l).Perm l:=(o5 l).perm
theorem wu(l:List α):(Bw key non fee l).length=l.length:=(o6 l).length_eq
def Sf(key:α->κ)(non:α->Int)(l:List α):Prop:=l.Pairwise (fun a b=>¬(key a=key b/\non a=non b))
def stays[DecidableEq κ](key:α->κ)(non:α->Int)(x:List α)(e:α):Bool:= !(x.any (fun t=>decide (key t=key e/\non e<=non t)))
end
theorem Ord.map{j p s:Type}{key:j->s}{non fee:j->Int}(f:p->j){l r:List p}(h:Ord (fun b=>key (f b)) (fun b=>non (f b)) (fun b=>fee (f b)) l r):Ord key non fee (l.map f) (r.map f):=by
 induction h with
 |nil=>exact .nil
 |step X a Y r e c n=>
  rw[map_append,map_cons,map_cons]
  rw[map_append] at n
  refine .step _ _ _ _ ?_ n
  have k:∀b,zR key non (X.map f++f a::Y.map f) (f b)->zR (fun b=>key (f b)) (fun b=>non (f b)) (X++a::Y) b:=fun b q o c i=>by
   refine q (f o) ?_ i
   have:=mem_map_of_mem (f:=f) c
   rwa [map_append,map_cons] at this
  refine⟨fun o c i=>?_,fun o c g=>?_,fun o c g=>?_⟩
  ·rw[<-map_cons,<-map_append] at c
   obtain⟨b,d,rfl⟩:=mem_map.1 c
   exact e.f b d i
  ·have m:=c
   rw[<-map_cons,<-map_append] at m
   obtain⟨b,d,rfl⟩:=mem_map.1 m
   exact e.max b d (k b g)
  ·obtain⟨b,d,rfl⟩:=mem_map.1 c
   exact e.ear b d (k b g)
end
section
variable{n room:Int}
def lO:List UInt8->Nat
 |[]=>0
 |b::r=>b.toNat%128+128*lO r
def fT:Nat->List UInt8->Nat
 |0,_=>0
 |_+1,[]=>0
 |f+1,b::r=>if b.toNat<128 then 0 else fT f r+1
theorem Ad:∀(f:Nat) (l:List UInt8),fT f l<=f/\fT f l<=l.length
 |0,l=>by simp[fT]
 |f+1,[]=>by simp[fT]
 |f+1,b::r=>by
  have:=Ad f r
  simp only[fT,length_cons]
  split<;>omega
theorem uo:∀{f:Nat} {l:List UInt8} {k:Nat},k<=f->(h:k<=l.length)->(∀j (m:j<k),128<=(l[j]'(by omega)).toNat)->(k=f\/k=l.length\/∃h:k<l.length,l[k].toNat<128)->fT f l=k
 |0,l,k,g,_,_,_=>by simp[fT];omega
 |f+1,[],k,_,a,_,_=>by simp[fT] at a⊢;omega
 |f+1,b::r,k,g,a,c,d=>by
  simp only[fT]
  cases k with
  |zero=>
   rcases d with h|h|⟨_,h⟩
   ·cases h
   ·simp at h
   ·rw[if_pos (by simpa using h)]
  |succ k=>
   have i:=c 0 (by omega)
   simp only[getElem_cons_zero] at i
   rw[if_neg (by omega)]
   have:=uo (f:=f) (l:=r) (k:=k) (by omega) (by simpa using a) (fun j m=>by have:=c (j+1) (by omega);simpa using this) (by
    rcases d with h|h|⟨h,e⟩
    ·left;omega
    ·right;left;simpa using h
    ·right;right;exact⟨by simpa using h,by simpa using e⟩)
   omega
theorem px:∀{l:List UInt8} {i:Nat} (h:i<l.length),lO (l.take (i+1))=lO (l.take i)+(l[i].toNat%128)*2^(7*i)
 |[],i,h=>by simp at h
 |b::r,0,h=>by simp[lO]
 |b::r,i+1,h=>by
  have a:i<r.length:=by simpa using h
  have c:=px (l:=r) (i:=i) a
  simp only[take_succ_cons,lO,getElem_cons_succ,c]
  rw[Nat.mul_add,show 7*(i+1)=7*i+7 from by omega,Nat.pow_add]
  have:128*(r[i].toNat%128*2^(7*i))=r[i].toNat%128*(2^(7*i)*2^7):=by
   rw[Nat.mul_comm 128,Nat.mul_assoc]
  omega
theorem qF:∀l:List UInt8,lO l<2^(7*l.length)
 |[]=>by simp[lO]
 |b::r=>by
  have a:=qF r
  have c:b.toNat%128<128:=Nat.mod_lt _ (by omega)
  simp only[lO,length_cons]
  rw[show 7*(r.length+1)=7*r.length+7 from by omega,Nat.pow_add]
  have:(lO r+1)*128<=2^(7*r.length)*2^7:=Nat.mul_le_mul_right _ a
  omega
def cz(l:List UInt8):Int:=if fT 10 l=l.length/\fT 10 l<10 then 4 else if fT 10 l=10\/(0<fT 10 l/\l.getD (fT 10 l) 0=0)\/(fT 10 l=9/\1<(l.getD 9 0).toNat) then 3 else 0
def eB(l:List UInt8):Nat:=lO (l.take (fT 10 l+1))
def db(l:List UInt8):Nat:=fT 10 l+1
theorem look_ok{l:List UInt8}(h:cz l=0):fT 10 l<10/\fT 10 l<l.length/\(fT 10 l=9->(l.getD 9 0).toNat<=1):=by
 have c:=Ad 10 l
 unfold cz at h
 split at h
 ·cases h
 ·split at h
  ·cases h
  ·rename_i b a
   refine⟨?_,?_,?_⟩
   ·have:fT 10 l≠10:=fun e=>a (Or.inl e)
    omega
   ·have:fT 10 l≠10:=fun e=>a (Or.inl e)
    have:fT 10 l≠l.length:=fun e=>b ⟨e,by omega⟩
    omega
   ·intro e
    have:=fun h=>a (Or.inr (Or.inr ⟨e,h⟩))
    omega
theorem xg{l:List UInt8}(h:cz l=0):eB l<18446744073709551616:=by
 obtain⟨f,b,c⟩:=look_ok h
 unfold eB
 generalize fT 10 l=k at f b c⊢
 by_cases g:k=9
 ·subst g
  rw[px b]
  have a:=qF (l.take 9)
  rw[length_take,Nat.min_eq_left (by omega)] at a
  have d:=c rfl
  have e:l.getD 9 0=l[9]:=by
   rw[getD_eq_getElem?_getD,getElem?_eq_getElem b]
   rfl
  rw[e] at d
  have i:l[9].toNat%128<=1:=Nat.le_trans (Nat.mod_le _ _) d
  simp only[Nat.reduceMul,Nat.reducePow] at a⊢
  omega
 ·have a:=qF (l.take (k+1))
  rw[length_take,Nat.min_eq_left (by omega)] at a
  have:(2:Nat)^(7*(k+1))<=2^63:=Nat.pow_le_pow_right (by omega) (by omega)
  have e:(2:Nat)^63=9223372036854775808:=by decide
  omega
structure Tx where
 frm:Dg
 non:Int
 fee:Int
 kind:Int
 body:List UInt8
 sig:List UInt8
def dE(z:Int):Nat:=(IntKind.wrap .u64 z).toNat
theorem nH(z:Int):dE z<18446744073709551616:=by
 have:=oR z
 unfold dE
 omega
theorem jP(z:Int):IntKind.wrap .u64 z=(dE z:Int):=by
 have:=oR z
 unfold dE
 omega
def DA(l:List UInt8):List UInt8:=cU l.length++l
def eK(t:Tx):List UInt8:=cU (dE t.kind)++cU (num t.frm)++cU (dE t.non)++cU (dE t.fee)++DA t.body
def nr(t:Tx):List UInt8:=eK t++DA t.sig
def aJ(t:Tx):Dg:=mB (nr t)
def dI(l:List UInt8):Int:=if cz l≠0 then cz l else
 if cz (l.drop (db l))≠0 then cz (l.drop (db l)) else
 if 1125899906842624<eB (l.drop (db l)) then 2 else
 if db l+db (l.drop (db l))<l.length then 5 else 0
structure FE(t:Tx):Prop where
 n0:0<=t.non
 n1:t.non<=1099511627776
 f0:0<=t.fee
 f1:t.fee<=1125899906842624
 k0:0<=t.kind
 k1:t.kind<=2
 b:t.body.length<=32768
 s:t.sig.length<=1024
open Classical in
noncomputable def bu(t:Tx):Int:=if FE t then(if t.kind=0 then dI t.body else 0) else 2
structure En where
 t:Tx
 since:Int
def En.key(e:En):Dg:=e.t.frm
def En.non(e:En):Int:=e.t.non
def En.fee(e:En):Int:=e.t.fee
def kz(k:Dg)(n:Int)(e:En):Bool:=decide (e.t.frm=k/\e.t.non=n)
def iQ(l:List En)(k:Dg)(n:Int):Nat:=l.findIdx (kz k n)
open Classical in
noncomputable def fD(room:Int)(l:List En)(h:Int)(t:Tx):Int:=
 if h<0\/1099511627776<h then 2 else if bu t≠0 then bu t else
 match l.find? (kz t.frm t.non) with
 |some o=>if o.t=t then 7 else if t.fee<=o.t.fee then 18 else 0
 |none=>if room<=l.length then 8 else 0
def Fh(l:List En)(h:Int)(t:Tx):List En:=l.eraseIdx (iQ l t.frm t.non)++[⟨t,h⟩]
open Classical in
noncomputable def pG(room:Int)(l:List En)(h:Int)(t:Tx):List En:=if fD room l h t=0 then Fh l h t else l
theorem rK{l:List En}{k:Dg}:l.find? (kz k n)=l[iQ l k n]?:=by
 unfold iQ
 induction l with
 |nil=>rfl
 |cons x l a=>
  by_cases h:kz k n x=true
  ·simp[findIdx_cons,h]
  ·simp[findIdx_cons,h,a]
structure df(room:Int)(l:List En):Prop where
 dst:Sf En.key En.non l
 len:(l.length:Int)<=room
 ok:∀e∈l,bu e.t=0
 sc:∀e∈l,0<=e.since/\e.since<=1099511627776
theorem GG(h:0<=room):df room []:=⟨Pairwise.nil,by simpa using h,fun e h=>(by cases h),fun e h=>(by cases h)⟩
theorem me{k:Dg}{e:En}:kz k n e=true↔(e.t.frm=k/\e.t.non=n):=by
 unfold kz
 rw[decide_eq_true_iff]
theorem zp{l:List En}{k:Dg}(h:l.find? (kz k n)=none):l.eraseIdx (iQ l k n)=l:=by
 refine eraseIdx_of_length_le ?_
 rw[rK] at h
 exact List.getElem?_eq_none_iff.1 h
theorem zo{l:List En}{k:Dg}(g:Sf En.key En.non l):l.eraseIdx (iQ l k n)=l.filter (fun e=> !kz k n e):=by
 unfold iQ
 induction l with
 |nil=>rfl
 |cons x l j=>
  have d:=pairwise_cons.1 g
  by_cases h:kz k n x=true
  ·have a:findIdx (kz k n) (x::l)=0:=by simp[findIdx_cons,h]
   have f:l.filter (fun e=> !kz k n e)=l:=filter_eq_self.2 (fun e i=>by
    cases hh:kz k n e with
    |false=>rfl
    |true=>
     have b:=me.1 h
     have c:=me.1 hh
     exact absurd ⟨b.1.trans c.1.symm,b.2.trans c.2.symm⟩ (d.1 e i))
   rw[a,filter_cons_of_neg (by simp[h]),f]
   rfl
  ·have a:findIdx (kz k n) (x::l)=findIdx (kz k n) l+1:=by simp[findIdx_cons,h]
   rw[a,filter_cons_of_pos (by simp[h]),eraseIdx_cons_succ,j d.2]
theorem Fg{l:List En}{h:Int}{t:Tx}(f:df room l)(d:fD room l h t=0):df room (Fh l h t):=by
 have w:=d
 unfold fD at d
 by_cases j:h<0\/1099511627776<h
 ·rw[if_pos j] at d;cases d
 rw[if_neg j] at d
 by_cases g:bu t=0
 rotate_left
 ·rw[if_pos g] at d;exact absurd d g
 rw[if_neg (fun h=>h g)] at d
 unfold Fh
 have n:∀e∈l.eraseIdx (iQ l t.frm t.non),e∈l:=fun e c=>mem_of_mem_eraseIdx c
 have u:∀e∈l.eraseIdx (iQ l t.frm t.non)++[⟨t,h⟩],bu e.t=0:=fun e c=>by
  rcases mem_append.1 c with c|c
  ·exact f.ok e (n e c)
  ·rw[mem_singleton] at c;rw[c];exact g
 have v:∀e∈l.eraseIdx (iQ l t.frm t.non)++[⟨t,h⟩],0<=e.since/\e.since<=1099511627776:=fun e c=>by
  rcases mem_append.1 c with c|c
  ·exact f.sc e (n e c)
  ·rw[mem_singleton] at c;rw[c];show 0<=h/\h<=_;omega
 have r:Sf En.key En.non (l.eraseIdx (iQ l t.frm t.non)++[⟨t,h⟩]):=by
  rw[zo f.dst]
  refine pairwise_append.2 ⟨Pairwise.sublist filter_sublist f.dst,pairwise_singleton _ _,fun a q b m s=>?_⟩
  rw[mem_singleton] at m
  subst m
  have k:=(mem_filter.1 q).2
  have p:kz t.frm t.non a=true:=me.2 s
  rw[p] at k
  cases k
 refine⟨r,?_,u,v⟩
 cases hf:l.find? (kz t.frm t.non) with
 |none=>
  rw[hf] at d
  simp only at d
  rw[zp hf,length_append]
  by_cases i:room<=l.length
  ·rw[if_pos i] at d;cases d
  ·simp only[length_cons,length_nil];omega
 |some o=>
  have i:iQ l t.frm t.non<l.length:=by
   rw[rK] at hf
   exact(List.getElem?_eq_some_iff.1 hf).1
  have:=f.len
  rw[length_append,length_eraseIdx,if_pos i]
  simp only[length_cons,length_nil]
  omega
theorem xU{l:List En}{h:Int}{t:Tx}(a:df room l):df room (pG room l h t):=by
 unfold pG
 split
 ·rename_i b;exact Fg a b
 ·exact a
end
section
section
variable {P:Program} {n:Nat} {ops:List Oper} {Q:Exit->Act->World->Prop} {w:World} {L:Env} {ty:TypeId} {pos:String} {af:Array Edge} {g:Option (Nat×Bool)} {rest:List Oper}
theorem SG.He{base:Nat}{t e:TypeId}{i:TypeInfo}[u:Ut P t (.slice e)][f:dJ P e i]{z:Value}{d:Nat}{s x:Operand}{v:Value}{nn:Nat}{xs:List Value}{b off m c:Nat}{news:List Value}
  (E:Nat.blt d n=true) (I:want ops L ⟨some d,.call {callee:= .builtin .append,args:= #[s,x],argTypes:= #[t,t]},ty,pos,af,g⟩=some true) (F:(known L s&&known L x)=true)
  (G:bH L s=v) (J:bH L x= .slice (some ⟨b,off,none⟩) m c) (A:i.zero=some z) (K:Nat.beq z.cells.size i.size=true) (H:Nat.blt 0 i.size=true) (r:w.ownsRow base e i.size v nn xs) (y:Row w b off news) (q:news.length=m*i.size) (k:bI news=true)
  (o:nn+m<=maxLen) (p:(nn+m)*i.bytes<=140737488355328) (D:base<=w.heap.size)
  (h:∀a j,Kp (aR v) w j->j.ownsRow base e i.size a (nn+m) (xs++news)->(∀g,a.ownBlock=some g->v.ownBlock=some g\/g=w.heap.size)->SG P n ops Q rest ((d,a)::L) j):SG P n ops Q (⟨some d,.call {callee:= .builtin .append,args:= #[s,x],argTypes:= #[t,t]},ty,pos,af,g⟩::rest) L w:=by
 refine SG.op (by simpa using E) rfl I (by simpa[Op.operands,Call.operands] using F) ?_
 unfold bD
 obtain⟨a,j,l,B,C⟩:=gD (P:=P) (ty:=ty) (d:= .bool) (c:=c) (u:=u) (f:=f) A (Nat.eq_of_beq_eq_true K) (by simpa[Nat.blt_eq] using H) r q y k o p D
 have:(execOp (bH L) ⟨some d,.call {callee:= .builtin .append,args:= #[s,x],argTypes:= #[t,t]},ty,pos,af,g⟩).run P w= .ok (.value a) j:=by
  simp only[execOp,resolve,invoke,builtin,Sem.run_bind,Sem.run_pure,Result.andThen_ok,map_toArray,map_cons,map_nil,G,J,l]
 rw[this]
 exact h a j C B (kl (u:=u) (f:=f) A r q y k o p l)
end
def Tq(v o:Value):Prop:=∀b,v.ownBlock=some b->o.ownBlock≠some b
end
section
variable{base d:Nat}{x:Operand}{e t:TypeId}{i:TypeInfo}{v z:Value}
section
variable {P:Program} {n:Nat} {Q:Exit->Act->World->Prop} {L:Env} {w:World} {ops:List Oper} {rest:List Oper} {ty:TypeId} {pos:String} {af:Array Edge} {g:Option (Nat×Bool)}
theorem vQ{sz:Nat}{ty:TypeId}[u:Ut P t (.slice e)][f:dJ P e i]{nn:Nat}{xs:List Value}(b:w.ownsRow base e sz v nn xs)(a:Option Addr)(c2:Nat):(Builtin.append_ #[t,t] ty #[v,.slice a 0 c2]).run P w= .ok v w:=by
 rcases b.2 with⟨rfl,rfl⟩|⟨g,cap,cur,rfl,hbg,hg,hnc,hcm,hcs,htake⟩
 ·cases a<;>simp[Builtin.append_,run_underlying u.eq,sizeOf,typeInfo,f.eq,Builtin.lenOf,Builtin.firstCells,loadCells,loadCellsFrom]
 ·cases a<;>simp[Builtin.append_,run_underlying u.eq,sizeOf,typeInfo,f.eq,Builtin.lenOf,Builtin.firstCells,loadCells,loadCellsFrom,hnc,storeCells]
theorem SG.jN{C:Type}{enc:C->List Value}[u:Ut P t (.slice e)][f:dJ P e i]{s:Operand}{xs ys:List C}{j:Option Addr}{m c2:Nat}
  (o:Nat.blt d n=true) (A:want ops L ⟨some d,.call {callee:= .builtin .append,args:= #[s,x],argTypes:= #[t,t]},ty,pos,af,g⟩=some true) (q:(known L s&&known L x)=true)
  (r:bH L s=v) (B:bH L x= .slice j m c2) (K:m=ys.length) (R:i.zero=some z) (S:Nat.beq z.cells.size i.size=true) (O:Nat.blt 0 i.size=true) (p:∀x,(enc x).length=i.size) (M:∀x,bI (enc x)=true) (k:w.ownsRow base e i.size v xs.length (bX enc xs)) (l:Sl enc i.size w j ys)
  (G:xs.length+ys.length<=maxLen) (I:(xs.length+ys.length)*i.bytes<=140737488355328) (H:base<=w.heap.size)
  (h:∀a c,Kp (aR v) w c->c.ownsRow base e i.size a (xs++ys).length (bX enc (xs++ys))->(∀g,a.ownBlock=some g->v.ownBlock=some g\/g=w.heap.size)->SG P n ops Q rest ((d,a)::L) c):SG P n ops Q (⟨some d,.call {callee:= .builtin .append,args:= #[s,x],argTypes:= #[t,t]},ty,pos,af,g⟩::rest) L w:=by
 subst K
 cases ys with
 |nil=>
  refine SG.op (by simpa using o) rfl A (by simpa[Op.operands,Call.operands] using q) ?_
  unfold bD
  have:(execOp (bH L) ⟨some d,.call {callee:= .builtin .append,args:= #[s,x],argTypes:= #[t,t]},ty,pos,af,g⟩).run P w= .ok (.value v) w:=by
   simp only[execOp,resolve,invoke,builtin,Sem.run_bind,Sem.run_pure,Result.andThen_ok,map_toArray,map_cons,map_nil,r,B]
   have:=vQ (P:=P) (ty:=ty) (u:=u) (f:=f) k j c2
   simp only[length_nil]
   rw[this]
   rfl
  rw[this]
  exact h v w (Kp.refl _ _) (by rw[append_nil];exact k) (fun g J=>Or.inl J)
 |cons y ys=>
  obtain⟨b,T,rfl,_⟩:=l.at (i:=0) (by simp)
  have N:=Sl.flat p (by simp) l
  refine SG.He o A q r B R S O k N (by rw[cD p]) (qE M _) G I H (fun a c D E F=>h a c D ?_ F)
  rw[dP,length_append]
  exact E
theorem SG.qx{c:Nat}[u:Ut P t (.slice e)][f:dJ P e i]{y:Operand}{l:Int}(q:Nat.blt d n=true)
  (s:want ops L ⟨some d,.makeSlice t x y,ty,pos,af,g⟩=some true) (r:(known L x&&known L y)=true) (v:bH L x= .int .i64 0) (A:bH L y= .int .i64 l) (p:l=(c:Int)) (B:i.zero=some z) (C:i.bytes*c<=281474976710656) (j:c<=maxLen)
  (h:∀b a,Kp [] w a->w.heap.size<=b->a.ownsRow w.heap.size e i.size (.slice (some ⟨b,0,none⟩) 0 c) 0 []->SG P n ops Q rest ((d,.slice (some ⟨b,0,none⟩) 0 c)::L) a):SG P n ops Q (⟨some d,.makeSlice t x y,ty,pos,af,g⟩::rest) L w:=by
 subst p
 refine SG.op (by simpa using q) rfl s (by simpa[Op.operands] using r) ?_
 unfold bD
 have m:(c:Int)<=9223372036854775807:=by have h:=j;simp[maxLen] at h;omega
 have o:(i.bytes:Int)*(c:Int)<=281474976710656:=by
  have h:((i.bytes*c:Nat):Int)<=281474976710656:=by omega
  rwa [Int.natCast_mul] at h
 have k:=run_make (P:=P) w t e i z u.eq f.eq B .i64 .i64 0 c (Int.le_refl _) (by omega) o m
 simp only[Int.toNat_zero,Int.toNat_natCast] at k
 have:(execOp (bH L) ⟨some d,.makeSlice t x y,ty,pos,af,g⟩).run P w= .ok (.value (.slice (some ⟨w.heap.size,0,none⟩) 0 c)) (w.alloc (.cells (madeCells z.cells (c*i.size)) e)):=by
  simp only[execOp,v,A,Sem.run_bind,k,Result.andThen,Sem.run_pure]
 rw[this]
 exact h _ _ (Kp.push w _ rfl) (Nat.le_refl _) (World.ownsRow_made w _ c (Nat.le_refl _) j (size_madeCells _ _))
end
end
section
variable{S:List Nat}{l:List UInt8}{base c:Nat}{a:Option Addr}{v:Value}{w w':World}
open Go.Proofs
theorem gg(x:UInt8):(iE x).length=1:=rfl
theorem mq(x:UInt8):bI (iE x)=true:=rfl
theorem Ti(x:UInt8)(w:World):(Instr.buildSlice 33 1 #[(0,bv x)]).run prog w= .ok (.slice (some ⟨w.heap.size,0,none⟩) 1 1) {w with heap:=w.heap.push (.cells (iE x).toArray 5)}:=by kernel_rfl
theorem Qj(n:Nat):nc (n:Int) 7=((n/128:Nat):Int):=vO (i:=7) (by omega)
structure Bs(w:World)(a:Option Addr)(c:Nat)(l:List UInt8):Prop where
 sl:Sl iE 1 w a l
 len:l.length<=c
 some:l=[]/\a=none\/(∃b2 off,a=Option.some ⟨b2,off,none⟩)\/(l=[]/\c=0)
 lt:l≠[]->∀b2 off,a=Option.some ⟨b2,off,none⟩->b2<w.heap.size
theorem Bs.own(h:w.ownsRow base 5 1 v l.length (bX iE l)):∃a c,v= .slice a l.length c/\Bs w a c l:=by
 obtain⟨a,c,rfl,f,d⟩:=Sl.own gg h rfl
 refine⟨a,c,rfl,d,f,?_,?_⟩
 ·rcases h.2 with⟨hv,h0⟩|⟨g,cap,cur,hv,_⟩
  ·simp only[Value.slice.injEq] at hv
   exact Or.inl ⟨eq_nil_of_length_eq_zero h0,hv.1⟩
  ·cases hv
   exact Or.inr (Or.inl ⟨_,_,rfl⟩)
 ·rcases h.2 with⟨hv,h0⟩|⟨g,cap,cur,hv,_,hg,_⟩
  ·simp only[Value.slice.injEq] at hv
   intro _ b i e
   rw[hv.1] at e
   cases e
  ·cases hv
   intro _ b i e
   cases e
   exact(Array.getElem?_eq_some_iff.1 hg).1
theorem Bs.kp(h:Bs w a c l)(f:Kp S w w')(i:∀b d,a=Option.some ⟨b,d,none⟩->b∉S):Bs w' a c l:=
 ⟨h.sl.kp f i,h.len,h.some,fun j g d e=>Nat.lt_of_lt_of_le (h.lt j g d e) f.size⟩
theorem Bs.QG(h:Bs w a c l)(g:Kp S w w')(j:l≠[]->∀b f,a=Option.some ⟨b,f,none⟩->b∉S):Bs w' a c l:=by
 refine⟨?_,h.len,h.some,fun d i f e=>Nat.lt_of_lt_of_le (h.lt d i f e) g.size⟩
 by_cases d:l=[]
 ·subst d;exact Sl.nil
 ·exact h.sl.kp g (j d)
theorem Bs.nil:Bs w none 0 []:=⟨Sl.nil,Nat.le_refl _,Or.inl ⟨rfl,rfl⟩,fun _ _ _ e=>by cases e⟩
attribute [local irreducible] CG NG SG aP aM Row aG aF aQ mH iZ xY rZ mA nc Gm
theorem ni(f:Sl iE 1 w a l)(m:Nat)(k:l.length+m<=1000000000):kr prog 5 iE 1 136 #[.slice a l.length c,.int .i64 (m:Int)] w l:=by
 refine bN func136 rfl ntmps136 rfl ?_
 have e:(l.length:Int)+(m:Int)=((l.length+m:Nat):Int):=by omega
 repeat (first|apply ar|(apply au;rfl;(first|apply aB|apply aE|apply dp|apply dg)<;>first|rfl|exact zc))
 rw[e]
 refine SG.qx (c:=l.length+m) rfl rfl rfl (ag rfl) (ag rfl) rfl rfl (by show 1*(l.length+m)<=_;omega) (by simp only[maxLen];omega) (fun i n b j d=>?_)
 repeat refine qa0 ?_
 refine SG.jN (enc:=iE) (xs:=[]) (ys:=l) (base:=w.heap.size) rfl rfl rfl (ag rfl) (ag rfl) rfl rfl rfl rfl gg mq d (f.az b) (by simp only[maxLen,length_nil];omega) (by show(0+l.length)*1<=_;omega) b.size (fun v o g h _=>?_)
 repeat (first|apply ar|refine wt ?_)
 refine aO (Or.inl rfl) results136 (aD.tmp rfl) ?_
 exact⟨_,rfl,h,b.aj g (ff d (Nat.le_refl _))⟩
theorem pS(S:w.ownsRow base 5 1 v l.length (bX iE l))(O:base<=w.heap.size)(n:Nat)(R:n<18446744073709551616)(Y:l.length<=1000000000):Calls prog 135 #[v,.int .u64 (n:Int)] w (fun e o=>∃F,e= .returned F/\o.ownsRow base 5 1 F (l++cU n).length (bX iE (l++cU n))/\Kp (aR v) w o/\(∀g,F.ownBlock=some g->v.ownBlock=some g\/w.heap.size<=g)):=by
 refine bN func135 rfl ntmps135 rfl ?_
 repeat (first|apply ar|refine wt ?_)
 refine CG.loop (X:=Value×Nat×List UInt8×Nat) (fun x=>[(0,x.1),(1,.int .u64 (x.2.2.2:Int))])
  (fun x o=>o.ownsRow base 5 1 x.1 (l++x.2.2.1).length (bX iE (l++x.2.2.1))/\x.2.1<=10/\x.2.2.1.length=10-x.2.1/\x.2.2.2<128^(x.2.1+1)/\x.2.2.1++qT x.2.1 x.2.2.2=cU n/\Kp (aR v) w o/\(∀g,x.1.ownBlock=some g->v.ownBlock=some g\/w.heap.size<=g)) (fun x=>x.2.1) (v,10,[],n) ⟨by simpa using S,Nat.le_refl _,rfl,Nat.lt_of_lt_of_le R (show 18446744073709551616<=128^11 by decide),rfl,Kp.refl _ _,fun g i=>Or.inl i⟩ (aS.of rfl) ?_
 rintro⟨G,f,d,m⟩ V ⟨B,Q,P,q,j,p,k⟩
 simp only at B Q P q j k
 refine CG.to [(0,G),(1,.int .u64 (m:Int))] (aS.of rfl) ?_
 have I:base<=V.heap.size:=Nat.le_trans O p.size
 have Z:=p.size
 by_cases J:m<128
 ·have M:¬(128:Int)<=(m:Int):=by omega
  have C:qT f m=[UInt8.ofNat m]:=by
   cases f with
   |zero=>rfl
   |succ f=>simp[qT,J]
  rw[C] at j
  repeat (first|apply ar|(apply au;rfl;(first|apply aB|apply ji)<;>first|rfl|exact qr))
  refine bA rfl ?_
  repeat (first|apply ar|(apply au;rfl;first|apply Dw<;>rfl|apply aB<;>rfl))
  rw[qp]
  refine SG.buildSlice rfl rfl rfl rfl (Ti (UInt8.ofNat m)) (fun s H c N t=>?_)
  have u:Sl iE 1 H (some ⟨s,0,none⟩) [UInt8.ofNat m]:=Sl.iL (pre:=[]) (post:=[]) gg (l:=[UInt8.ofNat m]) (T:=5) t
  refine SG.jN (enc:=iE) (xs:=l++d) (ys:=[UInt8.ofNat m]) (base:=base) rfl rfl rfl (ag rfl) (ag rfl) rfl rfl rfl rfl gg mq (aV B c) u (by simp only[maxLen,length_append,length_cons,length_nil];omega) (by show((l++d).length+1)*1<=_;simp only[length_append];omega) (Nat.le_trans I c.size) (fun K W A r D=>?_)
  rw[append_assoc,j] at r
  repeat (first|apply ar|refine wt ?_)
  refine aO (Or.inl rfl) results135 (aD.tmp rfl) ?_
  refine⟨_,rfl,r,(p.trans c.any).aj A (fun z a=>?_),fun g i=>?_⟩
  ·have E:G.ownBlock=some z:=by
    unfold aR at a
    split at a
    ·rename_i b y
     rw[mem_singleton] at a
     rw[y,a]
    ·cases a
   rcases k z E with h|h
   ·left
    unfold aR
    rw[h]
    simp
   ·exact Or.inr h
  ·have U:=c.size
   rcases D g i with h|h
   ·exact k g h
   ·exact Or.inr (by omega)
 ·have M:(128:Int)<=(m:Int):=by omega
  cases f with
  |zero=>simp at q;omega
  |succ f=>
   have C:qT (f+1) m=UInt8.ofNat (128+m%128)::qT f (m/128):=by simp[qT,J]
   rw[C] at j
   have L:=Gl (n:=m)
   repeat (first|apply ar|(apply au;rfl;(first|apply aB|apply ji)<;>first|rfl|exact qf))
   refine bO rfl ?_
   repeat (first|apply ar|(apply au;rfl;first|apply Dw<;>rfl|((first|apply Ql|apply aB)<;>rfl)))
   rw[L]
   refine SG.buildSlice rfl rfl rfl rfl (Ti (UInt8.ofNat (128+m%128))) (fun s H c N t=>?_)
   have u:Sl iE 1 H (some ⟨s,0,none⟩) [UInt8.ofNat (128+m%128)]:=Sl.iL (pre:=[]) (post:=[]) gg (l:=[UInt8.ofNat (128+m%128)]) (T:=5) t
   refine SG.jN (enc:=iE) (xs:=l++d) (ys:=[UInt8.ofNat (128+m%128)]) (base:=base) rfl rfl rfl (ag rfl) (ag rfl) rfl rfl rfl rfl gg mq (aV B c) u (by simp only[maxLen,length_append,length_cons,length_nil];omega) (by show((l++d).length+1)*1<=_;simp only[length_append];omega) (Nat.le_trans I c.size) (fun K W A r D=>?_)
   repeat (first|apply ar|(apply au;rfl;(first|apply Ic|apply aB|apply aE)<;>first|rfl|exact zc))
   rw[Qj]
   refine NG.round (K,f,d++[UInt8.ofNat (128+m%128)],m/128) (aS.of rfl) ⟨by simp only;rw[<-append_assoc];exact r,by simp only;omega,by simp;omega,?_,by simp only[append_assoc,singleton_append];exact j,(p.trans c.any).aj A (fun z a=>?_),fun g i=>?_⟩ (by simp only;omega)
   ·simp only
    rw[Nat.pow_succ] at q
    exact Nat.div_lt_of_lt_mul (by rw[Nat.mul_comm];exact q)
   ·have E:G.ownBlock=some z:=by
     unfold aR at a
     split at a
     ·rename_i b y
      rw[mem_singleton] at a
      rw[y,a]
     ·cases a
    rcases k z E with h|h
    ·left
     unfold aR
     rw[h]
     simp
    ·exact Or.inr h
   ·have U:=c.size
    rcases D g i with h|h
    ·exact k g h
    ·exact Or.inr (by omega)
theorem dh(h:Bs w a c l)(n:Nat)(j:n<18446744073709551616)(m:l.length<=100000000):kr prog 5 iE 1 93 #[.slice a l.length c,.int .u64 (n:Int)] w (l++cU n):=by
 refine bN func93 rfl ntmps93 rfl ?_
 repeat (first|apply ar|refine ww ?_)
 refine SG.call rfl rfl rfl (by repeat' (first|exact True.intro|exact ag rfl|refine And.intro ?_ ?_)) ((ni (c:=c) h.sl 10 (by omega)).mono (fun e q d=>?_))
 obtain⟨o,b,g,f⟩:=d
 refine⟨_,b,?_⟩
 repeat refine qa0 ?_
 refine SG.call rfl rfl rfl (by repeat' (first|exact True.intro|exact ag rfl|refine And.intro ?_ ?_)) ((pS g f.size n j (by omega)).mono (fun e r d=>?_))
 obtain⟨p,b,k,i,_⟩:=d
 refine⟨_,b,?_⟩
 repeat (first|apply ar|refine wt ?_)
 refine aO (Or.inl rfl) results93 (aD.tmp rfl) ?_
 exact⟨_,rfl,k,f.aj i (ff g (Nat.le_refl _))⟩
end
section
variable{x:Operand}{T:TypeId}
section
variable {P:Program} {S:List Nat} {w0:World} {F:World->Prop} {L:Env} {d:Option Nat} {ty:TypeId} {pos:String} {af:Array Edge} {g:Option (Nat×Bool)}
theorem Qu{c:TypeId}{y:Operand}{a b:Int}(e:ro L x=some (.int .i64 a))(f:ro L y=some (.int .i64 b)):
  aP P S w0 F L ⟨d,.call {callee:= .builtin .min,args:= #[x,y],argTypes:= #[T,c]},ty,pos,af,g⟩ (.int .i64 (if b<a then b else a)):=fun w _ _=>by
 simp[execOp,ag e,ag f,resolve,invoke,builtin,Builtin.min_,Builtin.min2]
end
section
variable {P:Program} {S:List Nat} {w0:World} {F:World->Prop} {L:Env} {d:Option Nat} {ty:TypeId} {pos:String} {af:Array Edge} {g:Option (Nat×Bool)}
theorem Fw{T':TypeId}[u:Ut P T (.int .u8)][u':Ut P T' (.int .i64)]{a:UInt8}(b:ro L x=some (bv a)):aP P S w0 F L ⟨d,.convert T T' x,ty,pos,af,g⟩ (.int .i64 (a.toNat:Int)):=by
 have h:=xX (P:=P) (S:=S) (w0:=w0) (F:=F) (d:=d) (ty:=ty) (pos:=pos) (af:=af) (g:=g) (u:=u) (u':=u') b
 have c:a.toNat<256:=a.toNat_lt
 have e:IntKind.wrap .i64 (a.toNat:Int)=(a.toNat:Int):=by
  simp[IntKind.wrap,IntKind.bits,IntKind.signed]
  omega
 rwa [e] at h
end
end
section
variable{af:Array Edge}{L:Env}{S:List Nat}{l:List UInt8}{c:Nat}{x y:Operand}{g:Option (Nat×Bool)}{a:Option Addr}{d:Option Nat}{P:Program}{pos:String}{T T' ty:TypeId}{w w0:World}{F:World->Prop}
open Go.Proofs
def Fx(u:UInt8):UInt8:=UInt8.ofNat (u.toNat%128)
theorem Aq(u:UInt8):(Fx u).toNat=u.toNat%128:=by
 unfold Fx
 rw[UInt8.toNat_ofNat']
 omega
def Hg(a b:Int):Int:=IntKind.wrap .u8 ((BitVec.ofInt 8 a&&&BitVec.ofInt 8 b).toNat:Int)
theorem Qn[u:Ut P T (.int .u8)]{a b:Int}(c:ro L x=some (.int .u8 a))(e:ro L y=some (.int .u8 b)):aP P S w0 F L ⟨d,.binOp .and T x y T',ty,pos,af,g⟩ (.int .u8 (Hg a b)):=fun w _ _=>by
 simp only[execOp,ag c,ag e,eqGuard,binOp,Op.intBits,Sem.run_bind,Sem.run_pure,Result.andThen,Hg];rfl
theorem E9(b:UInt8):Hg (b.toNat:Int) 127=((Fx b).toNat:Int):=by
 rw[Aq]
 have a:∀m:_root_.Fin 256,Hg (m.val:Int) 127=((m.val%128:Nat):Int):=by decide+kernel
 exact a ⟨b.toNat,b.toNat_lt⟩
theorem Hx[u:Ut P T (.int .u8)]{b:UInt8}(a:ro L x=some (bv b))(c:ro L y=some (.int .u8 127)):aP P S w0 F L ⟨d,.binOp .and T x y T',ty,pos,af,g⟩ (bv (Fx b)):=by
 have:=Qn (P:=P) (S:=S) (w0:=w0) (F:=F) (d:=d) (ty:=ty) (pos:=pos) (af:=af) (g:=g) (T':=T') (u:=u) a c
 rwa [E9] at this
theorem IQ(l:List UInt8):(0:Int)=(lO (l.take 0):Int):=rfl
theorem KZ(h:Bs w a c l){i:Nat}(e:i<l.length):∃b d,a=some ⟨b,d,none⟩/\Row w b (d+i*1) [bv l[i]]:=h.sl.at e
attribute [local irreducible] CG NG SG aP aM Row aG aF aQ mH iZ xY rZ mA nc Gm Fx lO fT cz eB
theorem us{P n o Q r L w d b t p f g v}(c:SG P n o Q r ((d,v)::L) w)(a:(Nat.blt d n&&(!fm b&&(want o L ⟨some d,b,t,p,f,g⟩==some true&&b.operands.toList.all (known L))))=true:=by rfl)(e:aP P [] w (fun _=>True) L ⟨some d,b,t,p,f,g⟩ v:=by (first|apply aB|apply aE|apply dp)<;>first|rfl|exact zc):SG P n o Q (⟨some d,b,t,p,f,g⟩::r) L w:=au a e c
theorem qb0{P n o Q r L w d b t p f g v}(c:SG P n o Q r ((d,v)::L) w)(a:(Nat.blt d n&&(!fm b&&(want o L ⟨some d,b,t,p,f,g⟩==some true&&b.operands.toList.all (known L))))=true:=by rfl)(e:aP P [] w (fun _=>True) L ⟨some d,b,t,p,f,g⟩ v:=by (first|apply aB|apply aE|apply aZ|apply fa|apply cI|apply fE|apply ij)<;>first|rfl|exact zc|assumption|exact qf|exact qr|exact wn):SG P n o Q (⟨some d,b,t,p,f,g⟩::r) L w:=au a e c
theorem qb9{P n o Q r L w d b t p f g v}(c:SG P n o Q r ((d,v)::L) w)(a:(Nat.blt d n&&(!fm b&&(want o L ⟨some d,b,t,p,f,g⟩==some true&&b.operands.toList.all (known L))))=true:=by rfl)(e:aP P [] w (fun _=>True) L ⟨some d,b,t,p,f,g⟩ v:=by (first|apply aB|apply aE|apply cg)<;>first|rfl|exact qr):SG P n o Q (⟨some d,b,t,p,f,g⟩::r) L w:=au a e c
theorem BK(V:Bs w a c l)(hl:l.length<=1000000000):dq prog 190 #[.slice a l.length c] w (.tuple #[.int .u64 (if cz l=0 then(eB l:Int) else 0),.int .i64 (if cz l=0 then(db l:Int) else 0),.int .i64 (cz l)]):=by
 refine bC func190 rfl ntmps190 rfl ?_
 have p:∀{z:Int} {f:World},Kp [] w f->cz l=z->z≠0->(Ending.returned (.tuple #[.int .u64 0,.int .i64 0,.int .i64 z])= .returned (.tuple #[.int .u64 (if cz l=0 then(eB l:Int) else 0),.int .i64 (if cz l=0 then(db l:Int) else 0),.int .i64 (cz l)])/\Kp [] w f):=fun G e o=>⟨by rw[e,if_neg o,if_neg o],G⟩
 obtain⟨m,Z,aa,ag⟩:∃m:Nat,(if(10:Int)<(l.length:Int) then(10:Int) else(l.length:Int))=(m:Int)/\m<=l.length/\(m=10\/(m=l.length/\m<10)):=by
  by_cases h:(10:Int)<(l.length:Int)
  ·exact⟨10,by rw[if_pos h];rfl,by omega,Or.inl rfl⟩
  ·exact⟨l.length,by rw[if_neg h],Nat.le_refl _,by omega⟩
 repeat (first|apply ar|refine wt ?_)
 refine CG.label ?_
 repeat (first|apply ar|(apply au;rfl;(first|apply Qu|apply aB|apply dg)<;>rfl))
 rw[Z]
 refine CG.loop (X:=Nat×Int) (fun x=>[(0,.slice a l.length c),(5,.int .u64 x.2),(6,.int .i64 (-1)),(10,.int .i64 (m:Int)),(11,.int .i64 (x.1:Int))])
  (fun x f=>f=w/\x.1<=m/\(∀j (b:j<x.1) (h:j<l.length),128<=l[j].toNat)/\(x.1<=9->x.2=(lO (l.take x.1):Int))) (fun x=>m-x.1) (0,0) ⟨rfl,Nat.zero_le _,fun j b=>absurd b (Nat.not_lt_zero _),fun _=>IQ l⟩ (aS.of rfl) ?_
 rintro⟨i,n⟩ Q ⟨rfl,W,y,N⟩
 simp only at W y N
 refine CG.to [(0,.slice a l.length c),(5,.int .u64 n),(6,.int .i64 (-1)),(10,.int .i64 (m:Int)),(11,.int .i64 (i:Int))] (aS.of rfl) ?_
 by_cases Y:i<m
 rotate_left
 ·have I:¬(i:Int)<(m:Int):=by omega
  have S:i=m:=by omega
  subst S
  have k:fT 10 l=i:=uo (by omega) aa (fun j b=>y j b (by omega)) (by omega)
  have C:(-1:Int)<0:=by decide
  repeat (first|apply ar|refine un ?_)
  refine bA rfl ?_
  by_cases ad:i<10
  ·have J:(l.length:Int)<10:=by omega
   have e:cz l=4:=by
    unfold cz
    exact if_pos ⟨by omega,by omega⟩
   repeat (first|apply ar|(apply au;rfl;(first|apply aB|apply aE|apply cI|apply cg|apply dg)<;>first|rfl|exact qf))
   refine bO rfl ?_
   repeat (first|apply ar|refine wt ?_)
   refine sM (Or.inl rfl) results190 (aD.tmp rfl) (aD.tmp rfl) (aD.tmp rfl) ?_
   exact p (Kp.refl _ _) e (by decide)
  ·have J:¬(l.length:Int)<10:=by omega
   have e:cz l=3:=by
    unfold cz
    rw[if_neg (by omega),if_pos (Or.inl (by omega))]
   repeat (first|apply ar|(apply au;rfl;(first|apply aB|apply aE|apply cI|apply cg|apply dg)<;>first|rfl|exact qf|exact qr))
   refine bA rfl ?_
   repeat (first|apply ar|(apply au;rfl;(first|apply aB|apply aE|apply cg)<;>first|rfl|exact qf))
   refine bO rfl ?_
   repeat apply ar
   refine bO rfl ?_
   repeat (first|apply ar|refine wt ?_)
   refine sM (Or.inl rfl) results190 (aD.tmp rfl) (aD.tmp rfl) (aD.tmp rfl) ?_
   exact p (Kp.refl _ _) e (by decide)
 have I:(i:Int)<(m:Int):=by omega
 have A:i<l.length:=by omega
 obtain⟨ba,oa,rfl,ab⟩:=KZ V A
 have r:l.getD i 0=l[i]:=by
  rw[getD_eq_getElem?_getD,getElem?_eq_getElem A]
  rfl
 have H:=px A
 have M:=l[i].toNat_lt
 generalize O:l[i]=u at ab r H M
 have B:i<=8\/u.toNat<=1->xY n (mA ((Fx u).toNat:Int) (7*(i:Int)))=(lO (l.take (i+1)):Int):=fun h=>by
  rw[Aq,N (by omega),H]
  have d:=qF (l.take i)
  rw[length_take,Nat.min_eq_left (by omega)] at d
  have g:u.toNat%128<128:=Nat.mod_lt _ (by omega)
  have U:lO (l.take i)+u.toNat%128*2^(7*i)<18446744073709551616:=by
   by_cases v:i=9
   ·subst v
    have t:u.toNat<=1:=by omega
    have K:u.toNat%128<=1:=Nat.le_trans (Nat.mod_le _ _) t
    simp only[Nat.reduceMul,Nat.reducePow] at d⊢
    omega
   ·have t:(2:Nat)^(7*i)<=2^56:=Nat.pow_le_pow_right (by omega) (by omega)
    have K:u.toNat%128*2^(7*i)<=127*2^56:=Nat.mul_le_mul (by omega) t
    simp only[Nat.reducePow] at t K
    omega
  have R:(7*(i:Int))=((7*i:Nat):Int):=by omega
  rw[R,vP (by omega) (by omega),Am d U]
 have ae:0<=7*(i:Int)/\7*(i:Int)<=63:=by omega
 repeat (first|apply ar|refine ul ?_)
 refine bO rfl ?_
 generalize F:xY n (mA ((Fx u).toNat:Int) (7*(i:Int)))=P at B
 have af:i<=9:=by omega
 clear M I
 by_cases hs:u.toNat<128
 rotate_left
 ·have C:¬(u.toNat:Int)<128:=by omega
  repeat (first|apply ar|(apply au;rfl;first|(apply Ie<;>(first|rfl|exact zc|assumption|exact qr|exact wn))|((first|apply Hx|apply F7|apply F6|apply Hy|apply aB|apply aE|apply aZ|apply fa|apply cg)<;>(first|rfl|exact zc|assumption|exact qr|exact wn))))
  rw[F]
  skip
  refine bA rfl ?_
  repeat (first|apply ar|refine wz ?_)
  refine NG.round (i+1,P) (aS.of rfl) ⟨rfl,Y,fun j b h=>?_,fun h=>?_⟩ (by show m-(i+1)<m-i;omega)
  ·by_cases e:j=i
   ·subst e;rw[O];omega
   ·exact y j (by have:j<i+1:=b;omega) h
  ·exact B (Or.inl (by have:i+1<=9:=h;omega))
 have C:Dc ((u.toNat:Int)<128) true:=bM (by omega)
 have k:fT 10 l=i:=uo (by omega) (by omega) (fun j b=>y j b (by omega)) (Or.inr (Or.inr ⟨A,by rw[O];exact hs⟩))
 repeat (first|apply ar|(apply au;rfl;first|(apply Ie<;>(first|rfl|exact zc|assumption|exact wn))|((first|apply Hx|apply F7|apply F6|apply Hy|apply aB|apply aE|apply aZ|apply fa|apply cg)<;>(first|rfl|exact zc|assumption|exact wn))))
 rw[F]
 skip
 refine bO rfl ?_
 clear C
 have J:¬(i:Int)<0:=by omega
 repeat (first|apply ar|refine NG.nj rfl ?_|(apply au;rfl;(first|apply aB|apply aE|apply cI|apply cg)<;>first|rfl|exact qr)|refine SG.skip rfl rfl ?_)
 refine bA rfl ?_
 by_cases o:0<i/\u=0
 ·obtain⟨q,T⟩:=o
  subst T
  have D:(0:Int)<(i:Int):=by omega
  have e:cz l=3:=by
   unfold cz
   rw[if_neg (by omega),if_pos (Or.inr (Or.inl ⟨by omega,by rw[k];exact r⟩))]
  have s:(((0:UInt8).toNat:Nat):Int)=0:=rfl
  repeat (first|apply ar|refine qb9 ?_)
  refine bA rfl ?_
  repeat (first|apply ar|(apply au;rfl;(first|apply aB|apply aE|apply aZ|apply fa|apply cI|apply fE|apply ij)<;>first|rfl|exact zc|assumption|exact qf|exact wn))
  refine bO rfl ?_
  repeat apply ar
  refine bO rfl ?_
  repeat (first|apply ar|refine wt ?_)
  refine sM (Or.inl rfl) results190 (aD.tmp rfl) (aD.tmp rfl) (aD.tmp rfl) ?_
  exact p (Kp.refl _ _) e (by decide)
 have ac:i=0\/(0<i/\u.toNat≠0):=by
  by_cases q:0<i
  ·exact Or.inr ⟨q,fun e=>o ⟨q,UInt8.toNat.inj e⟩⟩
  ·exact Or.inl (by omega)
 by_cases v:i=9/\1<u.toNat
 ·obtain⟨rfl,L⟩:=v
  have e:cz l=3:=by
   unfold cz
   rw[if_neg (by omega),if_pos (Or.inr (Or.inr ⟨k,by rw[r];exact L⟩))]
  have D:¬(u.toNat:Int)=0:=by omega
  have s:(1:Int)<(u.toNat:Int):=by omega
  repeat (first|apply ar|refine qb9 ?_)
  refine bA rfl ?_
  repeat (first|apply ar|refine qb0 ?_)
  refine bA rfl ?_
  repeat (first|apply ar|(apply au;rfl;(first|apply aB|apply aE|apply aZ|apply fa|apply cI|apply fE|apply ij)<;>first|rfl|exact zc|assumption|exact qf|exact wn))
  refine bO rfl ?_
  repeat (first|apply ar|refine wt ?_)
  refine sM (Or.inl rfl) results190 (aD.tmp rfl) (aD.tmp rfl) (aD.tmp rfl) ?_
  exact p (Kp.refl _ _) e (by decide)
 have e:cz l=0:=by
  unfold cz
  rw[if_neg (by omega),if_neg]
  rintro(h|⟨d,g⟩|⟨d,g⟩)
  ·omega
  ·rw[k,r] at g
   exact o ⟨by omega,g⟩
  ·rw[k] at d
   subst d
   rw[r] at g
   exact v ⟨rfl,g⟩
 have ev:=B (by omega)
 have E:∀{f:World},Kp [] Q f->(Ending.returned (.tuple #[.int .u64 P,.int .i64 ((i:Int)+1),.int .i64 0])= .returned (.tuple #[.int .u64 (if cz l=0 then(eB l:Int) else 0),.int .i64 (if cz l=0 then(db l:Int) else 0),.int .i64 (cz l)])/\Kp [] Q f):=fun G=>by
  refine⟨?_,G⟩
  rw[e,if_pos rfl,if_pos rfl,ev]
  unfold eB db
  rw[k]
  rfl
 clear ev B H F p
 rcases ac with q|⟨q,ah⟩
 ·have D:¬(0:Int)<(i:Int):=by omega
  have s:¬(i:Int)=9:=by omega
  repeat (first|apply ar|refine qb9 ?_)
  refine bA rfl ?_
  repeat (first|apply ar|(apply au;rfl;(first|apply aB|apply aE|apply cI|apply ij)<;>first|rfl|exact qr)|refine SG.skip rfl rfl ?_)
  refine bA rfl ?_
  repeat (first|apply ar|(apply au;rfl;(first|apply aB|apply aE|apply cI|apply fE)<;>first|rfl|exact qr)|refine SG.skip rfl rfl ?_)
  refine bA rfl ?_
  repeat (first|apply ar|refine us ?_)
  refine sM (Or.inl rfl) results190 (aD.tmp rfl) (aD.tmp rfl) (aD.tmp rfl) ?_
  exact E (Kp.refl _ _)
 ·have D:(0:Int)<(i:Int):=by omega
  have g6:¬(u.toNat:Int)=0:=by omega
  by_cases L:i=9
  ·have s:(i:Int)=9:=by omega
   have g7:¬(1:Int)<(u.toNat:Int):=by omega
   repeat (first|apply ar|refine qb9 ?_)
   refine bA rfl ?_
   repeat (first|apply ar|refine qb0 ?_)
   refine bA rfl ?_
   repeat (first|apply ar|refine qb0 ?_)
   refine bA rfl ?_
   repeat (first|apply ar|refine us ?_)
   refine sM (Or.inl rfl) results190 (aD.tmp rfl) (aD.tmp rfl) (aD.tmp rfl) ?_
   exact E (Kp.refl _ _)
  ·have s:¬(i:Int)=9:=by omega
   repeat (first|apply ar|refine qb9 ?_)
   refine bA rfl ?_
   repeat (first|apply ar|refine qb0 ?_)
   refine bA rfl ?_
   repeat (first|apply ar|(apply au;rfl;(first|apply aB|apply aE|apply cI|apply fE)<;>first|rfl|exact qr)|refine SG.skip rfl rfl ?_)
   refine bA rfl ?_
   repeat (first|apply ar|refine us ?_)
   refine sM (Or.inl rfl) results190 (aD.tmp rfl) (aD.tmp rfl) (aD.tmp rfl) ?_
   exact E (Kp.refl _ _)
end
section
theorem AG{e:Type}{enc:e->List Value}{sz:Nat}{w:World}{b off c j:Nat}{l:List e}(f:Sl enc sz w (some ⟨b,off,none⟩) l)(k:l.length<=c):Sl enc sz w (some ⟨b,if c=j then off else off+j*sz,none⟩) (l.drop j):=fun i x a=>by
 rw[getElem?_drop] at a
 have m:=(List.getElem?_eq_some_iff.1 a).1
 obtain⟨g,n,h,d⟩:=f _ x a
 cases h
 rw[if_neg (by omega)]
 refine⟨_,_,rfl,?_⟩
 rw[Nat.add_mul,<-Nat.add_assoc] at d
 exact d
end
section
variable{e:Int}{l:List UInt8}{b bm bn br c most p sz:Nat}{a:Option Addr}{T:TypeId}{v:Value}{w:World}
open Go.Proofs
def nB(l:List UInt8)(most:Nat):Int:=if cz l≠0 then cz l else if most<eB l then 2 else 0
theorem vR(h:nB l most=0):cz l=0/\eB l<=most:=by
 unfold nB at h
 by_cases a:cz l=0
 ·rw[if_neg (fun h=>h a)] at h
  by_cases b:most<eB l
  ·rw[if_pos b] at h;cases h
  ·exact⟨a,by omega⟩
 ·rw[if_pos a] at h
  exact absurd h a
theorem xh(h:cz l=0):db l<=l.length/\1<=db l:=by
 have:=(look_ok h).2.1
 unfold db
 omega
def Jq(v:Value)(at':Nat)(e:Int):List Value:=[v,.int .i64 (at':Int),.int .i64 e]
theorem nW(h:aG w b (.cells (Jq v p e).toArray T)):Row w b 0 [v]/\Row w b 1 [.int .i64 (p:Int)]/\Row w b 2 [.int .i64 e]:=
 ⟨Row.of h [] [.int .i64 (p:Int),.int .i64 e] rfl rfl,Row.of h [v] [.int .i64 e] rfl rfl,Row.of h [v,.int .i64 (p:Int)] [] rfl rfl⟩
theorem Al{base n:Nat}{xs:List Value}(c:w.ownsRow base T sz v n xs):∀b,v.ownBlock=some b->b<w.heap.size:=by
 intro b a
 rcases c.2 with⟨rfl,_⟩|⟨g,cap,cur,rfl,_,hg,_⟩
 ·cases a
 ·cases a
  exact(Array.getElem?_eq_some_iff.1 hg).1
theorem yj{P:Program}{S:List Nat}{w0:World}{F:World->Prop}{L:Env}{d:Option Nat}{ty:TypeId}{pos:String}{af:Array Edge}{g:Option (Nat×Bool)}{E:TypeId}[u:Ut P T (.slice E)][f:Sz P E sz]{x b:Operand}{k:IntKind}(j:ro L x=some (.slice a 0 0))(h:ro L b=some (.int k ((0:Nat):Int))):
  aP P S w0 F L ⟨d,.slice T x (some b) none none,ty,pos,af,g⟩ (.slice a 0 0):=fun w _ _=>by
 obtain⟨i,c,l⟩:=f.eq
 simp only[execOp,ag j,Option.map_some,Option.map_none,ag h,Instr.sliceAt,Sem.run_bind,run_underlying u.eq,Result.andThen,Instr.slice,Instr.sliceBounds,Instr.sliceBound,asIntOf,Sem.run_pure]
 have e:(0:Int)<=((0:Nat):Int)/\((0:Nat):Int)<=((0:Nat):Int):=⟨by omega,by omega⟩
 simp only[e,and_self,if_true,Sem.run_pure,sizeOf,typeInfo,Sem.run_bind,run_program,Result.andThen,c]
 cases a<;>simp
theorem G5(h:Bs w a c l){j:Nat}(p:j<=l.length):∃o,Bs w o (c-j) (l.drop j)/\(∀b i,o=some ⟨b,i,none⟩->∃y,a=some ⟨b,y,none⟩)/\∀{P:Program} {E T:TypeId} [f:Sz P E 1] [u:Ut P T (.slice E)] {S:List Nat} {w0:World} {F:World->Prop} {L:Env} {d:Option Nat} {ty:TypeId} {pos:String} {af:Array Edge} {g:Option (Nat×Bool)} {x q:Operand} {k:IntKind},ro L x=some (.slice a l.length c)->ro L q=some (.int k (j:Int))->
  aP P S w0 F L ⟨d,.slice T x (some q) none none,ty,pos,af,g⟩ (.slice o (l.drop j).length (c-j)):=by
 rcases h.some with⟨rfl,rfl⟩|⟨b,i,rfl⟩|⟨rfl,rfl⟩
 rotate_right
 ·have:j=0:=by simpa using p
  subst this
  refine⟨a,⟨Sl.nil,Nat.zero_le _,Or.inr (Or.inr ⟨rfl,rfl⟩),fun t=>absurd rfl t⟩,fun b i e=>⟨i,e⟩,fun n m=>?_⟩
  exact yj n m
 ·have:j=0:=by simpa using p
  subst this
  refine⟨none,⟨Sl.nil,Nat.zero_le _,Or.inl ⟨rfl,rfl⟩,fun _ _ _ e=>(by cases e)⟩,fun b i e=>(by cases e),fun n m=>?_⟩
  exact qL (j:=0) n m (Nat.le_refl _)
 ·refine⟨some ⟨b,if c=j then i else i+j*1,none⟩,⟨AG h.sl h.len,?_,Or.inr (Or.inl ⟨_,_,rfl⟩),fun v r z e=>?_⟩,fun r z e=>?_,fun n m=>?_⟩
  ·rw[length_drop]
   have:=h.len
   omega
  ·cases e
   exact h.lt (fun s=>v (by rw[s,drop_nil])) b i rfl
  ·cases e
   exact⟨i,rfl⟩
  ·rw[length_drop]
   exact Ki n m rfl ⟨p⟩
attribute [local irreducible] CG NG SG aP aM Row aG aF aQ mH iZ xY rZ mA nc Gm Fx lO fT cz eB db bG
theorem qb5{P n o Q r L w d b t p f g v}(c:SG P n o Q r ((d,v)::L) w)(a:(Nat.blt d n&&(!fm b&&(want o L ⟨some d,b,t,p,f,g⟩==some true&&b.operands.toList.all (known L))))=true:=by rfl)(e:aP P [] w (fun _=>True) L ⟨some d,b,t,p,f,g⟩ v:=by (first|apply aB|apply aE|apply du|apply dd)<;>first|rfl|exact qf):SG P n o Q (⟨some d,b,t,p,f,g⟩::r) L w:=au a e c
theorem Bz{v:Nat}(s:Bs w a c l)(u:l.length<=1000000000)(y:aG w bm (.cells #[.int .u64 (most:Int)] 183))(p:aG w bn (.cells #[.int .u64 (v:Int)] 183)):
  Calls prog 189 #[.slice a l.length c,.pointer (some ⟨bm,0,none⟩),.pointer (some ⟨bn,0,none⟩)] w (fun e d=>e= .returned (.tuple #[.int .i64 (if nB l most=0 then(db l:Int) else 0),.int .i64 (nB l most)])/\Kp [bn] w d/\aG d bn (.cells #[.int .u64 ((if nB l most=0 then eB l else v:Nat):Int)] 183)):=by
 refine fC (args:=[.slice a l.length c,.pointer (some ⟨bm,0,none⟩),.pointer (some ⟨bn,0,none⟩)]) func189 rfl ntmps189 rfl ?_
 have g:∀{z:Int} {d:World},Kp [] w d->nB l most=z->z≠0->(Ending.returned (.tuple #[.int .i64 0,.int .i64 z])= .returned (.tuple #[.int .i64 (if nB l most=0 then(db l:Int) else 0),.int .i64 (nB l most)])/\Kp [bn] w d/\aG d bn (.cells #[.int .u64 ((if nB l most=0 then eB l else v:Nat):Int)] 183)):=fun o e q=>⟨by rw[e,if_neg q],o.any,by rw[e,if_neg q];exact p.az o⟩
 have j:=BK s u
 repeat (first|apply ar|refine ww ?_)
 refine SG.ret rfl rfl rfl (vs:=[.slice a l.length c]) (bg.of rfl) j (fun A f=>?_)
 by_cases b:cz l=0
 rotate_left
 ·have e:nB l most=cz l:=if_pos b
  rw[if_neg b,if_neg b]
  generalize cz l=z at b e
  repeat (first|apply ar|(apply au;rfl;(first|apply aB|apply aE|apply du|apply dd)<;>first|rfl|exact qr))
  refine bO rfl ?_
  repeat (first|apply ar|refine ww ?_)
  refine dT (Or.inl rfl) results189 (aD.tmp rfl) (aD.tmp rfl) ?_
  exact g f e b
 rw[if_pos b,if_pos b,b]
 have n:=xg b
 have B:(0:Int)=0:=rfl
 have C:Row A bm 0 [.int .u64 (most:Int)]:=(Row.all (l:=[.int .u64 (most:Int)]) y rfl).az f
 by_cases m:most<eB l
 ·have e:nB l most=2:=by
   unfold nB
   rw[if_neg (fun h=>h b),if_pos m]
  have i:(most:Int)<(eB l:Int):=by omega
  clear j n
  generalize eB l=x at i g
  repeat (first|apply ar|refine qb5 ?_)
  refine bA rfl ?_
  repeat (first|apply ar|(apply au;rfl;(first|apply aB|apply aE|apply aZ|apply ij)<;>first|rfl|assumption|exact qf|exact wn))
  refine bO rfl ?_
  repeat (first|apply ar|refine wt ?_)
  refine dT (Or.inl rfl) results189 (aD.tmp rfl) (aD.tmp rfl) ?_
  exact g f e (by decide)
 ·have e:nB l most=0:=by
   unfold nB
   rw[if_neg (fun h=>h b),if_neg m]
  have i:¬(most:Int)<(eB l:Int):=by omega
  rw[e,if_pos rfl,if_pos rfl]
  clear j n g
  generalize eB l=x at i
  generalize db l=k
  repeat (first|apply ar|refine qb5 ?_)
  refine bA rfl ?_
  repeat (first|apply ar|(apply au;rfl;(first|apply aB|apply aE|apply aZ|apply ij)<;>first|rfl|assumption|exact qr|exact wn))
  refine bA rfl ?_
  repeat (first|apply ar|refine qa0 ?_)
  refine SG.fe rfl rfl (ag rfl) (ag rfl) (p.az f) rfl rfl (fun D t r=>?_)
  repeat (first|apply ar|refine ww ?_)
  refine dT (Or.inl rfl) results189 (aD.tmp rfl) (aD.tmp rfl) ?_
  exact⟨rfl,f.any.trans t,r⟩
def Fu(l:List UInt8)(p:Nat)(e:Int)(most:Nat):Nat:=if e=0/\nB (l.drop p) most=0 then eB (l.drop p) else 0
def yC(l:List UInt8)(p:Nat)(e:Int)(most:Nat):Nat:=if e=0/\nB (l.drop p) most=0 then p+db (l.drop p) else p
def Ag(l:List UInt8)(p:Nat)(e:Int)(most:Nat):Int:=if e=0 then nB (l.drop p) most else e
theorem G6{a:Nat}{cs d:Array Value}{T':TypeId}(c:aG w a (.cells cs T))(g:aG w b (.cells d T'))(f:T≠T'):a≠b:=fun e=>by
 rw[e] at c
 have:=c.uniq g
 simp only[Obj.cells.injEq] at this
 exact f this.2.1
theorem Bn{v:Nat}(q:aG w br (.cells (Jq (.slice a l.length c) p e).toArray 293))(G:Bs w a c l)(P:p<=l.length)(Z:l.length<=1000000000)(N:aG w bm (.cells #[.int .u64 (most:Int)] 183))(s:aG w bn (.cells #[.int .u64 (v:Int)] 183))(Y:∀b n,a=some ⟨b,n,none⟩->b≠br)(I:∀b n,a=some ⟨b,n,none⟩->b≠bn)(O:bm≠bn):
  Calls prog 188 #[.pointer (some ⟨br,0,none⟩),lf 189 [.pointer (some ⟨bm,0,none⟩),.pointer (some ⟨bn,0,none⟩)]] w (fun o d=>o= .returned (.tuple #[])/\Kp [br,bn] w d/\aG d br (.cells (Jq (.slice a l.length c) (yC l p e most) (Ag l p e most)).toArray 293)/\aG d bn (.cells #[.int .u64 ((if e=0/\nB (l.drop p) most=0 then eB (l.drop p) else v:Nat):Int)] 183)):=by
 refine bN func188 rfl ntmps188 rfl ?_
 have x:br≠bn:=G6 q s (by decide)
 obtain⟨R,B,S⟩:=nW q
 by_cases r:e=0
 rotate_left
 ·repeat (first|apply ar|(apply au;rfl;(first|apply jF|apply aB|apply aZ|apply aU|apply bR|apply cI|apply du)<;>first|rfl|assumption|exact qr|exact wn))
  refine bO rfl ?_
  repeat apply ar
  refine oY (Or.inl rfl) results188 ?_
  refine⟨rfl,Kp.refl _ _,?_,?_⟩
  ·unfold yC Ag
   rw[if_neg (fun h=>r h.1),if_neg r]
   exact q
  ·rw[if_neg (fun h=>r h.1)]
   exact s
 subst r
 have V:(0:Int)=0:=rfl
 obtain⟨C,H,J,y⟩:=G5 G P
 have M:(l.drop p).length<=1000000000:=by rw[length_drop];omega
 have ab:Ar (p<=9223372036854775807):=⟨by omega⟩
 repeat (first|apply ar|(apply au;rfl;(first|apply jF|apply aB|apply aZ|apply aU|apply bR|apply cI|apply du)<;>first|rfl|assumption|exact qf|exact wn))
 refine bA rfl ?_
 repeat apply ar
 refine CG.draw mixed [0,1,2,3,4,5,6,7,8,9,10,11,12,13,14,15] [10] [] [bn] (fun d=>aG d bn (.cells #[.int .u64 (v:Int)] 183)) (by kernel_rfl) (by simpa using s.lt) (by simp) s (fun w d g h=>h.az g) (Or.inl rfl) ?_
 repeat (apply bW;rfl;rfl;(first|apply aB|apply aZ|apply aU|apply bR)<;>first|rfl|assumption|(apply bQ;omega))
 refine aM.val rfl rfl rfl (y rfl rfl) ?_
 refine aM.I1 (X:=Unit) (vs:=[.slice C (l.drop p).length (c-p)]) (caps:=[.pointer (some ⟨bm,0,none⟩),.pointer (some ⟨bn,0,none⟩)]) (fun _=> .tuple #[.int .i64 (if nB (l.drop p) most=0 then(db (l.drop p):Int) else 0),.int .i64 (nB (l.drop p) most)]) (fun _ _=>True) (fun _ d=>aG d bn (.cells #[.int .u64 ((if nB (l.drop p) most=0 then eB (l.drop p) else v:Nat):Int)] 183)) rfl rfl rfl rfl rfl (bg.of rfl) (fun _ _ _ _ h=>h) (fun _ _ _ g h=>h.az g) (fun _ _ _ h=>h) (fun W g _ f=>(Bz (H.kp g (fun b n e=>by
  obtain⟨Q,o⟩:=J b n e
  exact bQ (I b Q o))) M (N.kp g (bQ O)) f).mono (fun o d ⟨D,E,F⟩=>⟨(),D,trivial,F,E⟩)) (fun _=>?_)
 generalize m:nB (l.drop p) most=z
 repeat (apply bW;rfl;rfl;(first|apply aB|apply aE|apply dd)<;>rfl)
 refine aM.fin (fun T u _ f=>?_)
 have j:=q.kp u (bQ x)
 have j:aG T br (.cells (Jq (.slice a l.length c) p 0).toArray 293):=j
 clear R B S y
 by_cases i:z=0
 rotate_left
 ·rw[if_neg i]
  rw[if_neg i] at f
  repeat (first|apply ar|(apply au;rfl;(first|apply aB|apply du)<;>first|rfl|exact qr))
  refine bO rfl ?_
  repeat (first|apply ar|(apply au;rfl;(first|apply aB|apply aU|apply bR)<;>rfl))
  refine SG.cp (pre:=[.slice a l.length c,.int .i64 (p:Int)]) (old:=[.int .i64 0]) (post:=[]) rfl rfl (ag rfl) (ag rfl) j rfl rfl rfl rfl rfl (fun U k t=>?_)
  repeat apply ar
  refine oY (Or.inl rfl) results188 ?_
  refine⟨rfl,(u.mono (by simp)).trans (k.mono (by simp)),?_,?_⟩
  ·unfold yC Ag
   rw[if_neg (fun h=>i (by rw[<-m];exact h.2)),if_pos rfl,m]
   exact t
  ·rw[if_neg (fun h=>i h.2)]
   exact f.kp k (bQ (fun e=>x e.symm))
 ·subst i
  rw[if_pos rfl]
  rw[if_pos rfl] at f
  obtain⟨L,aa⟩:=vR m
  have A:=xh L
  rw[length_drop] at A
  obtain⟨-,B,-⟩:=nW j
  generalize K:db (l.drop p)=kk at A
  repeat (first|apply ar|(apply au;rfl;(first|apply aB|apply du)<;>first|rfl|exact qf))
  refine bA rfl ?_
  repeat (first|apply ar|(apply au;rfl;(first|apply aB|apply aZ|apply aU|apply bR|apply dp)<;>first|rfl|exact zc|assumption|exact wn))
  refine SG.cp (pre:=[.slice a l.length c]) (old:=[.int .i64 (p:Int)]) (post:=[.int .i64 0]) rfl rfl (ag rfl) (ag rfl) j rfl rfl rfl rfl rfl (fun U k t=>?_)
  repeat apply ar
  refine oY (Or.inr rfl) results188 ?_
  refine⟨rfl,(u.mono (by simp)).trans (k.mono (by simp)),?_,?_⟩
  ·unfold yC Ag
   rw[if_pos ⟨rfl,m⟩,if_pos rfl,m,K]
   exact t
  ·rw[if_pos ⟨rfl,rfl⟩]
   exact f.kp k (bQ (fun e=>x e.symm))
structure Fl(w:World)(br:Nat)(a:Option Addr)(c:Nat)(l:List UInt8)(p:Nat)(e:Int):Prop where
 blk:aG w br (.cells (Jq (.slice a l.length c) p e).toArray 293)
 bs:Bs w a c l
 le:p<=l.length
 ne:∀b off,a=some ⟨b,off,none⟩->b≠br
 lt:∀b off,a=some ⟨b,off,none⟩->b<w.heap.size
theorem Ib(h:p<=l.length):yC l p e most<=l.length:=by
 unfold yC
 split
 ·rename_i a
  have b:=xh (vR a.2).1
  rw[length_drop] at b
  omega
 ·exact h
theorem DM(h:Fl w br a c l p e)(F:l.length<=1000000000)(most:Nat):
  Calls prog 168 #[.pointer (some ⟨br,0,none⟩),.int .u64 (most:Int)] w (fun d y=>d= .returned (.int .u64 (Fu l p e most:Int))/\Kp [br] w y/\Fl y br a c l (yC l p e most) (Ag l p e most)):=by
 refine bN func168 rfl ntmps168 rfl ?_
 have J:=h.blk.lt
 repeat apply ar
 refine SG.box rfl rfl rfl (ag rfl) (fun i N r H j=>?_)
 have K:=j.lt
 repeat (first|apply ar|refine wt ?_)
 refine SG.alloc rfl rfl rfl (fun f z s I k=>?_)
 have j:aG z i (.cells #[.int .u64 (most:Int)] 183):=j.az s
 have k:aG z f (.cells #[.int .u64 ((0:Nat):Int)] 183):=k
 have L:=r.size
 have n:=r.trans s
 have G:i≠f:=by omega
 have t:(if e=0/\nB (l.drop p) most=0 then eB (l.drop p) else 0:Nat)=Fu l p e most:=rfl
 repeat (first|apply ar|refine qa0 ?_)
 refine SG.val rfl rfl rfl rfl (Hz (vs:=[.pointer (some ⟨i,0,none⟩),.pointer (some ⟨f,0,none⟩)]) rfl) ?_
 refine SG.call rfl rfl rfl (vs:=[.pointer (some ⟨br,0,none⟩),lf 189 [.pointer (some ⟨i,0,none⟩),.pointer (some ⟨f,0,none⟩)]]) (bg.of rfl) ((Bn (most:=most) (v:=0) (h.blk.az n) ((h.bs).kp n (fun _ _ _=>not_mem_nil)) h.le F j k h.ne (fun b g d=>by have:=h.lt b g d;omega) G).mono (fun d A D=>?_))
 obtain⟨q,E,B,m⟩:=D
 refine⟨_,q,?_⟩
 clear q
 rw[t] at m
 have C:Row A f 0 [.int .u64 (Fu l p e most:Int)]:=Row.all (l:=[.int .u64 (Fu l p e most:Int)]) m rfl
 generalize Fu l p e most=M at C m t
 repeat (first|apply ar|(apply au;rfl;(first|apply aE|apply aZ)<;>first|rfl|assumption|exact wn))
 refine aO (Or.inl rfl) results168 (aD.tmp rfl) ?_
 have o:Kp [br] w A:=n.any.aj E (fun x u=>by
  simp only[mem_cons,not_mem_nil,or_false] at u
  rcases u with rfl|rfl
  ·exact Or.inl (mem_singleton.2 rfl)
  ·exact Or.inr (by omega))
 exact⟨rfl,o,B,h.bs.kp o (fun b g d=>bQ (h.ne b g d)),Ib h.le,h.ne,fun b g d=>Nat.lt_of_lt_of_le (h.lt b g d) o.size⟩
theorem qa1{P n o Q r L w d b t p f g v}(c:SG P n o Q r ((d,v)::L) w)(a:(Nat.blt d n&&(!fm b&&(want o L ⟨some d,b,t,p,f,g⟩==some true&&b.operands.toList.all (known L))))=true:=by rfl)(e:aP P [] w (fun _=>True) L ⟨some d,b,t,p,f,g⟩ v:=by (first|apply jF|apply aB|apply aE)<;>rfl):SG P n o Q (⟨some d,b,t,p,f,g⟩::r) L w:=au a e c
theorem qb6{P n o Q r L w d b t p f g v}(c:SG P n o Q r ((d,v)::L) w)(a:(Nat.blt d n&&(!fm b&&(want o L ⟨some d,b,t,p,f,g⟩==some true&&b.operands.toList.all (known L))))=true:=by rfl)(e:aP P [] w (fun _=>True) L ⟨some d,b,t,p,f,g⟩ v:=by (first|apply aB|apply aE|apply aZ|apply aU|apply bR)<;>first|rfl|assumption|exact wn):SG P n o Q (⟨some d,b,t,p,f,g⟩::r) L w:=au a e c
theorem BZ(h:Fl w br a c l p e)(o:l.length<=1000000000):
  dq prog 169 #[.pointer (some ⟨br,0,none⟩)] w (.int .i64 (if e≠0 then e else if p<l.length then 5 else 0)):=by
 have err:∀W,Kp [] w W->dq prog 191 #[.pointer (some ⟨br,0,none⟩)] W (.int .i64 e):=fun W f=>by
  refine bC func191 rfl ntmps191 rfl ?_
  obtain⟨-,-,s⟩:=nW (h.blk.az f)
  repeat (first|apply ar|refine qa1 ?_)
  refine bA rfl ?_
  repeat (first|apply ar|refine qb6 ?_)
  refine aO (Or.inl rfl) results191 (aD.tmp rfl) ?_
  exact⟨rfl,Kp.refl _ _⟩
 have left:∀W,Kp [] w W->dq prog 192 #[.pointer (some ⟨br,0,none⟩)] W (.int .i64 ((l.length:Int)-(p:Int))):=fun W f=>by
  refine bC func192 rfl ntmps192 rfl ?_
  obtain⟨q,r,-⟩:=nW (h.blk.az f)
  have m:=h.le
  repeat (first|apply ar|refine qa1 ?_)
  refine bA rfl ?_
  repeat apply ar
  refine CG.fh mixed [0,1,2,3,4,5,6,7,8,9,10] [] (by kernel_rfl) ?_
  repeat (apply bW;rfl;rfl;(first|apply aB|apply aE|apply aZ|apply aU|apply bR|apply dg|apply td)<;>first|rfl|exact zc|assumption|exact wn)
  refine aM.fin (fun g b _ _=>?_)
  repeat apply ar
  refine aO (Or.inl rfl) results192 (aD.tmp rfl) ?_
  exact⟨rfl,b⟩
 refine bC func169 rfl ntmps169 rfl ?_
 have m:=h.le
 repeat (first|apply ar|refine ww ?_)
 refine SG.ret rfl rfl rfl (vs:=[.pointer (some ⟨br,0,none⟩)]) (bg.of rfl) (err w (Kp.refl _ _)) (fun g b=>?_)
 by_cases i:e=0
 rotate_left
 ·rw[if_pos i]
  repeat (first|apply ar|(apply au;rfl;(first|apply aE|apply du)<;>first|rfl|exact qr))
  refine bO rfl ?_
  repeat (first|apply ar|refine qa0 ?_)
  refine SG.ret rfl rfl rfl (vs:=[.pointer (some ⟨br,0,none⟩)]) (bg.of rfl) (err g b) (fun n d=>?_)
  repeat (first|apply ar|refine wt ?_)
  refine aO (Or.inl rfl) results169 (aD.tmp rfl) ?_
  exact⟨rfl,b.trans d⟩
 rw[if_neg (fun h=>h i)]
 repeat (first|apply ar|(apply au;rfl;(first|apply aE|apply du)<;>first|rfl|exact qf))
 refine bA rfl ?_
 repeat (first|apply ar|refine qa0 ?_)
 refine SG.ret rfl rfl rfl (vs:=[.pointer (some ⟨br,0,none⟩)]) (bg.of rfl) (left g b) (fun n d=>?_)
 by_cases j:p<l.length
 ·have k:(0:Int)<(l.length:Int)-(p:Int):=by omega
  rw[if_pos j]
  repeat (first|apply ar|(apply au;rfl;(first|apply aE|apply ij)<;>first|rfl|exact qf))
  refine bO rfl ?_
  repeat (first|apply ar|refine wt ?_)
  refine aO (Or.inl rfl) results169 (aD.tmp rfl) ?_
  exact⟨rfl,b.trans d⟩
 ·have k:¬(0:Int)<(l.length:Int)-(p:Int):=by omega
  rw[if_neg j]
  repeat (first|apply ar|(apply au;rfl;(first|apply aE|apply ij)<;>first|rfl|exact qr))
  refine bA rfl ?_
  repeat (first|apply ar|refine wt ?_)
  refine aO (Or.inl rfl) results169 (aD.tmp rfl) ?_
  exact⟨rfl,b.trans d⟩
theorem VP(a:Option Addr)(n c:Nat)(w:World):(Instr.build 293 #[(0,.slice a n c)]).run prog w= .ok (.agg (Jq (.slice a n c) 0 0).toArray) w:=by kernel_rfl
theorem yN(q:Bs w a c l)(u:l.length<=100000000):
  Calls prog 167 #[.slice a l.length c] w (fun n m=>∃d f g,n= .returned (.pointer (some ⟨d,0,none⟩))/\Kp [] w m/\w.heap.size<=d/\Fl m d f g l 0 0):=by
 refine bC func167 rfl ntmps167 rfl ?_
 repeat (first|apply ar|refine ww ?_)
 refine SG.call rfl rfl rfl (vs:=[.slice a l.length c,.int .i64 ((0:Nat):Int)]) (bg.of rfl) ((ni (c:=c) q.sl 0 (by omega)).mono (fun e x r=>?_))
 obtain⟨v,j,i,k⟩:=r
 refine⟨_,j,?_⟩
 clear j
 obtain⟨f,g,rfl,o⟩:=Bs.own i
 refine SG.val rfl rfl rfl rfl (aK rfl (VP f l.length g)) ?_
 refine SG.box rfl rfl rfl (ag rfl) (fun d y h t p=>?_)
 repeat (first|apply ar|refine wt ?_)
 refine aO (Or.inl rfl) results167 (aD.tmp rfl) ?_
 refine⟨d,f,g,rfl,k.trans h,by have:=k.size;omega,p,o.kp h (fun _ _ _=>not_mem_nil),Nat.zero_le _,fun b s e=>?_,fun b s e=>?_⟩
 ·have:=Al i b (by subst e;rfl)
  omega
 ·have:=Al i b (by subst e;rfl)
  have:=h.size
  omega
end
section
section
variable {P:Program} {n:Nat} {ops:List Oper} {Q:Exit->Act->World->Prop} {S:List Nat×Nat} {w0:World} {L:Env} {G:List (Nat×GD)} {K:Env->List Fact->Prop} {Γ:List Fact} {i:Nat} {ord:List Nat} {ty:TypeId} {pos:String} {af:Array Edge} {g:Option (Nat×Bool)}
def gB(m:Nat)(E:TypeId)(k:Nat)(cs:Array Value):GD:=⟨Nat,0,fun b=> .slice (some ⟨b,0,none⟩) k k,fun b w=>m<=b/\aG w b (.cells cs E)⟩
def gW(m:Nat)(E:TypeId)(k:Nat)(cs:Array Value)(mk:Value->Value):GD:=⟨Nat,0,fun b=>mk (.slice (some ⟨b,0,none⟩) k k),fun b w=>m<=b/\aG w b (.cells cs E)⟩
theorem bG.JP{d:Nat}{a:Op}{v:Value}(D:GD)(x:D.X)(e:fc G i=some D)(j:ops[i]?=some ⟨some d,a,ty,pos,af,g⟩)(m:want ops L ⟨some d,a,ty,pos,af,g⟩=some true)(f:a.operands.toList.all (known L)=true)
  (l:aP P S.1 w0 (fS ops i Γ) L ⟨some d,a,ty,pos,af,g⟩ v) (o:v=D.val x) (k:∀w,Kp S.1 w0 w->fS ops i Γ w->D.phi x w)
  (h:∀x,bG P S w0 ops G K ord ((d,D.val x)::L) ((i,D.phi x)::Γ)):bG P S w0 ops G K (i::ord) L Γ:=by
 refine bG.Jw D e j m f (fun w b c=>?_) h
 unfold bD
 rw[l w b c]
 exact⟨x,o,k w b c,Kp.refl _ _⟩
def gA(m:Nat)(T:TypeId)(cs:Array Value):GD:=⟨Nat,0,fun b=> .pointer (some ⟨b,0,none⟩),fun b w=>m<=b/\aG w b (.cells cs T)⟩
end
section
variable {P:Program} {S:List Nat} {w0:World} {F:World->Prop} {L:Env} {d:Option Nat} {ty:TypeId} {pos:String} {af:Array Edge} {g:Option (Nat×Bool)}
end
end
section
section
variable {P:Program} {n:Nat} {ops:List Oper} {Q:Exit->Act->World->Prop} {S:List Nat×Nat} {w0:World} {L:Env} {G:List (Nat×GD)} {K:Env->List Fact->Prop} {Γ:List Fact} {i:Nat} {ord:List Nat} {ty:TypeId} {pos:String} {af:Array Edge} {g:Option (Nat×Bool)}
def gT(l:List UInt8)(mk:Value->Value):GD:=⟨Nat×Nat,(0,0),fun q=>mk (.slice (some ⟨q.1,0,none⟩) l.length q.2),fun q w=>Sl (fun u:UInt8=>[bv u]) 1 w (some ⟨q.1,0,none⟩) l⟩
def WK{α:Type}(m:Nat)(E:TypeId)(enc:α->List Value)(sz:Nat)(l:List α)(mk:Value->Value):GD:=⟨Value,undef,mk,fun v w=>w.ownsRow m E sz v l.length (bX enc l)⟩
end
end
section
variable{k m:Nat}{T:TypeId}
section
variable {P:Program} {n:Nat} {ops:List Oper} {Q:Exit->Act->World->Prop} {S:List Nat×Nat} {w0:World} {L:Env} {G:List (Nat×GD)} {K:Env->List Fact->Prop} {Γ:List Fact} {i:Nat} {ord:List Nat} {ty:TypeId} {pos:String} {af:Array Edge} {g:Option (Nat×Bool)}
theorem pj{q:GD->Prop}{i:Nat}(a:q GD.none):∀{G:List (Nat×GD)},(∀p∈G,p.1≠i->q p.2)->∀j,j≠i->q (cu G j)
 |[],_,j,_=>a
 |(k,D)::G,h,j,b=>by
  unfold cu
  simp only[fc]
  by_cases e:k=j
  ·subst e
   simp
   exact h _ mem_cons_self b
  ·have c:Nat.beq k j=false:=by rw[<-Bool.not_eq_true,Nat.beq_eq];exact e
   rw[c]
   exact pj a (fun p d=>h p (mem_cons_of_mem _ d)) j b
def gV(m:Nat)(T:TypeId)(k:Nat):GD:=⟨Nat,0,fun b=> .pointer (some ⟨b,0,none⟩),fun b w=>m<=b/\∃cs,aG w b (.cells cs T)/\cs.size=k⟩
theorem qB(x:(gV m T k).X):cH [] ((gV m T k).phi x):=fun w f e ⟨b,a,c,d⟩=>⟨b,a,c.az e,d⟩
theorem bG.uX{d:Nat}{c:TypeInfo}[f:dJ P T c]{z:Value}(q:c.zero=some z)(r:Nat.beq z.cells.size k=true)(j:fc G i=some (gV m T k))
  (o:ops[i]?=some ⟨some d,.alloc T,ty,pos,af,g⟩) (p:want ops L ⟨some d,.alloc T,ty,pos,af,g⟩=some true) (l:m<=w0.heap.size)
  (h:∀b:Nat,bG P S w0 ops G K ord ((d,.pointer (some ⟨b,0,none⟩))::L) ((i,fun w=>m<=b/\∃a,aG w b (.cells a T)/\a.size=k)::Γ)):bG P S w0 ops G K (i::ord) L Γ:=by
 refine bG.Jw (gV m T k) j o p (by simp[Op.operands]) (fun w e s=>?_) h
 unfold bD
 have:(execOp (bH L) ⟨some d,.alloc T,ty,pos,af,g⟩).run P w= .ok (.value (.pointer (some ⟨w.heap.size,0,none⟩))) {w with heap:=w.heap.push (.cells z.cells T)}:=by
  simp[execOp,oX q,Result.andThen]
 rw[this]
 exact⟨w.heap.size,rfl,⟨Nat.le_trans l e.size,_,aG.push w _,Nat.eq_of_beq_eq_true r⟩,Kp.push w _ rfl⟩
theorem qC{b:Nat}{y:Nat}{w a:World}{l:List Value}(q:l.length=k)(p:Kp [b] w a)(o:aG a b (.cells l.toArray T))(h:(gV m T k).phi y w):(gV m T k).phi y a:=by
 obtain⟨c,d,f,j⟩:=h
 by_cases e:y=b
 ·subst e
  exact⟨c,_,o,by simpa using q⟩
 ·exact⟨c,d,f.kp p (bQ e),j⟩
def gP(m:Nat)(T:TypeId):GD:=⟨Nat×Array Value,(0,#[]),fun _=>undef,fun q w=>m<=q.1/\aG w q.1 (.cells q.2 T)⟩
theorem qD(x:(gP m T).X):cH [] ((gP m T).phi x):=fun w b a h=>⟨h.1,h.2.az a⟩
def LI{α:Type}(m:Nat)(E:TypeId)(enc:α->List Value)(sz:Nat)(l:List α)(mk:Value->Value):GD:=⟨Option Addr×Nat,(none,0),fun q=>mk (.slice q.1 l.length q.2),fun q w=>w.ownsRow m E sz (.slice q.1 l.length q.2) l.length (bX enc l)⟩
theorem Er{a:Type}{E:TypeId}{enc:a->List Value}{sz:Nat}{l:List a}{mk:Value->Value}(x:(LI m E enc sz l mk).X):cH [] ((LI m E enc sz l mk).phi x):=fun w c b h=>aV h b
end
end
section
def Room(e:TypeId)(w:World)(v v':Value)(n m:Nat):Prop:=∃g cap cur,v= .slice (some ⟨g,0,none⟩) n cap/\aG w g (.cells cur e)/\n+m<=cap/\v'= .slice (some ⟨g,0,none⟩) (n+m) cap
section
variable {w w':World} {base n m sz:Nat} {e:TypeId} {v v':Value} {xs news:List Value}
end
end
section
theorem aL{v:Value}{z:Nat}(a:z∈aR v):v.ownBlock=some z:=by
 unfold aR at a
 split at a
 ·rename_i b c
  rw[mem_singleton] at a
  rw[c,a]
 ·cases a
end
section
variable{base cap g k n:Nat}{T:TypeId}{inf:TypeInfo}{w:World}
section
variable {α:Type} {enc:α->List Value} {sz:Nat}
theorem AF(a:∀x,(enc x).length=sz)(l:List α)(k:Nat)(b:k<l.length)(x:α)(pre post:List Value):jT (pre++(bX enc l++post)) (pre.length+k*sz) (enc x)=pre++(bX enc (l.set k x)++post):=by
 have c:pre++(bX enc l++post)=(pre++bX enc (l.take k))++(enc l[k]++(bX enc (l.drop (k+1))++post)):=by rw[tJ l k b];simp
 have d:(pre++bX enc (l.take k)).length=pre.length+k*sz:=by
  rw[length_append,cD a,length_take,Nat.min_eq_left (by omega)]
 rw[c,<-d,nL (by simp[a])]
 rw[set_eq_take_append_cons_drop,if_pos b]
 simp[bX]
theorem l7{v:Value}{xs:List Value}(b:w.ownsRow base T sz v n xs)(c:0<n):∃g a,v= .slice (some ⟨g,0,none⟩) n a/\n<=a:=by
 rcases b.2 with⟨_,h⟩|⟨g,a,cur,h,_,_,h2,_⟩
 ·omega
 ·exact⟨g,a,h,h2⟩
theorem uv{l:List α}(e:∀x,(enc x).length=sz)(i:w.ownsRow base T sz (.slice (some ⟨g,0,none⟩) n cap) n (bX enc l))(h:l.length=n)(f:k<l.length):Row w g (0+k*sz) (enc l[k]):=by
 obtain⟨a,c,b,_,d⟩:=Sl.own e i h
 cases b
 exact d.row (getElem?_eq_getElem f)
theorem Bu{P:Program}[f:dJ P T inf]{l:List α}(a:∀x,(enc x).length=inf.size)(o:∀x,bI (enc x)=true)(m:w.ownsRow base T inf.size (.slice (some ⟨g,0,none⟩) n cap) n (bX enc l))(d:l.length=n)(j:k<l.length)(x:α):
  ∃e,(Instr.storeAt T (.pointer (some ⟨g,0+k*inf.size,none⟩)) (.agg (enc x).toArray)).run P w= .ok () e/\e.ownsRow base T inf.size (.slice (some ⟨g,0,none⟩) n cap) n (bX enc (l.set k x))/\Kp [g] w e:=by
 rcases m with⟨h1,⟨h2,_⟩|⟨g',cap',cur,h2,hb,hg,hc1,hc2,hc3,hc4⟩⟩
 ·cases h2
 ·cases h2
  have c:aG w g (.cells cur T):=hg
  have r:k*inf.size+inf.size<=n*inf.size:=by
   have:(k+1)*inf.size<=n*inf.size:=Nat.mul_le_mul_right _ (by omega)
   rwa [Nat.add_mul,Nat.one_mul] at this
  have q:n*inf.size<=cap*inf.size:=Nat.mul_le_mul_right _ hc1
  have b:(Value.agg (enc x).toArray).cells.toList=enc x:=by simp[Value.cells]
  have h:=fO (P:=P) (T:=T) (off:=0+k*inf.size) (v:= .agg (enc x).toArray) c (by rw[b];exact a x) (by rw[b,a x];omega) (by rw[b];exact o x)
  rw[b] at h
  refine⟨_,h,⟨by rw[cD a,length_set,d],Or.inr ⟨g,cap,_,rfl,hb,c.set _,hc1,hc2,?_,?_⟩⟩,Kp.set w c rfl rfl⟩
  ·have:=jS (cs:=cur.toList) (off:=0+k*inf.size) (l:=enc x) (by rw[a x];simp;omega)
   rw[size_toArray,this]
   simpa using hc3
  ·have p:cur.toList=[]++(bX enc l++cur.toList.drop (n*inf.size)):=by
    rw[nil_append]
    conv=>lhs;rw[<-take_append_drop (n*inf.size) cur.toList]
    rw[hc4]
   have i:=AF a l k j x [] (cur.toList.drop (n*inf.size))
   rw[<-p,length_nil,nil_append] at i
   rw[toList_toArray,i]
   refine(take_append_of_le_length ?_).trans (take_of_length_le ?_)
   ·rw[cD a,length_set,d];exact Nat.le_refl _
   ·rw[cD a,length_set,d];exact Nat.le_refl _
end
section
variable {P:Program} {α:Type} {enc:α->List Value} {m:Nat} {Q:Exit->Act->World->Prop} {ops rest:List Oper} {L:Env} {w:World} {ty:TypeId} {pos:String} {af:Array Edge} {q:Option (Nat×Bool)}
theorem SG.H6[f:dJ P T inf]{l:List α}{a x:Operand}{y:α}{o:Nat}(j:∀x,(enc x).length=inf.size)(v:∀x,bI (enc x)=true)(z:want ops L ⟨none,.store T a x,ty,pos,af,q⟩=some true)(p:(known L a&&known L x)=true)
  (i:bH L a= .pointer (some ⟨g,o,none⟩)) (u:o=0+k*inf.size) (A:bH L x= .agg (enc y).toArray) (t:w.ownsRow base T inf.size (.slice (some ⟨g,0,none⟩) n cap) n (bX enc l)) (s:l.length=n) (r:k<l.length)
  (h:∀b,Kp [g] w b->b.ownsRow base T inf.size (.slice (some ⟨g,0,none⟩) n cap) n (bX enc (l.set k y))->SG P m ops Q rest L b):SG P m ops Q (⟨none,.store T a x,ty,pos,af,q⟩::rest) L w:=by
 subst u
 refine SG.op rfl rfl z (by simpa[Op.operands] using p) ?_
 obtain⟨b,c,d,e⟩:=Bu (P:=P) j v t s r y
 unfold bD
 have:(execOp (bH L) ⟨none,.store T a x,ty,pos,af,q⟩).run P w= .ok .skip b:=by
  simp only[execOp,A,i,Sem.run_bind,c,Result.andThen,Sem.run_pure]
 rw[this]
 exact h b e d
end
end
section
variable{S:List Nat}{xs:List Value}{b base cap n sz:Nat}{a:Option Addr}{α:Type}{T:TypeId}{v:Value}{w w':World}
theorem cF{T':TypeId}{z:Nat}{cs:Array Value}(e:w.ownsRow base T sz v n xs)(d:T'≠T)(f:aG w z (.cells cs T')):∀b,v.ownBlock=some b->b∉[z]:=by
 intro b a c
 rw[mem_singleton] at c
 subst c
 rcases e.2 with⟨rfl,_⟩|⟨g,cap,cur,rfl,_,hg,_⟩
 ·cases a
 ·cases a
  have:=f.uniq hg
  simp only[Obj.cells.injEq] at this
  exact d this.2.1
theorem cK(c:w.ownsRow base T sz v n xs):∀b,v.ownBlock=some b->b<w.heap.size:=by
 intro b a
 rcases c.2 with⟨rfl,_⟩|⟨g,cap,cur,rfl,_,hg,_⟩
 ·cases a
 ·cases a
  exact(Array.getElem?_eq_some_iff.1 hg).1
theorem gQ(h:v.ownBlock=some b):b∈aR v:=by
 unfold aR
 rw[h]
 simp
theorem cj(d:w.ownsRow base T sz v n xs):∀b,v.ownBlock=some b->base<=b:=by
 intro b a
 rcases d.2 with⟨rfl,_⟩|⟨g',c,cur,rfl,hg,_⟩
 ·cases a
 ·cases a
  exact hg
theorem fY(f:w.ownsRow base T sz (.slice a n cap) n xs):∀b d,a=some ⟨b,d,none⟩->base<=b:=by
 intro b d e
 subst e
 rcases f.2 with⟨h,_⟩|⟨g,c,cur,h,hb,_⟩
 ·cases h
 ·cases h
  exact hb
theorem Sl.LG{enc:α->List Value}{l:List α}(h:Sl enc sz w a l)(d:Kp S w w')(c:l≠[]->∀b e,a=some ⟨b,e,none⟩->b∉S):Sl enc sz w' a l:=by
 cases l with
 |nil=>exact Sl.nil
 |cons x l=>exact h.kp d (c (by simp))
theorem Sl.QE{enc:α->List Value}{l:List α}(h:Sl enc sz w a l)(f:l≠[]):∀b d,a=some ⟨b,d,none⟩->b<w.heap.size:=fun b d e=>by
 obtain⟨i,j,c,g⟩:=h.at (length_pos_iff.2 f)
 rw[e] at c
 cases c
 exact g.lt
theorem gy{enc:α->List Value}(c:∀x,(enc x).length=sz){x:α}(h:aG w b (.cells (enc x).toArray T)):Sl enc sz w (some ⟨b,0,none⟩) [x]:=fun i y a=>by
 cases i with
 |zero=>
  cases a
  exact⟨b,0,rfl,by rw[Nat.zero_mul];exact Row.all h rfl⟩
 |succ i=>simp at a
def Ty{α:Type}(T:TypeId)(w:World)(a:Option Addr)(l:List α):Prop:=l≠[]->∀b off,a=some ⟨b,off,none⟩->∃cs f,w.heap[b]?=some (.cells cs T f)
theorem Ty.kp{l:List α}(h:Ty T w a l)(k:Kp S w w')(j:l≠[]->∀b c,a=some ⟨b,c,none⟩->b∉S):Ty T w' a l:=fun g b c e=>by
 obtain⟨i,f,d⟩:=h g b c e
 exact⟨i,f,(k.blk b (Array.getElem?_eq_some_iff.1 d).1 (j g b c e)).trans d⟩
theorem Ty.az{l:List α}(h:Ty T w a l)(b:Kp [] w w'):Ty T w' a l:=h.kp b (by simp)
theorem Ty.own{l:List α}(d:w.ownsRow base T sz (.slice a n cap) n xs):Ty T w a l:=fun _ b f e=>by
 subst e
 rcases d.2 with⟨h,_⟩|⟨g,c,cur,h,_,hg,_⟩
 ·cases h
 ·cases h
  exact⟨_,_,hg⟩
end
section
theorem CG.jK{P:Program}{n:Nat}{Q b:Exit->Act->World->Prop}{L:Env}{w:World}{c B:Code}(M:Env->World->Prop)(h:CG P n c (Exit.then (fun a w=>∃L,Fits n a L/\M L w) b) L w)(g:∀L w,M L w->CG P n B Q L w):CG P n c (Exit.then (B.wp P Q) b) L w:=by
 intro a j
 refine wp_mono (h a j) (fun e a w d=>?_)
 cases e<;>first|exact d|(obtain⟨L,f,i⟩:=d;exact g L w i a f)
end
section
variable{l:List UInt8}{m n n0 off:Nat}{a:Option Addr}{w w':World}
open Go.Proofs
theorem Row.part{b:Nat}{l:List Value}(h:Row w b off l)(pre m post:List Value)(g:l=pre++(m++post)):Row w b (off+pre.length) m:=by
 obtain⟨c,T,f,d,e⟩:=h
 refine⟨c,T,f,d,fun i v a=>?_⟩
 have j:i<m.length:=(List.getElem?_eq_some_iff.1 a).1
 rw[Nat.add_assoc]
 refine e (pre.length+i) v ?_
 rw[g,getElem?_append_right (by omega),Nat.add_sub_cancel_left,getElem?_append_left j]
 exact a
structure Tm where
 t:Tx
 a1:Option Addr
 c1:Nat
 a2:Option Addr
 c2:Nat
def Tm.b(x:Tm):Value:= .slice x.a1 x.t.body.length x.c1
def Tm.s(x:Tm):Value:= .slice x.a2 x.t.sig.length x.c2
def bV(x:Tm):List Value:=dc x.t.frm++[.int .i64 x.t.non,.int .i64 x.t.fee,.int .i64 x.t.kind,x.b,x.s]
theorem ay(x:Tm):(bV x).length=13:=by simp[bV,ai]
theorem bY(x:Tm):bI (bV x)=true:=by simp[bV,bI,dc,kY,Tm.b,Tm.s]
def eG(x:Tm):Value:= .agg (bV x).toArray
def Tb(n:Nat)(w:World)(a:Option Addr)(l:List UInt8):Prop:=Ty 5 w a l\/∀b off,a=some ⟨b,off,none⟩->b<n
theorem Tb.kp{S:List Nat}(h:Tb n w a l)(d:Kp S w w')(c:l≠[]->∀b e,a=some ⟨b,e,none⟩->b∉S):Tb n w' a l:=h.elim (fun h=>Or.inl (h.kp d c)) Or.inr
theorem Tb.az(h:Tb n w a l)(b:Kp [] w w'):Tb n w' a l:=h.kp b (fun _ _ _ _=>not_mem_nil)
theorem Tb.mono(h:Tb n w a l)(c:n<=m):Tb m w a l:=h.elim Or.inl (fun h=>Or.inr (fun b d e=>Nat.lt_of_lt_of_le (h b d e) c))
structure Tm.In(x:Tm)(n:Nat)(w:World):Prop where
 b:Bs w x.a1 x.c1 x.t.body
 s:Bs w x.a2 x.c2 x.t.sig
 t1:Tb n w x.a1 x.t.body
 t2:Tb n w x.a2 x.t.sig
 l1:x.t.body.length<=10000000
 l2:x.t.sig.length<=10000000
theorem Bs.az{c:Nat}(h:Bs w a c l)(b:Kp [] w w'):Bs w' a c l:=h.kp b (fun _ _ _=>not_mem_nil)
theorem Tm.In.mono{x:Tm}(h:x.In n w)(a:n<=m):x.In m w:=⟨h.b,h.s,h.t1.mono a,h.t2.mono a,h.l1,h.l2⟩
theorem Tm.In.az{x:Tm}(h:x.In n w)(a:Kp [] w w'):x.In n w':=⟨h.b.az a,h.s.az a,h.t1.az a,h.t2.az a,h.l1,h.l2⟩
theorem KS(w:World):(Instr.build 47 #[]).run prog w= .ok (dv zd) w:=by kernel_rfl
theorem oV{b:Nat}{x:Tm}(h:Row w b off (bV x)):Row w b off (dc x.t.frm)/\Row w b (off+8) [.int .i64 x.t.non]/\Row w b (off+9) [.int .i64 x.t.fee]/\Row w b (off+10) [.int .i64 x.t.kind]/\Row w b (off+11) [x.b]/\Row w b (off+12) [x.s]:=by
 have i:(dc x.t.frm).length=8:=ai _
 have g:=h.part [] (dc x.t.frm) [Value.int .i64 x.t.non,.int .i64 x.t.fee,.int .i64 x.t.kind,x.b,x.s] (by simp[bV])
 have a:=h.part (dc x.t.frm) [Value.int .i64 x.t.non] [Value.int .i64 x.t.fee,.int .i64 x.t.kind,x.b,x.s] (by simp[bV])
 have c:=h.part (dc x.t.frm++[Value.int .i64 x.t.non]) [Value.int .i64 x.t.fee] [Value.int .i64 x.t.kind,x.b,x.s] (by simp[bV])
 have d:=h.part (dc x.t.frm++[Value.int .i64 x.t.non,.int .i64 x.t.fee]) [Value.int .i64 x.t.kind] [x.b,x.s] (by simp[bV])
 have e:=h.part (dc x.t.frm++[Value.int .i64 x.t.non,.int .i64 x.t.fee,.int .i64 x.t.kind]) [x.b] [x.s] (by simp[bV])
 have f:=h.part (dc x.t.frm++[Value.int .i64 x.t.non,.int .i64 x.t.fee,.int .i64 x.t.kind,x.b]) [x.s] [] (by simp[bV])
 simp only[length_append,i,length_cons,length_nil] at a c d e f
 exact⟨g,a,c,d,e,f⟩
theorem aX{b:Nat}{T:TypeId}{x:Tm}(h:aG w b (.cells (bV x).toArray T)):Row w b 0 (bV x)/\Row w b 0 (dc x.t.frm)/\Row w b 8 [.int .i64 x.t.non]/\Row w b 9 [.int .i64 x.t.fee]/\Row w b 10 [.int .i64 x.t.kind]/\Row w b 11 [x.b]/\Row w b 12 [x.s]:=by
 have a:Row w b 0 (bV x):=Row.all h rfl
 have c:=oV a
 simp only[Nat.zero_add] at c
 exact⟨a,c⟩
def gv(l:List UInt8):Dg:=if dI l=0 then frm (Fu l 0 0 18446744073709551615) else zd
def fy(l:List UInt8):Int:=if dI l=0 then IntKind.wrap .i64 (Fu l (yC l 0 0 18446744073709551615) (Ag l 0 0 18446744073709551615) 1125899906842624:Int) else 0
theorem Gf(l:List UInt8)(e a:Int)(g j:Nat)(q:e=Ag l 0 0 18446744073709551615)(r:g=yC l 0 0 18446744073709551615)(o:a=Ag l g e 1125899906842624)(s:j=yC l g e 1125899906842624):(if a≠0 then a else if j<l.length then 5 else 0)=dI l:=by
 have p:nB l 18446744073709551615=cz l:=by
  unfold nB
  by_cases h:cz l=0
  ·have:=xg h
   rw[if_neg (fun k=>k h),if_neg (by omega),h]
  ·rw[if_pos h]
 have i:e=cz l:=by rw[q,Ag,if_pos rfl,drop_zero,p]
 by_cases c:cz l=0
 rotate_left
 ·have z:dI l=cz l:=by
   unfold dI
   rw[if_pos c]
  have b:a=cz l:=by rw[o,Ag,if_neg (by rw[i];exact c),i]
  rw[z,b,if_pos c]
 have n:e=0:=by rw[i,c]
 have u:g=db l:=by
  rw[r,yC,drop_zero,if_pos ⟨rfl,by rw[p,c]⟩]
  omega
 subst u
 have b:a=nB (l.drop (db l)) 1125899906842624:=by rw[o,Ag,if_pos n]
 have w:dI l=(if cz (l.drop (db l))≠0 then cz (l.drop (db l)) else if 1125899906842624<eB (l.drop (db l)) then 2 else if db l+db (l.drop (db l))<l.length then 5 else 0):=by
  unfold dI
  rw[if_neg (fun k=>k c)]
 rw[w]
 generalize t:l.drop (db l)=m at*
 by_cases d:cz m=0
 rotate_left
 ·have:a=cz m:=by rw[b,nB,if_pos d]
  rw[this,if_pos d,if_pos d]
 have x:(if cz m≠0 then cz m else if 1125899906842624<eB m then 2 else if db l+db m<l.length then 5 else 0)=(if 1125899906842624<eB m then 2 else if db l+db m<l.length then(5:Int) else 0):=if_neg (fun k=>k d)
 rw[x]
 by_cases f:1125899906842624<eB m
 ·have:a=2:=by rw[b,nB,if_neg (fun k=>k d),if_pos f]
  rw[this,if_pos f,if_pos (by decide)]
 ·have:a=0:=by rw[b,nB,if_neg (fun k=>k d),if_neg f]
  have v:j=db l+db m:=by
   rw[s,yC,t,if_pos ⟨n,by rw[<-b,this]⟩]
  rw[this,if_neg (fun k=>k rfl),if_neg f,v]
attribute [local irreducible] CG NG SG aP aM Row aG aF aQ mH iZ xY rZ mA nc Gm Fx lO fT cz eB db Fu yC Ag nB dI bG
theorem vp{P n o Q r L w d b t p f g v}(c:SG P n o Q r ((d,v)::L) w)(a:(Nat.blt d n&&(!fm b&&(want o L ⟨some d,b,t,p,f,g⟩==some true&&b.operands.toList.all (known L))))=true:=by rfl)(e:aP P [] w (fun _=>True) L ⟨some d,b,t,p,f,g⟩ v:=by (first|apply aB|apply aE|apply du)<;>first|rfl|exact qf):SG P n o Q (⟨some d,b,t,p,f,g⟩::r) L w:=au a e c
theorem vr{P n o Q r L w d b t p f g v}(c:SG P n o Q r ((d,v)::L) w)(a:(Nat.blt d n&&(!fm b&&(want o L ⟨some d,b,t,p,f,g⟩==some true&&b.operands.toList.all (known L))))=true:=by rfl)(e:aP P [] w (fun _=>True) L ⟨some d,b,t,p,f,g⟩ v:=by (first|apply aB|apply aE|apply du)<;>first|rfl|exact qr):SG P n o Q (⟨some d,b,t,p,f,g⟩::r) L w:=au a e c
theorem oZ{x:Tm}(S:x.In n0 w)(ab:x.t.kind=0):
  Calls prog 137 #[eG x] w (fun e' w'=>∃(d:Dg) (n:Int),e'= .returned (.tuple #[dv d,.int .i64 n,.int .i64 (dI x.t.body)])/\Kp [] w w'/\d=gv x.t.body/\n=fy x.t.body):=by
 refine bC func137 rfl ntmps137 rfl ?_
 repeat apply ar
 refine SG.box rfl rfl rfl (ag rfl) (fun b1 w1 O al y=>?_)
 refine SG.alloc rfl rfl rfl (fun k X P am a=>?_)
 have y:aG X b1 (.cells (bV x).toArray 52):=y.az P
 have a:aG X k (.cells (dc zd).toArray 47):=a
 obtain⟨-,-,-,-,W,r4,-⟩:=aX y
 have s:=O.trans P
 rw[ab] at W
 have ah:(0:Int)=0:=rfl
 have hl:=S.l1
 repeat (first|apply ar|(apply au;rfl;(first|apply aE|apply aZ|apply aU|apply du)<;>first|rfl|assumption|exact qf|exact wn))
 refine bA rfl ?_
 repeat (first|apply ar|(apply au;rfl;(first|apply aZ|apply aU)<;>first|rfl|assumption|exact wn))
 refine SG.call rfl rfl rfl (vs:=[x.b]) (bg.of rfl) ((yN (S.b.az s) (by omega)).mono (fun e w3 o=>?_))
 obtain⟨r,Y,c',g,C,ao,hR⟩:=o
 refine⟨_,g,?_⟩
 clear g W r4
 repeat (first|apply ar|refine ww ?_)
 refine SG.call rfl rfl rfl (vs:=[.pointer (some ⟨r,0,none⟩),.int .u64 ((18446744073709551615:Nat):Int)]) (bg.of rfl) ((DM hR (by omega) 18446744073709551615).mono (fun e w4 o=>?_))
 obtain⟨g,E,f⟩:=o
 refine⟨_,g,?_⟩
 clear g
 obtain⟨D,L⟩:∃D,gv x.t.body=D:=⟨_,rfl⟩
 obtain⟨N,M⟩:∃N,fy x.t.body=N:=⟨_,rfl⟩
 have j:=L
 have c:=M
 unfold gv at j
 unfold fy at c
 rw[L,M]
 generalize h1:Ag x.t.body 0 0 18446744073709551615=m at f c
 generalize h2:yC x.t.body 0 0 18446744073709551615=q at f c
 generalize Fu x.t.body 0 0 18446744073709551615=h at j
 refine SG.ret rfl rfl rfl (vs:=[.int .u64 (h:Int)]) (bg.of rfl) (mi h w4) (fun w5 Q=>?_)
 refine SG.alloc rfl rfl rfl (fun v w6 ac an i=>?_)
 refine SG.aN (l:=dc (frm h)) rfl rfl (ag rfl) (ag rfl) i (ai _) rfl (bj _) (fun J ad i=>?_)
 have i:aG J v (.cells (dc (frm h)).toArray 47):=i
 have U:Kp [] w5 J:=ac.aj ad (aW (by omega))
 have p:=Q.trans U
 have aa:Fl J r Y c' x.t.body q m:=⟨f.blk.az p,f.bs.az p,f.le,f.ne,fun Z ae e=>Nat.lt_of_lt_of_le (f.lt Z ae e) p.size⟩
 repeat (first|apply ar|refine qa0 ?_)
 refine SG.call rfl rfl rfl (vs:=[.pointer (some ⟨r,0,none⟩),.int .u64 ((1125899906842624:Nat):Int)]) (bg.of rfl) ((DM aa (by omega) 1125899906842624).mono (fun e w8 o=>?_))
 obtain⟨g,F,z⟩:=o
 refine⟨_,g,?_⟩
 clear g
 generalize h3:Ag x.t.body q m 1125899906842624=e2 at z
 generalize h4:yC x.t.body q m 1125899906842624=p2 at z
 generalize Fu x.t.body q m 1125899906842624=v2 at c
 have R:=Gf x.t.body m e2 q p2 h1.symm h2.symm h3.symm h4.symm
 have A:=BZ z (by omega)
 rw[R] at A
 repeat (first|apply ar|(apply au;rfl;(first|apply aB|apply aE|apply xX)<;>rfl))
 refine SG.ret rfl rfl rfl (vs:=[.pointer (some ⟨r,0,none⟩)]) (bg.of rfl) A (fun u G=>?_)
 have l2:=a.lt
 have s3:=C.size
 have s4:=E.size
 have s5:=Q.size
 have ap:=U.size
 have a:aG u k (.cells (dc zd).toArray 47):=((((a.az C).kp E (bQ (by omega))).az p).kp F (bQ (by omega))).az G
 have i:aG u v (.cells (dc (frm h)).toArray 47):=(i.kp F (bQ (by have:=f.blk.lt;omega))).az G
 have V:Kp [] w u:=((((s.trans C).aj E (aW (by have:=s.size;omega))).trans p).aj F (aW (by have:=s.size;omega))).trans G
 have ak:Row u v 0 (dc (frm h)):=Row.all i rfl
 have K:w.heap.size<=k:=by have:=O.size;omega
 generalize dI x.t.body=af at j c⊢
 clear R A
 by_cases T:af=0
 ·repeat (first|apply ar|refine vp ?_)
  refine bA rfl ?_
  repeat (first|apply ar|(apply au;rfl;(first|apply aB|apply bf)<;>first|rfl|assumption|exact wn))
  refine SG.aN (l:=dc (frm h)) rfl rfl (ag rfl) (ag rfl) a (ai _) rfl (bj _) (fun I B a=>?_)
  have H:Row I k 0 (dc (frm h)):=Row.all a rfl
  subst T
  rw[if_pos rfl] at j c
  subst j c
  repeat (first|apply ar|refine wt ?_)
  refine sM (Or.inl rfl) results137 (aD.agg rfl rfl H (ai _)) (aD.tmp rfl) (aD.tmp rfl) ?_
  exact⟨_,_,rfl,V.aj B (aW K),rfl,rfl⟩
 ·rw[if_neg T] at j c
  subst j c
  repeat (first|apply ar|refine vr ?_)
  refine bO rfl ?_
  repeat apply ar
  refine SG.val rfl rfl rfl rfl (aK rfl KS) ?_
  repeat refine qa0 ?_
  refine SG.aN (l:=dc zd) rfl rfl (ag rfl) (ag rfl) a (ai _) rfl (bj _) (fun I B a=>?_)
  have H:Row I k 0 (dc zd):=Row.all a rfl
  repeat (first|apply ar|refine wt ?_)
  refine sM (Or.inl rfl) results137 (aD.agg rfl rfl H (ai _)) (aD.tmp rfl) (aD.tmp rfl) ?_
  exact⟨_,_,rfl,V.aj B (aW K),rfl,rfl⟩
theorem jQ(t:Tx):FE t↔(0<=t.non/\t.non<=1099511627776)/\(0<=t.fee/\t.fee<=1125899906842624)/\(0<=t.kind/\t.kind<=2)/\((t.body.length:Int)<=32768)/\((t.sig.length:Int)<=1024):=
 ⟨fun h=>⟨⟨h.n0,h.n1⟩,⟨h.f0,h.f1⟩,⟨h.k0,h.k1⟩,by have:=h.b;omega,by have:=h.s;omega⟩,fun⟨⟨a,i⟩,⟨c,d⟩,⟨e,f⟩,g,h⟩=>⟨a,i,c,d,e,f,by omega,by omega⟩⟩
theorem jC(n most:Int)(w:World):dq prog 144 #[.int .i64 n,.int .i64 most] w (.bool (decide (0<=n/\n<=most))):=by
 refine bN func144 rfl ntmps144 rfl ?_
 by_cases a:0<=n
 ·by_cases b:n<=most
  ·rw[decide_eq_true ⟨a,b⟩]
   repeat (first|apply ar|(apply au;rfl;(first|apply aB|apply aE|apply cI|apply Cq|apply ji)<;>first|rfl|exact qf))
   refine aO (Or.inl rfl) results144 (aD.tmp rfl) ?_
   exact⟨rfl,Kp.refl _ _⟩
  ·rw[decide_eq_false (fun h=>b h.2)]
   repeat (first|apply ar|(apply au;rfl;(first|apply aB|apply aE|apply cI|apply Cq|apply ji)<;>first|rfl|exact qf|exact qr))
   refine aO (Or.inl rfl) results144 (aD.tmp rfl) ?_
   exact⟨rfl,Kp.refl _ _⟩
 ·rw[decide_eq_false (fun h=>a h.1)]
  repeat (first|apply ar|(apply au;rfl;(first|apply aB|apply aE|apply cI|apply ji)<;>first|rfl|exact qr)|refine SG.skip rfl rfl ?_)
  refine aO (Or.inl rfl) results144 (aD.tmp rfl) ?_
  exact⟨rfl,Kp.refl _ _⟩
theorem qa2{P n o Q r L w d b t p f g v}(c:SG P n o Q r ((d,v)::L) w)(a:(Nat.blt d n&&(!fm b&&(want o L ⟨some d,b,t,p,f,g⟩==some true&&b.operands.toList.all (known L))))=true:=by rfl)(e:aP P [] w (fun _=>True) L ⟨some d,b,t,p,f,g⟩ v:=by apply bf<;>first|rfl|assumption|exact wn|apply ay):SG P n o Q (⟨some d,b,t,p,f,g⟩::r) L w:=au a e c
theorem qa7{P n o Q r L w d b t p f g v}(c:SG P n o Q r ((d,v)::L) w)(a:(Nat.blt d n&&(!fm b&&(want o L ⟨some d,b,t,p,f,g⟩==some true&&b.operands.toList.all (known L))))=true:=by rfl)(e:aP P [] w (fun _=>True) L ⟨some d,b,t,p,f,g⟩ v:=by (first|apply aB|apply dd)<;>rfl):SG P n o Q (⟨some d,b,t,p,f,g⟩::r) L w:=au a e c
theorem ki{x:Tm}(K:x.In n0 w):dq prog 104 #[eG x] w (.int .i64 (bu x.t)):=by
 refine bC func104 rfl ntmps104 rfl ?_
 repeat apply ar
 refine SG.box rfl rfl rfl (ag rfl) (fun E D I U v=>?_)
 have v:aG D E (.cells (bV x).toArray 52):=v
 have W:=jQ x.t
 have X:=K.az I
 repeat refine wt ?_
 refine SG.nil ?_
 refine NG.next ?_
 repeat (first|refine CG.scope ?_|refine CG.seq ?_|refine CG.region ?_)
 repeat refine wt ?_
 refine SG.nil ?_
 refine NG.next ?_
 repeat (first|refine CG.scope ?_|refine CG.seq ?_)
 obtain⟨r,y⟩:∃r:Bool,(r=true↔FE x.t):=by
  classical
  exact⟨decide (FE x.t),decide_eq_true_iff⟩
 have k:¬FE x.t->r=false:=fun h=>by
  cases r with
  |false=>rfl
  |true=>exact absurd (y.1 rfl) h
 refine CG.jK (fun L S=>aS [(1,.pointer (some ⟨E,0,none⟩)),(4,.bool r)] L/\Kp [] D S) ?_ ?_
 ·obtain⟨-,-,Y,M,f,j,g⟩:=aX v
  repeat (first|apply ar|(apply au;rfl;(first|apply aB|apply aZ|apply aU)<;>first|rfl|assumption|exact wn))
  refine SG.nV (Fn:=by infer_instance) (vs:=[.int .i64 x.t.non,.int .i64 1099511627776]) (caps:=[]) rfl rfl rfl (ag rfl) (bg.of rfl) (jC x.t.non 1099511627776 D) (fun N a=>?_)
  by_cases m:0<=x.t.non/\x.t.non<=1099511627776
  rotate_left
  ·rw[decide_eq_false m,k (fun h=>m (by have:=jQ x.t;have u:=this.1 h;omega))]
   repeat (first|apply ar|(apply au;rfl;(first|apply aB|apply aE|apply cI)<;>rfl)|refine SG.skip rfl rfl ?_)
   exact NG.cut ⟨by(repeat' (first|exact True.intro|exact rfl|refine And.intro ?_ ?_)),a⟩
  rw[decide_eq_true m]
  have M:=M.az a
  have f:=f.az a
  have j:=j.az a
  have g:=g.az a
  repeat (apply au;rfl;(first|apply aB|apply aZ|apply aU)<;>first|rfl|assumption|exact wn)
  refine SG.nV (Fn:=by infer_instance) (vs:=[.int .i64 x.t.fee,.int .i64 1125899906842624]) (caps:=[]) rfl rfl rfl (ag rfl) (bg.of rfl) (jC x.t.fee 1125899906842624 N) (fun O b=>?_)
  by_cases o:0<=x.t.fee/\x.t.fee<=1125899906842624
  rotate_left
  ·rw[decide_eq_false o,k (fun h=>o (by have:=jQ x.t;have u:=this.1 h;omega))]
   repeat (first|apply ar|(apply au;rfl;(first|apply aB|apply aE|apply cI)<;>rfl)|refine SG.skip rfl rfl ?_)
   exact NG.cut ⟨by(repeat' (first|exact True.intro|exact rfl|refine And.intro ?_ ?_)),(a).trans b⟩
  rw[decide_eq_true o]
  have f:=f.az b
  have j:=j.az b
  have g:=g.az b
  repeat (apply au;rfl;(first|apply aB|apply aZ|apply aU|apply cI)<;>first|rfl|assumption|exact wn)
  refine SG.nV (Fn:=by infer_instance) (vs:=[.int .i64 x.t.kind,.int .i64 2]) (caps:=[]) rfl rfl rfl (ag rfl) (bg.of rfl) (jC x.t.kind 2 O) (fun P c=>?_)
  by_cases p:0<=x.t.kind/\x.t.kind<=2
  rotate_left
  ·rw[decide_eq_false p,k (fun h=>p (by have:=jQ x.t;have u:=this.1 h;omega))]
   repeat (first|apply ar|(apply au;rfl;(first|apply aB|apply aE|apply cI)<;>rfl)|refine SG.skip rfl rfl ?_)
   exact NG.cut ⟨by(repeat' (first|exact True.intro|exact rfl|refine And.intro ?_ ?_)),((a).trans b).trans c⟩
  rw[decide_eq_true p]
  have j:=j.az c
  have g:=g.az c
  repeat (apply au;rfl;(first|apply aB|apply aZ|apply aU|apply cI|apply dg)<;>first|rfl|assumption|exact wn)
  refine SG.nV (Fn:=by infer_instance) (vs:=[.int .i64 (x.t.body.length:Int),.int .i64 32768]) (caps:=[]) rfl rfl rfl (ag rfl) (bg.of rfl) (jC (x.t.body.length:Int) 32768 P) (fun Q i=>?_)
  by_cases q:0<=(x.t.body.length:Int)/\(x.t.body.length:Int)<=32768
  rotate_left
  ·rw[decide_eq_false q,k (fun h=>q (by have:=jQ x.t;have u:=this.1 h;omega))]
   repeat (first|apply ar|(apply au;rfl;(first|apply aB|apply aE|apply cI)<;>rfl)|refine SG.skip rfl rfl ?_)
   exact NG.cut ⟨by(repeat' (first|exact True.intro|exact rfl|refine And.intro ?_ ?_)),(((a).trans b).trans c).trans i⟩
  rw[decide_eq_true q]
  have g:=g.az i
  repeat (apply au;rfl;(first|apply aB|apply aZ|apply aU|apply cI|apply dg)<;>first|rfl|assumption|exact wn)
  refine SG.nV (Fn:=by infer_instance) (vs:=[.int .i64 (x.t.sig.length:Int),.int .i64 1024]) (caps:=[]) rfl rfl rfl (ag rfl) (bg.of rfl) (jC (x.t.sig.length:Int) 1024 Q) (fun Z J=>?_)
  by_cases s:0<=(x.t.sig.length:Int)/\(x.t.sig.length:Int)<=1024
  rotate_left
  ·rw[decide_eq_false s,k (fun h=>s (by have:=jQ x.t;have u:=this.1 h;omega))]
   repeat (first|apply ar|(apply au;rfl;(first|apply aE|apply cI)<;>rfl))
   exact NG.cut ⟨by(repeat' (first|exact True.intro|exact rfl|refine And.intro ?_ ?_)),((((a).trans b).trans c).trans i).trans J⟩
  rw[decide_eq_true s]
  rw[y.2 ((jQ x.t).2 ⟨m,o,p,q.2,s.2⟩)]
  repeat (first|apply ar|(apply au;rfl;(first|apply aE|apply cI)<;>rfl))
  exact NG.cut ⟨by(repeat' (first|exact True.intro|exact rfl|refine And.intro ?_ ?_)),((((a).trans b).trans c).trans i).trans J⟩
 rintro L N ⟨G,a⟩
 refine CG.to _ G ?_
 clear G L
 have z:=I.trans a
 have A:=v.az a
 obtain⟨C,-,-,-,f,-,-⟩:=aX A
 cases r with
 |false=>
  have e:bu x.t=2:=if_neg (fun h=>by have:=y.2 h;cases this)
  rw[e]
  repeat (first|apply ar|refine qb2 ?_)
  refine bO rfl ?_
  repeat (first|apply ar|refine wt ?_)
  refine aO (Or.inl rfl) results104 (aD.tmp rfl) ?_
  exact⟨rfl,z⟩
 |true=>
  have e:bu x.t=if x.t.kind=0 then dI x.t.body else 0:=if_pos (y.1 rfl)
  rw[e]
  repeat (first|apply ar|refine qb2 ?_)
  refine bA rfl ?_
  by_cases B:x.t.kind=0
  ·rw[if_pos B]
   clear f
   have f:=(aX A).2.2.2.2.1
   clear C
   repeat (first|apply ar|(apply au;rfl;(first|apply aZ|apply aU|apply fE)<;>first|rfl|assumption|exact qf|exact wn))
   refine bO rfl ?_
   clear f
   obtain⟨C,-⟩:=aX A
   repeat (first|apply ar|refine qa2 ?_)
   refine SG.call rfl rfl rfl (vs:=[eG x]) (bg.of rfl) ((oZ (K.az z) B).mono (fun e O R=>?_))
   obtain⟨d,n,H,b,-⟩:=R
   refine⟨_,H,?_⟩
   clear H
   generalize dI x.t.body=aa
   repeat refine qa7 ?_
   refine SG.alloc rfl rfl rfl (fun T P c V F=>?_)
   refine SG.aN (l:=dc d) rfl rfl (ag rfl) (ag rfl) F (ai _) rfl (bj _) (fun Q i F=>?_)
   repeat (first|apply ar|refine ww ?_)
   refine aO (Or.inl rfl) results104 (aD.tmp rfl) ?_
   exact⟨rfl,(z.trans b).trans (c.aj i (aW (by omega)))⟩
  ·rw[if_neg B]
   clear C
   repeat (first|apply ar|(apply au;rfl;(first|apply aZ|apply aU|apply fE)<;>first|rfl|assumption|exact qr|exact wn))
   refine bA rfl ?_
   repeat (first|apply ar|refine wt ?_)
   refine aO (Or.inl rfl) results104 (aD.tmp rfl) ?_
   exact⟨rfl,z⟩
end
section
section
variable {P:Program} {n:Nat} {ops:List Oper} {Q:Exit->Act->World->Prop} {w w0:World} {L:Env} {ty:TypeId} {pos:String} {af:Array Edge} {g:Option (Nat×Bool)} {rest:List Oper}
end
end
section
variable{l m:List UInt8}{n0 sz:Nat}{a:Option Addr}{x:Tm}{b:Tx}{w:World}
open Go.Proofs
theorem rb{base n cap:Nat}{T:TypeId}{xs:List Value}(d:w.ownsRow base T sz (.slice a l.length cap) n xs):l=[]/\a=none\/∃b e,a=some ⟨b,e,none⟩:=by
 rcases d.2 with⟨h,h0⟩|⟨g,c,cur,h,_⟩
 ·simp only[Value.slice.injEq] at h
  exact Or.inl ⟨eq_nil_of_length_eq_zero h.2.1,h.1⟩
 ·simp only[Value.slice.injEq] at h
  exact Or.inr ⟨g,0,h.1⟩
theorem cm(n:Nat):(cU n).length<=11:=vX 10 n
open Classical in
noncomputable def sJ(a b:Tx):Bool:=decide (a=b)
theorem yl{a:Tx}(h:a=b):sJ a b=true:=by simp[sJ,h]
theorem ym{a:Tx}(h:a≠b):sJ a b=false:=by simp[sJ,h]
theorem nJ(t:Tx)(a c:Option Addr)(c1 c2:Nat):bV ⟨t,a,c1,c,c2⟩=(dc t.frm++[.int .i64 t.non,.int .i64 t.fee,.int .i64 t.kind])++([.slice a t.body.length c1]++[.slice c t.sig.length c2]):=by
 simp[bV,Tm.b,Tm.s]
theorem vH(t:Tx)(a c:Option Addr)(c1 c2:Nat):bV ⟨t,a,c1,c,c2⟩=(dc t.frm++[.int .i64 t.non,.int .i64 t.fee,.int .i64 t.kind,.slice a t.body.length c1])++([.slice c t.sig.length c2]++[]):=by
 simp[bV,Tm.b,Tm.s]
theorem zW(t:Tx):(dc t.frm++[Value.int .i64 t.non,.int .i64 t.fee,.int .i64 t.kind]).length=11:=by simp[ai]
theorem FO(t:Tx)(v:Value):(dc t.frm++[Value.int .i64 t.non,.int .i64 t.fee,.int .i64 t.kind,v]).length=12:=by simp[ai]
theorem Sl.An{a:Type}{enc:a->List Value}{l:List a}(h:Sl enc sz w none l):l=[]:=by
 cases l with
 |nil=>rfl
 |cons x l=>
  obtain⟨b,c,e,_⟩:=h 0 x rfl
  cases e
attribute [local irreducible] CG NG SG aP aM Row aG aF aQ mH iZ xY rZ mA nc Gm Fx bG cU num bu
theorem mQ{g:Option Addr}{c c2:Nat}(p:Bs w a c l)(o:Bs w g c2 m)(s:l.length+m.length<=100000000):kr prog 5 iE 1 111 #[.slice a l.length c,.slice g m.length c2] w (l++DA m):=by
 refine bN func111 rfl ntmps111 rfl ?_
 have n:(10:Int)+(m.length:Int)=((10+m.length:Nat):Int):=by omega
 repeat (first|apply ar|(apply au;rfl;(first|apply aB|apply aE|apply dp|apply dg)<;>first|rfl|exact zc))
 rw[n]
 refine SG.call rfl rfl rfl (by repeat' (first|exact True.intro|exact ag rfl|refine And.intro ?_ ?_)) ((ni (c:=c) p.sl (10+m.length) (by omega)).mono (fun e y d=>?_))
 obtain⟨u,b,i,h⟩:=d
 refine⟨_,b,?_⟩
 repeat (apply au;rfl;first|(apply Gb<;>(first|rfl|exact zc))|((first|apply aB|apply dg)<;>(first|rfl|exact zc)))
 refine SG.call rfl rfl rfl (by repeat' (first|exact True.intro|exact ag rfl|refine And.intro ?_ ?_)) ((pS i h.size m.length (by omega) (by omega)).mono (fun e z d=>?_))
 obtain⟨v,b,j,q,_⟩:=d
 refine⟨_,b,?_⟩
 have f:=h.aj q (ff i (Nat.le_refl _))
 have t:=cm m.length
 repeat (first|apply ar|refine ww ?_)
 refine SG.jN (enc:=iE) (xs:=l++cU m.length) (ys:=m) (base:=w.heap.size) rfl rfl rfl (ag rfl) (ag rfl) rfl rfl rfl rfl gg mq j (o.sl.az f) (by simp only[maxLen,length_append];omega) (by simp only[length_append];show(_+_)*1<=_;omega) f.size (fun x A r k _=>?_)
 repeat (first|apply ar|refine wt ?_)
 refine aO (Or.inl rfl) results111 (aD.tmp rfl) ?_
 refine⟨_,rfl,?_,f.aj r (ff j (Nat.le_refl _))⟩
 rw[append_assoc] at k
 exact k
theorem mN(O:Bs w x.a1 x.c1 x.t.body)(Y:x.t.body.length<=10000000):kr prog 5 iE 1 112 #[eG x] w (eK x.t):=by
 refine bC func112 rfl ntmps112 rfl ?_
 have p1:=cm (dE x.t.kind)
 have p2:=cm (num x.t.frm)
 have p3:=cm (dE x.t.non)
 have p4:=cm (dE x.t.fee)
 have U:=nH x.t.kind
 have V:=nH x.t.non
 have W:=nH x.t.fee
 repeat apply ar
 refine SG.box rfl rfl rfl (ag rfl) (fun y R H X i=>?_)
 have i:aG R y (.cells (bV x).toArray 52):=i
 have Z:=i.lt
 obtain⟨-,n,h,f,Q,d,r5⟩:=aX i
 repeat (first|apply ar|(apply au;rfl;(first|apply aE|apply aZ|apply aU|apply xX)<;>first|rfl|assumption|exact wn))
 rw[jP]
 refine SG.call rfl rfl rfl (vs:=[.slice none 0 0,.int .u64 (dE x.t.kind:Int)]) (bg.of rfl) ((dh (l:=[]) Bs.nil (dE x.t.kind) U (by simp)).mono (fun e S c=>?_))
 obtain⟨v2,a,q,g⟩:=c
 refine⟨_,a,?_⟩
 rw[nil_append] at q
 obtain⟨r,z,rfl,D⟩:=Bs.own q
 have P:=H.trans g
 have n:=n.az g
 have h:=h.az g
 have f:=f.az g
 have d:=d.az g
 clear Q
 repeat (first|apply ar|(apply au;rfl;(first|apply aB|apply aE|apply bf|apply aU)<;>first|rfl|assumption|exact wn|apply ai))
 refine SG.ret rfl rfl rfl (vs:=[dv x.t.frm]) (bg.of rfl) (fj x.t.frm S) (fun w3 o=>?_)
 skip
 refine SG.call rfl rfl rfl (vs:=[.slice r (cU (dE x.t.kind)).length z,.int .u64 (num x.t.frm:Int)]) (bg.of rfl) ((dh (D.az o) (num x.t.frm) (rk _) (by omega)).mono (fun e w4 c=>?_))
 obtain⟨v4,a,K,I⟩:=c
 refine⟨_,a,?_⟩
 obtain⟨s,A,rfl,E⟩:=Bs.own K
 have j:=o.trans I
 have h:=h.az j
 have f:=f.az j
 have d:=d.az j
 clear n
 repeat (first|apply ar|(apply au;rfl;(first|apply aB|apply aE|apply aZ|apply aU|apply xX)<;>first|rfl|assumption|exact wn))
 rw[jP]
 refine SG.call rfl rfl rfl (vs:=[.slice s (cU (dE x.t.kind)++cU (num x.t.frm)).length A,.int .u64 (dE x.t.non:Int)]) (bg.of rfl) ((dh E (dE x.t.non) V (by simp only[length_append];omega)).mono (fun e w5 c=>?_))
 obtain⟨v5,a,L,k⟩:=c
 refine⟨_,a,?_⟩
 obtain⟨u,B,rfl,F⟩:=Bs.own L
 have f:=f.az k
 have d:=d.az k
 clear h
 repeat (first|apply ar|(apply au;rfl;(first|apply aB|apply aE|apply aZ|apply aU|apply xX)<;>first|rfl|assumption|exact wn))
 rw[jP]
 refine SG.call rfl rfl rfl (vs:=[.slice u (cU (dE x.t.kind)++cU (num x.t.frm)++cU (dE x.t.non)).length B,.int .u64 (dE x.t.fee:Int)]) (bg.of rfl) ((dh F (dE x.t.fee) W (by simp only[length_append];omega)).mono (fun e T c=>?_))
 obtain⟨v6,a,M,p⟩:=c
 refine⟨_,a,?_⟩
 obtain⟨v,C,rfl,G⟩:=Bs.own M
 have d:=d.az p
 clear f
 have m:Kp [] w T:=((P.trans j).trans k).trans p
 repeat (first|apply ar|(apply au;rfl;(first|apply aB|apply aE|apply aZ|apply aU)<;>first|rfl|assumption|exact wn))
 refine SG.call rfl rfl rfl (vs:=[.slice v (cU (dE x.t.kind)++cU (num x.t.frm)++cU (dE x.t.non)++cU (dE x.t.fee)).length C,x.b]) (bg.of rfl) ((mQ G (O.az m) (by simp only[length_append];omega)).mono (fun e w7 c=>?_))
 obtain⟨v7,a,N,J⟩:=c
 refine⟨_,a,?_⟩
 repeat (first|apply ar|refine wt ?_)
 refine aO (Or.inl rfl) results112 (aD.tmp rfl) ?_
 exact⟨_,rfl,c9 N m.size,m.trans J⟩
theorem pg(t:Tx):(eK t).length<=55+t.body.length:=by
 have a:=cm (dE t.kind)
 have b:=cm (num t.frm)
 have c:=cm (dE t.non)
 have d:=cm (dE t.fee)
 have e:=cm t.body.length
 simp only[eK,DA,length_append]
 omega
theorem vK(j:x.In n0 w):kr prog 5 iE 1 60 #[eG x] w (nr x.t):=by
 refine bC func60 rfl ntmps60 rfl ?_
 have H:=j.l1
 have I:=j.l2
 have G:=pg x.t
 repeat apply ar
 refine SG.box rfl rfl rfl (ag rfl) (fun p E g F a=>?_)
 have a:aG E p (.cells (bV x).toArray 52):=a
 have l:=j.az g
 obtain⟨r,-,-,-,-,-,J⟩:=aX a
 repeat (first|apply ar|refine wt ?_)
 refine CG.dS mixed 4 [0,2,3,1] [1] [] (fun _=>True) (by kernel_rfl) trivial (fun _ _ _ _=>trivial) ?_
 repeat (apply bW;rfl;rfl;(first|apply aZ|apply bf|apply aU)<;>first|rfl|assumption|exact wn|apply ay)
 refine aM.kQ (X:=Option Addr×Nat) (vs:=[eG x]) (fun q=> .slice q.1 (eK x.t).length q.2) (fun q W=>Bs W q.1 q.2 (eK x.t)) rfl rfl rfl rfl (bg.of rfl) (fun q W m f h=>h.az f) (fun _ _ _ h=>h) (fun W f _=>(mN (l.b.az f) (by omega)).mono (fun e m d=>?_)) (fun q=>?_)
 ·obtain⟨K,c,C,A⟩:=d
  obtain⟨n,u,rfl,z⟩:=Bs.own C
  exact⟨(n,u),c,z,A⟩
 refine aM.tl (fun M i y _=>?_)
 obtain⟨-,k⟩:=y
 obtain⟨o,v⟩:=q
 simp only at k
 refine SG.call rfl rfl rfl (vs:=[.slice o (eK x.t).length v,x.s]) (bg.of rfl) ((mQ k (l.s.az i) (by omega)).mono (fun e N d=>?_))
 obtain⟨L,c,D,B⟩:=d
 refine⟨_,c,?_⟩
 repeat (first|apply ar|refine wt ?_)
 refine aO (Or.inl rfl) results60 (aD.tmp rfl) ?_
 exact⟨_,rfl,c9 D (Nat.le_trans g.size i.size),(g.trans i).trans B⟩
theorem beq_spec{b:Option Addr}(c d:Nat)(h:Sl iE 1 w a l)(e:Sl iE 1 w b m):dq prog 116 #[.slice a l.length c,.slice b m.length d] w (.bool (decide (l=m))):=by
 refine bN func116 rfl ntmps116 rfl ?_
 repeat (first|apply ar|refine ww ?_)
 refine SG.val rfl rfl rfl rfl (Sn (l:=l) rfl h rfl (fun _ _ _=>not_mem_nil)) ?_
 repeat refine qa0 ?_
 refine SG.val rfl rfl rfl rfl (Sn (l:=m) rfl e rfl (fun _ _ _=>not_mem_nil)) ?_
 refine SG.val rfl rfl rfl rfl (Vc (a:=l) (b:=m) rfl rfl B4) ?_
 repeat (first|apply ar|refine wt ?_)
 refine aO (Or.inl rfl) results116 (aD.tmp rfl) ?_
 exact⟨rfl,Kp.refl _ _⟩
theorem ie(c:Nat)(b:Sl iE 1 w a l)(n:l.length<=1000000000):kr prog 5 iE 1 106 #[.slice a l.length c] w l:=by
 refine bC func106 rfl ntmps106 rfl ?_
 cases a with
 |none=>
  have h:=b.An
  subst h
  repeat (first|apply ar|(apply au;rfl;(first|apply aB|apply aE|apply Lw)<;>rfl))
  refine bO rfl ?_
  repeat (first|apply ar|refine wt ?_)
  refine aO (Or.inl rfl) results106 (aD.tmp rfl) ?_
  exact⟨_,rfl,dY,Kp.refl _ _⟩
 |some j=>
  repeat (first|apply ar|(apply au;rfl;(first|apply aB|apply aE|apply Lw)<;>rfl))
  refine bA rfl ?_
  repeat apply ar
  refine SG.empty rfl rfl (fun k o d f e=>?_)
  repeat refine qa0 ?_
  refine SG.EK (enc:=iE) (l:=l) (m:=w.heap.size) rfl rfl rfl gg mq (ag rfl) (ag rfl) rfl rfl rfl (by simp only[maxLen];omega) (by show l.length*1<=_;omega) f (b.az d) e (fun v p g i=>?_)
  repeat (first|apply ar|refine wt ?_)
  refine aO (Or.inl rfl) results106 (aD.tmp rfl) ?_
  exact⟨v,rfl,i,d.trans g⟩
theorem jg(F:x.In n0 w):Calls prog 103 #[eG x] w (fun e P=>∃y:Tm,y.t=x.t/\e= .returned (eG y)/\y.In 0 P/\Kp [] w P/\(∀a c,y.a1=some ⟨a,c,none⟩->w.heap.size<=a)/\(∀a c,y.a2=some ⟨a,c,none⟩->w.heap.size<=a)):=by
 refine bC func103 rfl ntmps103 rfl ?_
 have S:=F.l1
 have T:=F.l2
 repeat apply ar
 refine SG.box rfl rfl rfl (ag rfl) (fun C Y M aa d=>?_)
 have d:aG Y C (.cells (bV x).toArray 52):=d
 have ad:=d.lt
 refine SG.alloc rfl rfl rfl (fun L Q I ab g=>?_)
 have g:aG Q L (.cells (bV ⟨⟨zd,0,0,0,[],[]⟩,none,0,none,0⟩).toArray 52):=g
 have N:=M.trans I
 have af:=g.lt
 have d:=d.az I
 obtain⟨-,-,-,-,-,X,A⟩:=aX d
 have s1:=M.size
 have s2:=I.size
 repeat (first|apply ar|(apply au;rfl;(first|apply aZ|apply aU)<;>first|rfl|assumption|exact wn))
 refine SG.call rfl rfl rfl (vs:=[x.b]) (bg.of rfl) ((ie x.c1 (F.b.sl.az N) (by omega)).mono (fun e Z H=>?_))
 obtain⟨v3,u,J,E⟩:=H
 refine⟨_,u,?_⟩
 clear u X A
 obtain⟨f,h,rfl,j⟩:=Bs.own J
 have k:Ty 5 Z f x.t.body:=Ty.own J
 have i:∀a c,f=some ⟨a,c,none⟩->Q.heap.size<=a:=fY J
 have d:=d.az E
 have ae:=d.lt
 have s3:=E.size
 repeat (apply au;rfl;apply aU<;>rfl)
 refine SG.cp (dc x.t.frm++[.int .i64 x.t.non,.int .i64 x.t.fee,.int .i64 x.t.kind]) [.slice x.a1 x.t.body.length x.c1] [.slice x.a2 x.t.sig.length x.c2] rfl rfl (ag rfl) (ag rfl) d (by rw[toList_toArray];exact nJ x.t x.a1 x.a2 x.c1 x.c2) rfl rfl (zW x.t) rfl (fun G v d=>?_)
 have d:aG G C (.cells (bV ⟨x.t,f,h,x.a2,x.c2⟩).toArray 52):=by rw[nJ];exact d
 have O:Kp [] w G:=(N.trans E).aj v (aW (by omega))
 have j:=j.kp v (fun a c e=>bQ (by have:=i a c e;omega))
 have k:=k.kp v (fun _ a c e=>bQ (by have:=i a c e;omega))
 have s4:=v.size
 obtain⟨-,-,-,-,-,-,A⟩:=aX d
 have A:Row G C 12 [x.s]:=A
 repeat (first|apply ar|(apply au;rfl;(first|apply aZ|apply aU)<;>first|rfl|assumption|exact wn))
 refine SG.call rfl rfl rfl (vs:=[x.s]) (bg.of rfl) ((ie x.c2 (F.s.sl.az O) (by omega)).mono (fun e w5 H=>?_))
 obtain⟨v5,u,K,n⟩:=H
 refine⟨_,u,?_⟩
 clear u A
 obtain⟨m,D,rfl,q⟩:=Bs.own K
 have B:Ty 5 w5 m x.t.sig:=Ty.own K
 have p:∀a c,m=some ⟨a,c,none⟩->G.heap.size<=a:=fY K
 have d:=d.az n
 have s5:=n.size
 repeat (apply au;rfl;apply aU<;>rfl)
 refine SG.cp (dc x.t.frm++[.int .i64 x.t.non,.int .i64 x.t.fee,.int .i64 x.t.kind,.slice f x.t.body.length h]) [.slice x.a2 x.t.sig.length x.c2] [] rfl rfl (ag rfl) (ag rfl) d (by rw[toList_toArray];exact vH x.t f x.a2 h x.c2) rfl rfl (FO x.t _) rfl (fun R o d=>?_)
 have d:aG R C (.cells (bV ⟨x.t,f,h,m,D⟩).toArray 52):=by rw[vH];exact d
 have V:Kp [] w R:=(O.trans n).aj o (aW (by omega))
 have j:=(j.az n).kp o (fun a c e=>bQ (by have:=i a c e;omega))
 have k:=(k.az n).kp o (fun _ a c e=>bQ (by have:=i a c e;omega))
 have q:=q.kp o (fun a c e=>bQ (by have:=p a c e;omega))
 have B:=B.kp o (fun _ a c e=>bQ (by have:=p a c e;omega))
 have g:=((((g.az E).kp v (bQ (by omega))).az n).kp o (bQ (by omega)))
 obtain⟨r,-,-,-,-,-,-⟩:=aX d
 repeat (first|apply ar|refine qa2 ?_)
 refine SG.aN (l:=bV ⟨x.t,f,h,m,D⟩) rfl rfl (ag rfl) (ag rfl) g (ay _) rfl (bY _) (fun w7 z g=>?_)
 have U:Row w7 L 0 (bV ⟨x.t,f,h,m,D⟩):=Row.all g rfl
 have ac:=g.lt
 have W:=V.aj z (aW (by omega))
 have j:=j.kp z (fun a c e=>bQ (by have:=i a c e;omega))
 have k:=k.kp z (fun _ a c e=>bQ (by have:=i a c e;omega))
 have q:=q.kp z (fun a c e=>bQ (by have:=p a c e;omega))
 have B:=B.kp z (fun _ a c e=>bQ (by have:=p a c e;omega))
 clear r
 repeat apply ar
 refine aO (Or.inl rfl) results103 (aD.agg rfl rfl U (ay _)) ?_
 exact⟨⟨x.t,f,h,m,D⟩,rfl,rfl,⟨j,q,Or.inl k,Or.inl B,S,T⟩,W,fun a c e=>by have:=i a c e;omega,fun a c e=>by have:=p a c e;omega⟩
theorem qa8{P n o Q r L w d b t p f g v}(c:SG P n o Q r ((d,v)::L) w)(a:(Nat.blt d n&&(!fm b&&(want o L ⟨some d,b,t,p,f,g⟩==some true&&b.operands.toList.all (known L))))=true:=by rfl)(e:aP P [] w (fun _=>True) L ⟨some d,b,t,p,f,g⟩ v:=by (first|apply aB|apply aE|apply aZ|apply bf|apply aU|apply cI|apply fE|apply vT)<;>first|rfl|assumption|exact qf|exact qr|exact wn|apply ai):SG P n o Q (⟨some d,b,t,p,f,g⟩::r) L w:=au a e c
theorem qQ{H:Nat}{y:Tm}(v:x.In n0 w)(z:y.In H w):dq prog 64 #[eG x,eG y] w (.bool (sJ x.t y.t)):=by
 refine bN func64 rfl ntmps64 rfl ?_
 repeat apply ar
 refine SG.box rfl rfl rfl (ag rfl) (fun C I E K p=>?_)
 refine SG.box rfl rfl rfl (ag rfl) (fun D J u L q=>?_)
 have p:aG I C (.cells (bV x).toArray 52):=p
 have q:aG J D (.cells (bV y).toArray 52):=q
 obtain⟨-,M,N,O,P,Q,A⟩:=aX (p.az u)
 obtain⟨-,R,S,T,U,V,B⟩:=aX q
 have g:=E.trans u
 have G:∀{c:Bool},(c=true↔x.t=y.t)->c=sJ x.t y.t:=fun{c} h=>by
  by_cases n:x.t=y.t
  ·rw[h.2 n,yl n]
  ·rw[ym n]
   cases c with
   |false=>rfl
   |true=>exact absurd (h.1 rfl) n
 have no:¬x.t=y.t->false=sJ x.t y.t:=fun h=>(ym h).symm
 by_cases j:x.t.frm=y.t.frm
 case neg=>
  repeat (first|apply ar|(apply au;rfl;(first|apply aB|apply aE|apply bf|apply aU|apply cI|apply vT)<;>first|rfl|assumption|exact qr|exact wn|apply ai)|refine SG.skip rfl rfl ?_)
  refine aO (Or.inl rfl) results64 (aD.tmp rfl) ?_
  exact⟨by rw[<-no (fun h=>j (by rw[h]))],g⟩
 by_cases k:x.t.non=y.t.non
 case neg=>
  repeat (first|apply ar|refine qa8 ?_|refine SG.skip rfl rfl ?_)
  refine aO (Or.inl rfl) results64 (aD.tmp rfl) ?_
  exact⟨by rw[<-no (fun h=>k (by rw[h]))],g⟩
 by_cases l:x.t.fee=y.t.fee
 case neg=>
  repeat (first|apply ar|refine qa8 ?_|refine SG.skip rfl rfl ?_)
  refine aO (Or.inl rfl) results64 (aD.tmp rfl) ?_
  exact⟨by rw[<-no (fun h=>l (by rw[h]))],g⟩
 by_cases m:x.t.kind=y.t.kind
 case neg=>
  repeat (first|apply ar|refine qa8 ?_|refine SG.skip rfl rfl ?_)
  refine aO (Or.inl rfl) results64 (aD.tmp rfl) ?_
  exact⟨by rw[<-no (fun h=>m (by rw[h]))],g⟩
 repeat (first|apply ar|(apply au;rfl;(first|apply aB|apply aE|apply aZ|apply bf|apply aU|apply cI|apply fE|apply vT)<;>first|rfl|assumption|exact qf|exact wn|apply ai))
 refine SG.ret rfl rfl rfl (vs:=[x.b,y.b]) (bg.of rfl) (beq_spec x.c1 y.c1 (v.b.sl.az g) (z.b.sl.az g)) (fun W r=>?_)
 have o:=g.trans r
 have A:=A.az r
 have B:=B.az r
 by_cases i:x.t.body=y.t.body
 case neg=>
  rw[decide_eq_false i]
  repeat (first|apply ar|(apply au;rfl;(first|apply aB|apply aE|apply cI)<;>rfl)|refine SG.skip rfl rfl ?_)
  refine aO (Or.inl rfl) results64 (aD.tmp rfl) ?_
  exact⟨by rw[<-no (fun h=>i (by rw[h]))],o⟩
 rw[decide_eq_true i]
 repeat (apply au;rfl;(first|apply aB|apply aZ|apply aU|apply cI)<;>first|rfl|assumption|exact wn)
 refine SG.ret rfl rfl rfl (vs:=[x.s,y.s]) (bg.of rfl) (beq_spec x.c2 y.c2 (v.s.sl.az o) (z.s.sl.az o)) (fun X F=>?_)
 have e:decide (x.t.sig=y.t.sig)=sJ x.t y.t:=G (by
  rw[decide_eq_true_iff]
  constructor
  ·intro h
   cases hX:x.t with|mk a b c d e f=>
   cases hY:y.t with|mk a' b' c' d' e' f'=>
   rw[hX,hY] at j k l m i h
   simp only at j k l m i h
   subst j k l m i h
   rfl
  ·intro h
   rw[h])
 rw[e]
 repeat (first|apply ar|(apply au;rfl;(first|apply aE|apply cI)<;>rfl))
 refine aO (Or.inl rfl) results64 (aD.tmp rfl) ?_
 exact⟨rfl,o.trans F⟩
theorem dV(f:x.In n0 w):dq prog 18 #[eG x] w (dv (aJ x.t)):=by
 refine bC func18 rfl ntmps18 rfl ?_
 have G:=f.l1
 have H:=f.l2
 have F:=pg x.t
 have y:(nr x.t).length<=1000000000:=by
  have:=cm x.t.sig.length
  simp only[nr,DA,length_append]
  omega
 repeat apply ar
 refine SG.box rfl rfl rfl (ag rfl) (fun q A j D a=>?_)
 have a:aG A q (.cells (bV x).toArray 52):=a
 refine SG.alloc rfl rfl rfl (fun g B k E c=>?_)
 have c:aG B g (.cells (dc zd).toArray 47):=c
 have o:=j.trans k
 obtain⟨r,-,-,-,-,-,-⟩:=aX (a.az k)
 repeat (first|apply ar|refine qa2 ?_)
 refine SG.call rfl rfl rfl (vs:=[eG x]) (bg.of rfl) ((vK (f.az o)).mono (fun e L v=>?_))
 obtain⟨K,i,d,m⟩:=v
 refine⟨_,i,?_⟩
 clear r i
 obtain⟨p,s,rfl,h⟩:=Bs.own d
 skip
 refine SG.ret rfl rfl rfl (vs:=[.slice p (nr x.t).length s]) (bg.of rfl) (oe h.sl (rb d) (fun b J e=>cK d b (by subst e;rfl)) y h.len) (fun M n=>?_)
 refine SG.aN (l:=dc (mB (nr x.t))) rfl rfl (ag rfl) (ag rfl) ((c.az m).az n) (ai _) rfl (bj _) (fun C z u=>?_)
 have I:Row C g 0 (dc (mB (nr x.t))):=Row.all u rfl
 repeat apply ar
 refine aO (Or.inl rfl) results18 (by exact aD.agg rfl rfl (by assumption) (by first|exact ai _|exact nc_length _|exact rc_length _ _ _|exact aT _|exact dl_length _ _ _ _|exact bh _|exact bB _|exact bE _|exact ay _|rfl)) ?_
 exact⟨rfl,((o.trans m).trans n).aj z (aW (by have:=j.size;omega))⟩
end
section
variable{base cap g i n:Nat}{T:TypeId}
theorem jB(z:Array Value)(m:Nat):(Builtin.zeroCells z m).toList.length=m*z.size:=by simp[Builtin.zeroCells]
theorem mJ{z:Array Value}(e:bI z.toList=true)(m:Nat):bI (Builtin.zeroCells z m).toList=true:=by
 unfold bI
 rw[all_eq_true]
 intro v b
 simp only[Builtin.zeroCells,Array.toList_map,mem_map] at b
 obtain⟨i,a,rfl⟩:=b
 have a:i<m*z.size:=by simpa using a
 have c:0<z.size:=by
  rcases Nat.eq_zero_or_pos z.size with h|h
  ·rw[h] at a;omega
  ·exact h
 have d:i%z.size<z.size:=Nat.mod_lt _ c
 rw[getElem!_pos z _ d]
 exact all_eq_true.1 e _ (by simp)
theorem wm{b:Type}{enc:b->List Value}{w:World}{sz:Nat}{l:List b}(a:∀x,(enc x).length=sz)(h:w.ownsRow base T sz (.slice (some ⟨g,0,none⟩) n cap) n (bX enc l))(j:l.length=n)(d:i<=n):w.ownsRow base T sz (.slice (some ⟨g,0,none⟩) i cap) i (bX enc (l.take i)):=by
 rcases h with⟨h1,⟨h2,_⟩|⟨g',cap',cur,h2,hb,hg,hc1,hc2,hc3,hc4⟩⟩
 ·cases h2
 ·cases h2
  refine⟨by rw[cD a,length_take];rw[Nat.min_eq_left (by omega)],Or.inr ⟨g,cap,cur,rfl,hb,hg,by omega,hc2,hc3,?_⟩⟩
  have c:i*sz<=n*sz:=Nat.mul_le_mul_right _ d
  have:cur.toList.take (i*sz)=(bX enc l).take (i*sz):=by rw[<-hc4,take_take,Nat.min_eq_left c]
  rw[this]
  have e:bX enc l=bX enc (l.take i)++bX enc (l.drop i):=by rw[<-dP,take_append_drop]
  have f:(bX enc (l.take i)).length=i*sz:=by rw[cD a,length_take,Nat.min_eq_left (by omega)]
  rw[e,take_append_of_le_length (by omega),<-f,take_length]
section
variable {P:Program} {α:Type} {enc:α->List Value} {m:Nat} {Q:Exit->Act->World->Prop} {ops rest:List Oper} {L:Env} {w:World} {ty:TypeId} {pos:String} {af:Array Edge} {q:Option (Nat×Bool)}
theorem SG.IW{t:TypeId}{a:TypeInfo}[u:Ut P t (.slice T)][f:dJ P T a]{z:Value}{l:List α}{x:Operand}{c2:Nat}(r:∀x,(enc x).length=a.size)(D:want ops L ⟨none,.call {callee:= .builtin .clear,args:= #[x],argTypes:= #[t]},ty,pos,af,q⟩=some true)(s:known L x=true)
  (E:bH L x= .slice (some ⟨g,i*a.size,none⟩) (n-i) c2) (F:a.zero=some z) (G:Nat.beq z.cells.size a.size=true) (B:bI z.cells.toList=true) (k:w.ownsRow base T a.size (.slice (some ⟨g,0,none⟩) n cap) n (bX enc l)) (v:l.length=n) (H:i<n)
  (h:∀e,Kp [g] w e->e.ownsRow base T a.size (.slice (some ⟨g,0,none⟩) i cap) i (bX enc (l.take i))->SG P m ops Q rest L e):SG P m ops Q (⟨none,.call {callee:= .builtin .clear,args:= #[x],argTypes:= #[t]},ty,pos,af,q⟩::rest) L w:=by
 have A:=wm r k v (i:=i) (by omega)
 refine SG.op rfl rfl D (by simpa[Op.operands,Call.operands] using s) ?_
 unfold bD
 rcases k with⟨h1,⟨h2,_⟩|⟨g',cap',cur,h2,hb,hg,hc1,hc2,hc3,hc4⟩⟩
 ·cases h2
 ·cases h2
  have c:aG w g (.cells cur T):=hg
  have C:=Nat.eq_of_beq_eq_true G
  have j:(Builtin.zeroCells z.cells (n-i)).toList.length=(n-i)*a.size:=by rw[jB,C]
  have I:n*a.size<=cap*a.size:=Nat.mul_le_mul_right _ hc1
  have J:i*a.size+(n-i)*a.size=n*a.size:=by rw[<-Nat.add_mul];congr 1;omega
  have d:=fi (P:=P) (b:=g) (off:=i*a.size) (T:=T) (Builtin.zeroCells z.cells (n-i)).toList 0 w cur c (by rw[j];omega) (mJ B _)
  simp only[Nat.add_zero] at d
  have y:n-i=(n-i-1)+1:=by omega
  have p:(Builtin.clear_ #[t] ty #[.slice (some ⟨g,i*a.size,none⟩) (n-i) c2]).run P w= .ok (.tuple #[]) {w with heap:=w.heap.setIfInBounds g (.cells (jT cur.toList (i*a.size) (Builtin.zeroCells z.cells (n-i)).toList).toArray T)}:=by
   rw[y] at d⊢
   simp only[Builtin.clear_,getElem?_toArray,getElem?_cons_zero,Sem.run_bind,run_underlying u.eq,Result.andThen_ok,lB F,d,Sem.run_pure]
  have:(execOp (bH L) ⟨none,.call {callee:= .builtin .clear,args:= #[x],argTypes:= #[t]},ty,pos,af,q⟩).run P w= .ok (.value (.tuple #[])) {w with heap:=w.heap.setIfInBounds g (.cells (jT cur.toList (i*a.size) (Builtin.zeroCells z.cells (n-i)).toList).toArray T)}:=by
   simp only[execOp,resolve,invoke,builtin,Sem.run_bind,Sem.run_pure,Result.andThen_ok,map_toArray,map_cons,map_nil,E,p]
  rw[this]
  refine h _ (Kp.set w c rfl rfl) ?_
  rcases A with⟨k1,⟨k2,_⟩|⟨g',cap',cur',k2,kb,kg,kc1,kc2,kc3,kc4⟩⟩
  ·cases k2
  ·cases k2
   have o:=c.uniq kg
   simp only[Obj.cells.injEq] at o
   obtain⟨rfl,_,_⟩:=o
   refine⟨k1,Or.inr ⟨g,cap,_,rfl,kb,c.set _,kc1,kc2,?_,?_⟩⟩
   ·have:=jS (cs:=cur.toList) (off:=i*a.size) (l:=(Builtin.zeroCells z.cells (n-i)).toList) (by rw[j];simp;omega)
    rw[size_toArray,this]
    simpa using kc3
   ·rw[toList_toArray]
    unfold jT
    rw[take_append_of_le_length (by rw[length_take];simp;omega),take_take,Nat.min_self]
    exact kc4
end
end
section
variable{base c2 cap g m:Nat}{x:Operand}{T t:TypeId}{inf:TypeInfo}{z:Value}
section
variable {P:Program} {α:Type} {enc:α->List Value} {n:Nat} {Q:Exit->Act->World->Prop} {ops rest:List Oper} {L:Env} {w:World} {ty:TypeId} {pos:String} {af:Array Edge} {q:Option (Nat×Bool)}
theorem SG.Hf{e:TypeId}[u:Ut P t (.slice e)][f:dJ P e inf]{d:Nat}{s:Operand}{nn:Nat}{k:Option Addr}{xs ys:List α}
  (K:Nat.blt d n=true) (Y:want ops L ⟨some d,.call {callee:= .builtin .append,args:= #[s,x],argTypes:= #[t,t]},ty,pos,af,q⟩=some true) (N:(known L s&&known L x)=true)
  (W:bH L s= .slice (some ⟨g,0,none⟩) nn cap) (Z:bH L x= .slice k m c2) (S:m=ys.length) (hz:inf.zero=some z) (aa:Nat.beq z.cells.size inf.size=true) (X:Nat.blt 0 inf.size=true) (A:∀x,(enc x).length=inf.size) (B:∀x,bI (enc x)=true)
  (l:w.ownsRow base e inf.size (.slice (some ⟨g,0,none⟩) nn cap) nn (bX enc xs)) (hn:xs.length=nn) (v:Sl enc inf.size w k ys) (E:nn+ys.length<=cap) (H:nn+ys.length<=maxLen) (J:(nn+ys.length)*inf.bytes<=140737488355328) (I:base<=w.heap.size)
  (h:∀a,Kp [g] w a->a.ownsRow base e inf.size (.slice (some ⟨g,0,none⟩) (nn+m) cap) (nn+m) (bX enc (xs++ys))->SG P n ops Q rest ((d,.slice (some ⟨g,0,none⟩) (nn+m) cap)::L) a):SG P n ops Q (⟨some d,.call {callee:= .builtin .append,args:= #[s,x],argTypes:= #[t,t]},ty,pos,af,q⟩::rest) L w:=by
 subst S
 refine SG.op (by simpa using K) rfl Y (by simpa[Op.operands,Call.operands] using N) ?_
 unfold bD
 have ab:∃a,(Builtin.append_ #[t,t] ty #[.slice (some ⟨g,0,none⟩) nn cap,.slice k ys.length c2]).run P w= .ok (.slice (some ⟨g,0,none⟩) (nn+ys.length) cap) a/\Kp [g] w a/\a.ownsRow base e inf.size (.slice (some ⟨g,0,none⟩) (nn+ys.length) cap) (nn+ys.length) (bX enc (xs++ys)):=by
  cases ys with
  |nil=>
   refine⟨w,?_,Kp.refl _ _,?_⟩
   ·have:=vQ (P:=P) (ty:=ty) (u:=u) (f:=f) l k c2
    simpa using this
   ·simpa using l
  |cons y ys=>
   obtain⟨b,F,rfl,_⟩:=v.at (i:=0) (by simp)
   have C:=Sl.flat A (by simp) v
   have p:(bX enc (y::ys)).length=(y::ys).length*inf.size:=cD A _
   obtain⟨v',a,o,V,R⟩:=gD (P:=P) (ty:=ty) (d:= .bool) (c:=c2) (u:=u) (f:=f) hz (Nat.eq_of_beq_eq_true aa) (by simpa[Nat.blt_eq] using X) l p C (qE B _) H J I
   have T:∀j u,(bX enc (y::ys))[j]?=some u->w.cell? ((⟨b,F,none⟩:Addr).add j)=some u:=fun j u r=>by rw[dQ];exact C.cell r
   have G:∀u∈bX enc (y::ys),u.oneCell'=true:=fun u r=>by rw[qu];exact all_eq_true.1 (qE B _) u r
   rcases l.2 with⟨h2,_⟩|⟨g',cap',cur,h2,hbg,hg,hnc,hcm,hcs,htake⟩
   ·cases h2
   ·cases h2
    have M:nn*inf.size+(bX enc (y::ys)).length<=cur.size:=by rw[p,hcs,<-Nat.add_mul];exact Nat.mul_le_mul_right _ E
    have D:=run_append_room (P:=P) w t ty e inf u.eq f.eq g nn cap cur hg ⟨b,F,none⟩ (y::ys).length c2 _ p T G E M
    rw[D] at o
    cases o
    refine⟨_,D,?_,by rw[dP];exact V⟩
    simpa[aR,Value.ownBlock] using R
 obtain⟨a,o,O,U⟩:=ab
 have:(execOp (bH L) ⟨some d,.call {callee:= .builtin .append,args:= #[s,x],argTypes:= #[t,t]},ty,pos,af,q⟩).run P w= .ok (.value (.slice (some ⟨g,0,none⟩) (nn+ys.length) cap)) a:=by
  simp only[execOp,resolve,invoke,builtin,Sem.run_bind,Sem.run_pure,Result.andThen_ok,map_toArray,map_cons,map_nil,W,Z,o]
 rw[this]
 exact h a O U
theorem Vb{S:List Nat}{w0:World}{F:World->Prop}{d:Option Nat}{E:TypeId}[u:Ut P T (.slice E)]{sz:Nat}[f:Sz P E sz]{g e h:Operand}{b off n c:Nat}{k k' K:IntKind}{z l o:Int}{j r:Nat}(G:ro L x=some (.slice (some ⟨b,off,none⟩) n c))(C:ro L g=some (.int k z))(A:ro L e=some (.int k' l))(D:ro L h=some (.int K o))(H:z=(j:Int))(I:l=(m:Int))(J:o=(r:Int))(B:j<=m/\m<=r/\r<=c):
  aP P S w0 F L ⟨d,.slice T x (some g) (some e) (some h),ty,pos,af,q⟩ (.slice (some ⟨b,if r=j then off else off+j*sz,none⟩) (m-j) (r-j)):=fun w _ _=>by
 obtain⟨i,p,s⟩:=f.eq
 obtain⟨M,N,O⟩:=B
 subst s
 subst H
 subst I
 subst J
 simp only[execOp,ag G,Option.map_some,Option.map_none,ag C,ag A,ag D,Instr.sliceAt,Sem.run_bind,run_underlying u.eq,Result.andThen,Instr.slice,Instr.sliceBounds,Instr.sliceBound,asIntOf,Sem.run_pure]
 have t:(0:Int)<=(r:Int)/\(r:Int)<=(c:Int):=⟨by omega,by omega⟩
 simp only[t,and_self,if_true,Sem.run_pure,Int.toNat_natCast]
 have v:(0:Int)<=(m:Int)/\(m:Int)<=(r:Int):=⟨by omega,by omega⟩
 simp only[v,and_self,if_true,Sem.run_pure,Int.toNat_natCast]
 have y:(0:Int)<=(j:Int)/\(j:Int)<=(m:Int):=⟨by omega,by omega⟩
 simp only[y,and_self,if_true,Sem.run_pure,sizeOf,typeInfo,Sem.run_bind,run_program,Result.andThen,p,Int.toNat_natCast]
 by_cases a:r=j
 ·subst a;simp
 ·simp[a,dQ]
theorem SG.IV{k:Nat}[u:Ut P t (.slice T)][f:dJ P T inf]{xs:List Value}(v:want ops L ⟨none,.call {callee:= .builtin .clear,args:= #[x],argTypes:= #[t]},ty,pos,af,q⟩=some true)(j:known L x=true)
  (y:bH L x= .slice (some ⟨g,k*inf.size,none⟩) (m+1) c2) (A:inf.zero=some z) (B:Nat.beq z.cells.size inf.size=true) (p:bI z.cells.toList=true) (o:w.ownsRow base T inf.size (.slice (some ⟨g,0,none⟩) k cap) k xs) (r:k+(m+1)<=cap)
  (h:∀c,Kp [g] w c->c.ownsRow base T inf.size (.slice (some ⟨g,0,none⟩) k cap) k xs->SG P n ops Q rest L c):SG P n ops Q (⟨none,.call {callee:= .builtin .clear,args:= #[x],argTypes:= #[t]},ty,pos,af,q⟩::rest) L w:=by
 refine SG.op rfl rfl v (by simpa[Op.operands,Call.operands] using j) ?_
 unfold bD
 rcases o with⟨h1,⟨h2,_⟩|⟨g',cap',cur,h2,hb,hg,hc1,hc2,hc3,hc4⟩⟩
 ·cases h2
 ·cases h2
  have a:aG w g (.cells cur T):=hg
  have s:=Nat.eq_of_beq_eq_true B
  have d:(Builtin.zeroCells z.cells (m+1)).toList.length=(m+1)*inf.size:=by rw[jB,s]
  have C:(k+(m+1))*inf.size<=cap*inf.size:=Nat.mul_le_mul_right _ r
  have D:k*inf.size+(m+1)*inf.size=(k+(m+1))*inf.size:=by rw[<-Nat.add_mul]
  have e:=fi (P:=P) (b:=g) (off:=k*inf.size) (T:=T) (Builtin.zeroCells z.cells (m+1)).toList 0 w cur a (by rw[d];omega) (mJ p _)
  simp only[Nat.add_zero] at e
  have i:(Builtin.clear_ #[t] ty #[.slice (some ⟨g,k*inf.size,none⟩) (m+1) c2]).run P w= .ok (.tuple #[]) {w with heap:=w.heap.setIfInBounds g (.cells (jT cur.toList (k*inf.size) (Builtin.zeroCells z.cells (m+1)).toList).toArray T)}:=by
   simp only[Builtin.clear_,getElem?_toArray,getElem?_cons_zero,Sem.run_bind,run_underlying u.eq,Result.andThen_ok,lB A,e,Sem.run_pure]
  have:(execOp (bH L) ⟨none,.call {callee:= .builtin .clear,args:= #[x],argTypes:= #[t]},ty,pos,af,q⟩).run P w= .ok (.value (.tuple #[])) {w with heap:=w.heap.setIfInBounds g (.cells (jT cur.toList (k*inf.size) (Builtin.zeroCells z.cells (m+1)).toList).toArray T)}:=by
   simp only[execOp,resolve,invoke,builtin,Sem.run_bind,Sem.run_pure,Result.andThen_ok,map_toArray,map_cons,map_nil,y,i]
  rw[this]
  refine h _ (Kp.set w a rfl rfl) ⟨h1,Or.inr ⟨g,cap,_,rfl,hb,a.set _,hc1,hc2,?_,?_⟩⟩
  ·have:=jS (cs:=cur.toList) (off:=k*inf.size) (l:=(Builtin.zeroCells z.cells (m+1)).toList) (by rw[d];simp;omega)
   rw[size_toArray,this]
   simpa using hc3
  ·rw[toList_toArray]
   unfold jT
   rw[take_append_of_le_length (by rw[length_take];simp;omega),take_take,Nat.min_self]
   exact hc4
end
end
section
variable{f:FuncId}{caps:List Value}{base c i j:Nat}{a:Option Addr}{α:Type}{v:Value}{w:World}
open Go.Proofs
structure Em where
 x:Tm
 since:Int
def Em.en(e:Em):En:=⟨e.x.t,e.since⟩
def ec(e:Em):List Value:=bV e.x++(dc (aJ e.x.t)++[.int .i64 e.since])
theorem aT(e:Em):(ec e).length=22:=by simp[ec,ay,ai]
theorem lN(e:Em):bI (ec e)=true:=by
 have a:=bY e.x
 have b:=bj (aJ e.x.t)
 simp only[ec,bI,all_append,Bool.and_eq_true] at*
 exact⟨a,b,rfl⟩
def ev(e:Em):Value:= .agg (ec e).toArray
def rO{α:Type}(l:List α)(i:Nat):List α:=l.take i++l.drop (i+1)
theorem z8{enc:α->List Value}{sz:Nat}{b off:Nat}{l:List α}(e:Sl enc sz w (some ⟨b,off,none⟩) l)(g:l.length<=c):Sl enc sz w (some ⟨b,if c=j then off else off+j*sz,none⟩) (l.drop j):=fun i x a=>by
 rw[getElem?_drop] at a
 have k:=(List.getElem?_eq_some_iff.1 a).1
 obtain⟨f,m,h,d⟩:=e _ x a
 cases h
 rw[if_neg (by omega)]
 refine⟨_,_,rfl,?_⟩
 rw[Nat.add_mul,<-Nat.add_assoc] at d
 exact d
def rF{α:Type}(p:α->Bool)(l:List α):Int:=if l.findIdx p<l.length then(l.findIdx p:Int) else-1
theorem Eo(p:α->Bool)(l:List α):(0<=rF p l)↔l.any p=true:=by
 unfold rF
 by_cases h:l.findIdx p<l.length
 ·rw[if_pos h]
  have a:=findIdx_getElem (w:=h)
  exact⟨fun _=>any_eq_true.2 ⟨_,getElem_mem h,a⟩,fun _=>by omega⟩
 ·rw[if_neg h]
  constructor
  ·intro a;omega
  ·intro a
   obtain⟨x,c,b⟩:=any_eq_true.1 a
   exact absurd (findIdx_lt_length_of_exists ⟨x,c,b⟩) h
theorem tK(p:α->Bool)(l:List α):l.filter (fun x=> !p x)=l.take (l.findIdx p)++(l.drop (l.findIdx p)).filter (fun x=> !p x):=by
 conv=>lhs;rw[<-take_append_drop (l.findIdx p) l]
 rw[filter_append]
 congr 1
 rw[filter_eq_self]
 intro x b
 obtain⟨c,a,rfl⟩:=getElem_of_mem b
 rw[length_take] at a
 rw[getElem_take]
 have:=not_of_lt_findIdx (p:=p) (xs:=l) (i:=c) (by omega)
 simpa using this
structure Pass{α:Type}(p:α->Bool)(l cur:List α)(i j:Nat):Prop where
 len:cur.length=l.length
 lt:i<j
 le:j<=l.length
 kept:cur.take i=(l.take j).filter (fun x=> !p x)
 rest:cur.drop j=l.drop j
theorem Pass.init{p:α->Bool}{l:List α}(h:l.findIdx p<l.length):Pass p l l (l.findIdx p) (l.findIdx p+1):=by
 refine⟨rfl,by omega,by omega,?_,rfl⟩
 have f:=tK p (l.take (l.findIdx p+1))
 have e:l.take (l.findIdx p+1)=l.take (l.findIdx p)++[l[l.findIdx p]]:=take_succ_eq_append_getElem h
 rw[e,filter_append]
 have a:p l[l.findIdx p]=true:=findIdx_getElem (w:=h)
 simp only[filter_cons,a,Bool.not_true,Bool.false_eq_true,if_false,filter_nil,append_nil]
 symm
 rw[filter_eq_self]
 intro x c
 obtain⟨d,b,rfl⟩:=getElem_of_mem c
 rw[length_take] at b
 rw[getElem_take]
 have:=not_of_lt_findIdx (p:=p) (xs:=l) (i:=d) (by omega)
 simpa using this
theorem Pass.get{p:α->Bool}{l b:List α}(h:Pass p l b i j)(c:j<l.length):b[j]'(by have:=h.len;omega)=l[j]:=by
 have a:=congrArg (fun x=>x[0]?) h.rest
 have d:=h.len
 simp only[getElem?_drop,Nat.add_zero] at a
 rw[getElem?_eq_getElem (by omega),getElem?_eq_getElem c] at a
 exact Option.some.inj a
theorem Pass.drop{p:α->Bool}{l a:List α}(h:Pass p l a i j)(b:j<l.length)(c:p l[j]=true):Pass p l a i (j+1):=by
 refine⟨h.len,Nat.lt_succ_of_lt h.lt,b,?_,?_⟩
 ·rw[take_succ_eq_append_getElem b,filter_append,<-h.kept]
  simp[c]
 ·rw[<-drop_drop,h.rest,drop_drop]
theorem Pass.xq{p:α->Bool}{l a:List α}(h:Pass p l a i j)(b:j<l.length)(e:p l[j]=false):Pass p l (a.set i l[j]) (i+1) (j+1):=by
 have c:=h.len
 have d:=h.lt
 refine⟨by simpa using c,Nat.succ_lt_succ d,b,?_,?_⟩
 ·rw[take_succ_eq_append_getElem b,filter_append,<-h.kept]
  rw[take_succ_eq_append_getElem (by simp;omega)]
  simp[e,take_set_of_le]
 ·rw[drop_set_of_lt (by omega),<-drop_drop,h.rest,drop_drop]
theorem qA{p:α->Bool}{l:List α}(h:l.findIdx p<l.length):rF p l=(l.findIdx p:Int):=if_pos h
theorem qz{p:α->Bool}{l:List α}(h:¬l.findIdx p<l.length):rF p l= -1:=if_neg h
theorem GN{p:α->Bool}{l:List α}(h:¬l.findIdx p<l.length):l.filter (fun x=> !p x)=l:=by
 rw[tK,take_of_length_le (by omega),drop_of_length_le (by omega)]
 simp
attribute [local irreducible] CG NG SG aP aM Row aG aF aQ aJ
theorem qb1{P n o Q r L w d b t p f g v}(c:SG P n o Q r ((d,v)::L) w)(a:(Nat.blt d n&&(!fm b&&(want o L ⟨some d,b,t,p,f,g⟩==some true&&b.operands.toList.all (known L))))=true:=by rfl)(e:aP P [] w (fun _=>True) L ⟨some d,b,t,p,f,g⟩ v:=by (first|apply aB|apply aE|apply dg)<;>rfl):SG P n o Q (⟨some d,b,t,p,f,g⟩::r) L w:=au a e c
theorem mg{l:List Em}[Fn:bU prog f]{p:Em->Bool}(s:Sl ec 22 w a l)(A:l.length<=1000000000)(t:∀o∈l,∀W,Kp [] w W->dq prog f (ev o::caps).toArray W (.bool (p o))):
  dq prog 161 #[.slice a l.length c,lf f caps] w (.int .i64 (rF p l)):=by
 refine bN func161 rfl ntmps161 rfl ?_
 repeat (first|apply ar|refine qb1 ?_)
 refine CG.loop (X:=Nat) (fun i=>[(0,.slice a l.length c),(1,lf f caps),(7,.int .i64 (l.length:Int)),(8,.int .i64 (i:Int))]) (fun i v=>i<=l.length/\Kp [] w v/\∀j (h:j<l.length),j<i->p l[j]=false) (fun i=>l.length-i) 0 ⟨by omega,Kp.refl _ _,fun j _ h=>absurd h (Nat.not_lt_zero j)⟩ (aS.of rfl) ?_
 rintro i x ⟨z,b,k⟩
 by_cases d:i<l.length
 ·have r:(i:Int)<(l.length:Int):=by omega
  obtain⟨y,C,rfl,B⟩:=(s.az b).at d
  have u:=fun W h=>t l[i] (getElem_mem d) W h
  repeat (first|apply ar|refine ul ?_)
  refine bO rfl ?_
  repeat (first|apply ar|(apply au;rfl;(first|apply aB|apply aE|apply bf|apply fa)<;>first|rfl|exact zc|assumption|exact wn|apply aT))
  refine SG.nV (Fn:=Fn) (vs:=[ev l[i]]) (caps:=caps) rfl rfl rfl (ag rfl) (bg.of rfl) (u x b) (fun D q=>?_)
  cases hpp:p l[i] with
  |true=>
   repeat apply ar
   refine bO rfl ?_
   repeat (first|apply ar|refine ww ?_)
   refine aO (Or.inl rfl) results161 (aD.tmp rfl) ?_
   have e:l.findIdx p=i:=(findIdx_eq d).2 ⟨hpp,fun j n=>by rw[k j (by omega) n]⟩
   have g:rF p l=(i:Int):=by
    unfold rF
    rw[e,if_pos d]
   rw[g]
   exact⟨rfl,b.trans q⟩
  |false=>
   repeat apply ar
   refine bA rfl ?_
   repeat (first|apply ar|refine wz ?_)
   refine NG.round (i+1) (aS.of rfl) ⟨by omega,b.trans q,fun j h n=>?_⟩ (by omega)
   by_cases e:j=i
   ·subst e;exact hpp
   ·exact k j h (by omega)
 ·have r:¬(i:Int)<(l.length:Int):=by omega
  repeat (first|apply ar|refine un ?_)
  refine bA rfl ?_
  repeat (first|apply ar|refine wt ?_)
  refine aO (Or.inl rfl) results161 (aD.tmp rfl) ?_
  have g:rF p l= -1:=by
   unfold rF
   rw[if_neg]
   intro h
   have m:=findIdx_getElem (w:=h)
   rw[k _ h (by omega)] at m
   cases m
  rw[g]
  exact⟨rfl,b⟩
theorem zv{l:List Em}[Fn:bU prog f]{p:Em->Bool}(i:Sl ec 22 w a l)(j:l.length<=1000000000)(k:∀o∈l,∀W,Kp [] w W->dq prog f (ev o::caps).toArray W (.bool (p o))):
  dq prog 162 #[.slice a l.length c,lf f caps] w (.bool (l.any p)):=by
 refine bN func162 rfl ntmps162 rfl ?_
 have b:=Eo p l
 have e:=mg (c:=c) i j k
 generalize rF p l=z at b e
 repeat (first|apply ar|refine ww ?_)
 refine SG.ret rfl rfl rfl (by repeat' (first|exact True.intro|exact ag rfl|refine And.intro ?_ ?_)) e (fun m d=>?_)
 cases hb:l.any p with
 |true=>
  have g:=b.2 hb
  repeat (first|apply ar|(apply au;rfl;(first|apply aE|apply ji)<;>first|rfl|exact qf))
  refine aO (Or.inl rfl) results162 (aD.tmp rfl) ?_
  exact⟨rfl,d⟩
 |false=>
  have g:¬0<=z:=fun h=>by rw[b.1 h] at hb;cases hb
  repeat (first|apply ar|(apply au;rfl;(first|apply aE|apply ji)<;>first|rfl|exact qr))
  refine aO (Or.inl rfl) results162 (aD.tmp rfl) ?_
  exact⟨rfl,d⟩
theorem B3{l:List Em}[Fn:bU prog f]{p:Em->Bool}(r:w.ownsRow base 216 22 v l.length (bX ec l))(hl:l.length<=1000000000)(O:∀o∈l,∀W,Kp (aR v) w W->dq prog f (ev o::caps).toArray W (.bool (p o))):
  Calls prog 173 #[v,lf f caps] w (fun e A=>∃L,e= .returned L/\A.ownsRow base 216 22 L (l.filter (fun x=> !p x)).length (bX ec (l.filter (fun x=> !p x)))/\Kp (aR v) w A/\∀b,L.ownBlock=some b->v.ownBlock=some b):=by
 refine bN func173 rfl ntmps173 rfl ?_
 obtain⟨a,n,rfl,hc,V⟩:=Sl.own aT r rfl
 repeat (first|apply ar|refine ww ?_)
 refine SG.ret rfl rfl rfl (vs:=[.slice a l.length n,lf f caps]) (bg.of rfl) (mg (f:=f) (Fn:=Fn) (caps:=caps) (p:=p) (c:=n) V hl (fun o r W Z=>O o r W Z.any)) (fun w1 t=>?_)
 by_cases s:l.findIdx p<l.length
 ·rw[qA s]
  obtain⟨g,af,e,ak⟩:=l7 r (by omega)
  cases e
  have ac:¬(l.findIdx p:Int)= -1:=by omega
  have N:=Pass.init s
  generalize l.findIdx p=Q at s ac N
  have I:=aV r t
  repeat (first|apply ar|(apply au;rfl;(first|apply aB|apply aE|apply fE)<;>first|rfl|exact qr))
  refine bA rfl ?_
  repeat (first|apply ar|refine us ?_)
  refine CG.loop (X:=(Nat×Nat)×List Em) (fun x=>[(0,.slice (some ⟨g,0,none⟩) l.length n),(1,lf f caps),(5,.int .i64 (x.1.1:Int)),(6,.int .i64 (x.1.2:Int))]) (fun x A=>Pass p l x.2 x.1.1 x.1.2/\Kp [g] w1 A/\A.ownsRow base 216 22 (.slice (some ⟨g,0,none⟩) l.length n) l.length (bX ec x.2)) (fun x=>l.length-x.1.2) ((Q,Q+1),l) ⟨N,Kp.refl _ _,I⟩ (aS.of rfl) ?_
  rintro⟨⟨d,j⟩,B⟩ w2 ⟨m,D,u⟩
  simp only at m u
  refine CG.to [(0,.slice (some ⟨g,0,none⟩) l.length n),(1,lf f caps),(5,.int .i64 (d:Int)),(6,.int .i64 (j:Int))] (aS.of rfl) ?_
  have F:=m.len
  have q2:=m.lt
  have q3:=m.le
  by_cases C:j<l.length
  ·have S:(j:Int)<(l.length:Int):=by omega
   have K:=uv aT u F (k:=j) (by omega)
   rw[m.get C] at K
   repeat (first|apply ar|(apply au;rfl;(first|apply aB|apply cg|apply dg)<;>first|rfl|exact qf))
   refine bO rfl ?_
   repeat (first|apply ar|(apply au;rfl;(first|apply aB|apply bf|apply fa)<;>first|rfl|exact zc|assumption|exact wn|apply aT))
   refine SG.alloc rfl rfl rfl (fun R w3 G ai T=>?_)
   refine SG.aN (l:=ec l[j]) rfl rfl (ag rfl) (ag rfl) T (aT _) rfl (lN _) (fun M aa U=>?_)
   have P:Row M R 0 (ec l[j]):=Row.all U rfl
   have z:Kp [] w2 M:=G.aj aa (aW (by omega))
   have E:=O l[j] (getElem_mem C) M ((t.any.trans D).trans z.any)
   have q5:(B.set d l[j]).length=l.length:=by simpa using F
   cases hpp:p l[j] with
   |false=>
    rw[hpp] at E
    clear K
    repeat (first|apply ar|(apply au;rfl;(first|apply aB|apply bf)<;>first|rfl|assumption|exact wn|apply aT))
    refine SG.nV (Fn:=Fn) (vs:=[ev l[j]]) (caps:=caps) rfl rfl rfl (ag rfl) (bg.of rfl) E (fun w5 q=>?_)
    have P:=P.az q
    have J:=aV (aV u z) q
    repeat (first|apply ar|(apply au;rfl;apply ig<;>rfl))
    refine bO rfl ?_
    repeat (first|apply ar|(apply au;rfl;(first|apply aB|apply bf|apply fa)<;>first|rfl|exact zc|assumption|exact wn|apply aT))
    refine SG.H6 (k:=d) (y:=l[j]) (f:=ty.i216) aT lN rfl rfl (ag rfl) rfl (ag rfl) J F (by omega) (fun w6 ab ae=>?_)
    repeat (first|apply ar|refine us ?_)
    refine NG.round ((d+1,j+1),B.set d l[j]) (aS.of rfl) ⟨m.xq C hpp,((D.trans z.any).trans q.any).trans ab,ae⟩ (by simp only;omega)
   |true=>
    rw[hpp] at E
    clear K
    repeat (first|apply ar|(apply au;rfl;(first|apply aB|apply bf)<;>first|rfl|assumption|exact wn|apply aT))
    refine SG.nV (Fn:=Fn) (vs:=[ev l[j]]) (caps:=caps) rfl rfl rfl (ag rfl) (bg.of rfl) E (fun w5 q=>?_)
    have J:=aV (aV u z) q
    repeat (first|apply ar|(apply au;rfl;apply ig<;>rfl))
    refine bA rfl ?_
    repeat (first|apply ar|refine us ?_)
    refine NG.round ((d,j+1),B) (aS.of rfl) ⟨m.drop C hpp,(D.trans z.any).trans q.any,J⟩ (by simp only;omega)
  ·have S:¬(j:Int)<(l.length:Int):=by omega
   have H:=m.kept
   rw[show l.take j=l from take_of_length_le (by omega)] at H
   have hi:d=(l.filter (fun x=> !p x)).length:=by rw[<-H,length_take];omega
   have Y:(if n=d then 0 else 0+d*22)=d*22:=by rw[if_neg (by omega)];omega
   repeat (first|apply ar|(apply au;rfl;(first|apply aB|apply cg|apply dg)<;>first|rfl|exact qr))
   refine bA rfl ?_
   repeat (first|apply ar|(apply au;rfl;(first|apply aB|apply Ki)<;>first|rfl|exact zc))
   rw[Y]
   refine SG.IW (i:=d) (l:=B) aT rfl rfl (ag rfl) rfl rfl rfl u F (by omega) (fun w3 G ad=>?_)
   repeat (first|apply ar|(apply au;rfl;(first|apply aB|apply aE|apply Lv)<;>first|rfl|exact zc))
   refine aO (Or.inl rfl) results173 (aD.tmp rfl) ?_
   refine⟨_,rfl,?_,(t.any.trans D).trans G,fun _ h=>h⟩
   rw[<-H,length_take,Nat.min_eq_left (by omega)]
   exact ad
 ·rw[qz s]
  have ah:(-1:Int)= -1:=rfl
  have I:=aV r t
  repeat (first|apply ar|(apply au;rfl;(first|apply aB|apply aE|apply fE)<;>first|rfl|exact qf))
  refine bO rfl ?_
  repeat (first|apply ar|refine ww ?_)
  refine aO (Or.inl rfl) results173 (aD.tmp rfl) ?_
  rw[GN s]
  exact⟨_,rfl,I,t.any,fun _ h=>h⟩
theorem B0{l:List Em}(c:w.ownsRow base 216 22 v l.length (bX ec l))(F:l.length<=100000)(E:i<l.length)(t:base<=w.heap.size):Calls prog 128 #[v,.int .i64 (i:Int),.int .i64 ((i:Int)+1)] w (fun e p=>∃d,e= .returned d/\Kp (aR v) w p/\p.ownsRow base 216 22 d (rO l i).length (bX ec (rO l i))/\∀b,d.ownBlock=some b->v.ownBlock=some b):=by
 refine dG func128 rfl ntmps128 rfl ?_
 obtain⟨n,f,rfl,x⟩:=l7 c (by omega)
 have s:Sl ec 22 w (some ⟨n,0,none⟩) l:=by
  obtain⟨_,_,e,_,h⟩:=Sl.own aT c rfl
  cases e
  exact h
 have D:¬(i:Int)=(i:Int)+1:=by omega
 repeat (first|apply ar|refine qb1 ?_)
 refine SG.val rfl rfl rfl rfl (Vb (j:=i) (m:=i+1) (r:=l.length) rfl rfl rfl rfl rfl (by omega) rfl (by omega)) ?_
 repeat (first|apply ar|(apply au;rfl;(first|apply aB|apply fE)<;>first|rfl|exact qr))
 refine bA rfl ?_
 repeat (first|apply ar|refine qb1 ?_)
 refine CG.tail mixed 6 [0,1,2,3,4,5] (by kernel_rfl) ?_
 repeat (apply bW;rfl;rfl;(first|apply aB|apply Lv)<;>first|rfl|exact zc)
 refine aM.val rfl rfl rfl (Ki (j:=i+1) rfl rfl (by omega) (Ar.mk (by omega))) ?_
 refine aM.tl (fun G a _ _=>?_)
 have B:=aV c a
 refine SG.Hf (enc:=ec) (base:=base) (xs:=l.take i) (ys:=l.drop (i+1)) rfl rfl rfl (ag rfl) (ag rfl) length_drop.symm rfl rfl rfl aT lN (wm aT B rfl (by omega)) (by rw[length_take];omega) (z8 (s.az a) x) (by rw[length_drop];omega) (by rw[length_drop];simp only[maxLen];omega) (by rw[length_drop];show(i+(l.length-(i+1)))*96<=_;omega) (Nat.le_trans t a.size) (fun H y o=>?_)
 have q:i+(l.length-(i+1))=l.length-1:=by omega
 have u:(rO l i).length=l.length-1:=by
  unfold rO
  rw[length_append,length_take,length_drop]
  omega
 rw[q] at o⊢
 repeat (first|apply ar|(apply au;rfl;(first|apply Sm|apply aB|apply aE|apply dg)<;>first|rfl|exact zc))
 refine SG.IV (base:=base) (g:=n) (k:=l.length-1) (m:=0) (cap:=f) (xs:=bX ec (rO l i)) (z:= .agg ((dc zd++([.int .i64 0,.int .i64 0,.int .i64 0,.slice none 0 0,.slice none 0 0]++(dc zd++[.int .i64 0])):List Value).toArray)) (T:=216) (c2:=f-(l.length-1)) rfl rfl ?_ rfl rfl rfl o (by omega) (fun I A C=>?_)
 ·refine(ag rfl).trans ?_
  rw[Nat.zero_add,show l.length-(l.length-1)=0+1 by omega]
  rfl
 repeat (first|apply ar|refine ww ?_)
 refine aO (Or.inl rfl) results128 (aD.tmp rfl) ?_
 exact⟨_,rfl,(a.any.trans y).trans A,by rw[u];exact C,fun _ h=>h⟩
end
section
variable{S:List Nat}{xs:List Value}{b n sz:Nat}{T:TypeId}{w':World}
open Go.Proofs
def dD(n:Nat)(w:World)(S:List Nat):Prop:=∀b∈S,n<=b/\∀cs f,w.heap[b]?≠some (.cells cs 5 f)
theorem dD.cells{w:World}{cs:Array Value}(h:aG w b (.cells cs T))(a:T≠5):∀cs f,w.heap[b]?≠some (.cells cs 5 f):=fun c f e=>by
 have:=h.uniq e
 simp only[Obj.cells.injEq] at this
 exact a this.2.1
theorem dD.own{w:World}{n0 base:Nat}{v:Value}(c:w.ownsRow base T sz v n xs)(f:n0<=base)(d:T≠5):dD n0 w (aR v):=fun b e=>by
 have a:=aL e
 refine⟨Nat.le_trans f (cj c b a),?_⟩
 rcases c.2 with⟨rfl,_⟩|⟨g,cap,cur,rfl,_,hg,_⟩
 ·cases a
 ·cases a
  exact dD.cells hg d
theorem dD.cons{w:World}(e:n<=b)(h:∀c f,w.heap[b]?≠some (.cells c 5 f))(d:dD n w S):dD n w (b::S):=fun z a=>by
 rcases mem_cons.1 a with rfl|a
 ·exact⟨e,h⟩
 ·exact d z a
theorem dD.nil{w:World}:dD n w []:=fun z a=>(by cases a)
theorem Bs.iD{w:World}{a:Option Addr}{c:Nat}{l:List UInt8}(h:Bs w a c l)(d:Tb n w a l)(i:Kp S w w')(k:dD n w S):Bs w' a c l/\Tb n w' a l:=by
 have o:l≠[]->∀b g,a=Option.some ⟨b,g,Option.none⟩->b∉S:=fun j b g e m=>by
  rcases d with d|d
  ·obtain⟨p,f,q⟩:=d j b g e
   exact(k b m).2 p f q
  ·have:=d b g e
   have:=(k b m).1
   omega
 refine⟨⟨h.sl.LG i o,h.len,h.some,fun j b g e=>Nat.lt_of_lt_of_le (h.lt j b g e) i.size⟩,d.kp i o⟩
theorem Tm.In.iD{x:Tm}{w:World}(h:x.In n w)(c:Kp S w w')(a:dD n w S):x.In n w':=
 ⟨(h.b.iD h.t1 c a).1,(h.s.iD h.t2 c a).1,(h.b.iD h.t1 c a).2,(h.s.iD h.t2 c a).2,h.l1,h.l2⟩
theorem eO{w:World}{off:Nat}{e:Em}(h:Row w b off (ec e)):Row w b off (bV e.x)/\Row w b off (dc e.x.t.frm)/\Row w b (off+8) [.int .i64 e.x.t.non]/\Row w b (off+9) [.int .i64 e.x.t.fee]/\Row w b (off+13) (dc (aJ e.x.t))/\Row w b (off+21) [.int .i64 e.since]:=by
 have a:=h.part [] (bV e.x) (dc (aJ e.x.t)++[Value.int .i64 e.since]) (by simp[ec])
 have c:=h.part (bV e.x) (dc (aJ e.x.t)) [Value.int .i64 e.since] (by simp[ec])
 have d:=h.part (bV e.x++dc (aJ e.x.t)) [Value.int .i64 e.since] [] (by simp[ec])
 simp only[length_append,ay,ai,length_nil,Nat.add_zero] at a c d
 obtain⟨f,g,i,-⟩:=oV a
 exact⟨a,f,g,i,c,d⟩
structure Pl(w:World)(base p:Nat)(v:Value)(room:Int)(ms:List Em):Prop where
 blk:aG w p (.cells #[.int .i64 room,v] 214)
 own:w.ownsRow base 216 22 v ms.length (bX ec ms)
 ins:∀e∈ms,e.x.In base w
 bp:base<=p
theorem Pl.Js{w:World}{base p:Nat}{v:Value}{room:Int}{ms:List Em}(h:Pl w base p v room ms):dD base w (p::aR v):=dD.cons h.bp (dD.cells h.blk (by decide)) (dD.own h.own (Nat.le_refl _) (by decide))
theorem Pl.nb{w:World}{base p:Nat}{v:Value}{room:Int}{ms:List Em}(h:Pl w base p v room ms):∀b,v.ownBlock=some b->b∉[p]:=cF h.own (by decide) h.blk
theorem Pl.np{w:World}{base p:Nat}{v:Value}{room:Int}{ms:List Em}(h:Pl w base p v room ms):p∉aR v:=fun a=>h.nb p (aL a) mem_cons_self
theorem cr{w:World}{base:Nat}{v:Value}(a:w.ownsRow base T sz v n xs)(o:Kp S w w')(k:∀b,v.ownBlock=some b->b∉S):w'.ownsRow base T sz v n xs:=by
 refine⟨a.1,?_⟩
 rcases a.2 with h|⟨g,c,d,rfl,m,l,e,f,i,j⟩
 ·exact Or.inl h
 ·exact Or.inr ⟨g,c,d,rfl,m,aG.kp l o (k g rfl),e,f,i,j⟩
theorem Pl.kp{w:World}{base p:Nat}{v:Value}{room:Int}{ms:List Em}(h:Pl w base p v room ms)(a:Kp S w w')(f:p∉S)(g:∀b,v.ownBlock=some b->b∉S)(c:dD base w S):Pl w' base p v room ms:=
 ⟨h.blk.kp a f,cr h.own a g,fun e d=>(h.ins e d).iD a c,h.bp⟩
theorem Pl.az{w:World}{base p:Nat}{v:Value}{room:Int}{ms:List Em}(h:Pl w base p v room ms)(a:Kp [] w w'):Pl w' base p v room ms:=h.kp a not_mem_nil (fun _ _=>not_mem_nil) dD.nil
theorem Pl.rows{w:World}{base p:Nat}{v:Value}{room:Int}{ms:List Em}(h:Pl w base p v room ms):Row w p 0 [.int .i64 room]/\Row w p 1 [v]:=
 ⟨Row.of h.blk [] [v] rfl rfl,Row.of h.blk [.int .i64 room] [] rfl rfl⟩
theorem Pl.sl{w:World}{base p:Nat}{v:Value}{room:Int}{ms:List Em}(h:Pl w base p v room ms):∃a c,v= .slice a ms.length c/\ms.length<=c/\Sl ec 22 w a ms:=Sl.own aT h.own rfl
theorem Pl.mu{w:World}{base p:Nat}{v:Value}{room:Int}{ms:List Em}(h:Pl w base p v room ms):base<=w.heap.size:=by
 have:=h.blk.lt
 have:=h.bp
 omega
attribute [local irreducible] CG NG SG aP aM Row aG aF aQ aJ bu
theorem El{w:World}{b c:Nat}{k:Dg}{n:Int}(e:Em)(h:Row w b 0 (dc k))(i:Row w c 0 [.int .i64 n]):dq prog 163 #[ev e,.pointer (some ⟨b,0,none⟩),.pointer (some ⟨c,0,none⟩)] w (.bool (kz k n e.en)):=by
 refine fC (args:=[ev e,.pointer (some ⟨b,0,none⟩),.pointer (some ⟨c,0,none⟩)]) func163 rfl ntmps163 rfl ?_
 repeat apply ar
 refine SG.box rfl rfl rfl (ag rfl) (fun j m a o d=>?_)
 have d:aG m j (.cells (ec e).toArray 216):=d
 obtain⟨-,p,l,-⟩:=eO (Row.all d rfl)
 simp only[Nat.zero_add] at l
 have h:=h.az a
 have i:=i.az a
 by_cases f:e.x.t.frm=k
 case neg=>
  repeat (first|apply ar|(apply au;rfl;(first|apply aB|apply aE|apply bf|apply aU|apply cI|apply vT)<;>first|rfl|assumption|exact qr|exact wn|apply ai)|refine SG.skip rfl rfl ?_)
  refine aO (Or.inl rfl) results163 (aD.tmp rfl) ?_
  refine⟨?_,a⟩
  have:kz k n e.en=false:=by
   cases hh:kz k n e.en with
   |false=>rfl
   |true=>exact absurd (me.1 hh).1 f
  rw[this]
 by_cases g:e.x.t.non=n
 case neg=>
  repeat (first|apply ar|refine qa8 ?_)
  refine aO (Or.inl rfl) results163 (aD.tmp rfl) ?_
  refine⟨?_,a⟩
  have:kz k n e.en=false:=by
   cases hh:kz k n e.en with
   |false=>rfl
   |true=>exact absurd (me.1 hh).2 g
  rw[this]
 repeat (first|apply ar|(apply au;rfl;(first|apply aB|apply aE|apply aZ|apply bf|apply aU|apply cI|apply fE|apply vT)<;>first|rfl|assumption|exact qf|exact wn|apply ai))
 refine aO (Or.inl rfl) results163 (aD.tmp rfl) ?_
 refine⟨?_,a⟩
 have:kz k n e.en=true:=me.2 ⟨f,g⟩
 rw[this]
theorem find_spec{w:World}{base p:Nat}{v:Value}{room:Int}{ms:List Em}(i:Pl w base p v room ms)(D:ms.length<=1000000)(k:Dg)(n:Int):dq prog 127 #[.pointer (some ⟨p,0,none⟩),dv k,.int .i64 n] w (.int .i64 (rF (fun e:Em=>kz k n e.en) ms)):=by
 refine dG func127 rfl ntmps127 rfl ?_
 repeat apply ar
 refine SG.box rfl rfl rfl (ag rfl) (fun b z t A g=>?_)
 refine SG.box rfl rfl rfl (ag rfl) (fun d j q B h=>?_)
 have g:aG z b (.cells (dc k).toArray 47):=g
 have h:aG j d (.cells #[.int .i64 n] 3):=h
 have x:Row j b 0 (dc k):=Row.all (g.az q) rfl
 have y:Row j d 0 [.int .i64 n]:=Row.all h rfl
 have r:=t.trans q
 have i:=i.az r
 obtain⟨a,l,rfl,C,s⟩:=i.sl
 obtain⟨-,F⟩:=i.rows
 clear g h
 repeat (first|apply ar|refine qb6 ?_)
 refine SG.val rfl rfl rfl rfl (Hz (vs:=[.pointer (some ⟨b,0,none⟩),.pointer (some ⟨d,0,none⟩)]) rfl) ?_
 refine SG.ret rfl rfl rfl (vs:=[.slice a ms.length l,lf 163 [.pointer (some ⟨b,0,none⟩),.pointer (some ⟨d,0,none⟩)]]) (bg.of rfl) (mg (f:=163) (Fn:=by infer_instance) (caps:=[.pointer (some ⟨b,0,none⟩),.pointer (some ⟨d,0,none⟩)]) (p:=fun e:Em=>kz k n e.en) (c:=l) s (by omega) (fun o E W m=>El o (x.az m) (y.az m))) (fun G u=>?_)
 repeat (first|apply ar|refine wt ?_)
 refine aO (Or.inl rfl) results127 (aD.tmp rfl) ?_
 exact⟨rfl,r.trans u⟩
theorem K2(room:Int)(w:World):(Instr.build 214 #[(0,.int .i64 room)]).run prog w= .ok (.agg #[.int .i64 room,.slice none 0 0]) w:=by kernel_rfl
theorem wv{w:World}{room:Int}(m:1<=room)(n:room<=1024):Calls prog 78 #[.int .i64 room] w (fun e f=>∃p,e= .returned (.tuple #[.pointer (some ⟨p,0,none⟩),.int .i64 0])/\w.heap.size<=p/\Kp [] w f/\∀a,a<=w.heap.size->Pl f a p (.slice none 0 0) room []):=by
 refine bC func78 rfl ntmps78 rfl ?_
 have k:¬room<1:=by omega
 have l:¬1024<room:=by omega
 repeat (first|apply ar|(apply au;rfl;(first|apply aB|apply aE|apply cI|apply cg|apply ij)<;>first|rfl|exact qr))
 refine bA rfl ?_
 repeat (first|apply ar|refine qa0 ?_)
 refine SG.val rfl rfl rfl rfl (aK rfl (K2 room)) ?_
 refine SG.box rfl rfl rfl (ag rfl) (fun c j i d b=>?_)
 have b:aG j c (.cells #[.int .i64 room,.slice none 0 0] 214):=b
 repeat (first|apply ar|refine wt ?_)
 refine dT (Or.inl rfl) results78 (aD.tmp rfl) (aD.tmp rfl) ?_
 exact⟨c,rfl,d,i,fun a g=>⟨b,dY,fun e h=>(by cases h),Nat.le_trans g d⟩⟩
end
section
variable{o:En}{ms:List Em}{w:World}
open Go.Proofs
theorem K8(w:World)(a0 a b c d e g h c0 c1 c2 i j l m o:UInt8)(n f k s:Int)(t u:Option Addr)(q r d1 p:Nat):
  (Instr.build 216 #[(0,.agg #[bv a0,bv a,bv b,bv c,bv d,bv e,bv g,bv h,.int .i64 n,.int .i64 f,.int .i64 k,.slice t q d1,.slice u r p]),(1,.agg #[bv c0,bv c1,bv c2,bv i,bv j,bv l,bv m,bv o]),(2,.int .i64 s)]).run prog w= .ok (.agg #[bv a0,bv a,bv b,bv c,bv d,bv e,bv g,bv h,.int .i64 n,.int .i64 f,.int .i64 k,.slice t q d1,.slice u r p,bv c0,bv c1,bv c2,bv i,bv j,bv l,bv m,bv o,.int .i64 s]) w:=by kernel_rfl
theorem RV(w:World)(x:Tm)(d:Dg)(s:Int):(Instr.build 216 #[(0,eG x),(1,dv d),(2,.int .i64 s)]).run prog w= .ok (.agg (bV x++(dc d++[Value.int .i64 s])).toArray) w:=by
 obtain⟨⟨⟨l,i⟩,n,f,k,b,g⟩,a,e,c,h⟩:=x
 obtain⟨m,j⟩:=d
 match l,i,m,j with
 |[o,p,q,r,t,u,v,y],_,[z,A,B,C,D,E,F,G],_=>exact K8 w o p q r t u v y z A B C D E F G n f k s a c b.length g.length e h
theorem I4(w:World)(a0 a b c d e g h c0 c1 c2 l m o p q:UInt8)(n f k s:Int)(u v:Option Addr)(r t i j:Nat):
  (Instr.buildSlice 212 1 #[(0,.agg #[bv a0,bv a,bv b,bv c,bv d,bv e,bv g,bv h,.int .i64 n,.int .i64 f,.int .i64 k,.slice u r i,.slice v t j,bv c0,bv c1,bv c2,bv l,bv m,bv o,bv p,bv q,.int .i64 s])]).run prog w= .ok (.slice (some ⟨w.heap.size,0,none⟩) 1 1) {w with heap:=w.heap.push (.cells #[bv a0,bv a,bv b,bv c,bv d,bv e,bv g,bv h,.int .i64 n,.int .i64 f,.int .i64 k,.slice u r i,.slice v t j,bv c0,bv c1,bv c2,bv l,bv m,bv o,bv p,bv q,.int .i64 s] 216)}:=by kernel_rfl
theorem I3(x:Tm)(d:Dg)(s:Int)(w:World):(Instr.buildSlice 212 1 #[(0,.agg (bV x++(dc d++[Value.int .i64 s])).toArray)]).run prog w= .ok (.slice (some ⟨w.heap.size,0,none⟩) 1 1) {w with heap:=w.heap.push (.cells (bV x++(dc d++[Value.int .i64 s])).toArray 216)}:=by
 obtain⟨⟨⟨l,i⟩,n,f,k,b,g⟩,a,e,c,h⟩:=x
 obtain⟨m,j⟩:=d
 match l,i,m,j with
 |[o,p,q,r,t,u,v,y],_,[z,A,B,C,D,E,F,G],_=>exact I4 w o p q r t u v y z A B C D E F G n f k s a c b.length g.length e h
section
variable {room h:Int} {l:List En} {t:Tx}
theorem xT(a:h<0\/1099511627776<h):fD room l h t=2:=by
 unfold fD
 rw[if_pos a]
theorem Ff(a:¬(h<0\/1099511627776<h))(b:bu t≠0):fD room l h t=bu t:=by
 unfold fD
 rw[if_neg a,if_pos b]
theorem Ch(a:¬(h<0\/1099511627776<h))(b:bu t=0)(c:l.find? (kz t.frm t.non)=some o)(d:o.t=t):fD room l h t=7:=by
 unfold fD
 rw[if_neg a,if_neg (fun k=>k b),c]
 exact if_pos d
theorem Fc(a:¬(h<0\/1099511627776<h))(b:bu t=0)(c:l.find? (kz t.frm t.non)=some o)(d:o.t≠t)(e:t.fee<=o.t.fee):fD room l h t=18:=by
 unfold fD
 rw[if_neg a,if_neg (fun k=>k b),c]
 simp only
 rw[if_neg d,if_pos e]
theorem Fe(a:¬(h<0\/1099511627776<h))(b:bu t=0)(c:l.find? (kz t.frm t.non)=some o)(d:o.t≠t)(e:¬t.fee<=o.t.fee):fD room l h t=0:=by
 unfold fD
 rw[if_neg a,if_neg (fun k=>k b),c]
 simp only
 rw[if_neg d,if_neg e]
theorem Ci(a:¬(h<0\/1099511627776<h))(b:bu t=0)(c:l.find? (kz t.frm t.non)=none)(d:room<=l.length):fD room l h t=8:=by
 unfold fD
 rw[if_neg a,if_neg (fun k=>k b),c]
 exact if_pos d
theorem Hj(a:¬(h<0\/1099511627776<h))(b:bu t=0)(c:l.find? (kz t.frm t.non)=none)(d:¬room<=l.length):fD room l h t=0:=by
 unfold fD
 rw[if_neg a,if_neg (fun k=>k b),c]
 exact if_neg d
end
theorem Gv{a b:Type}(f:a->b)(l:List a)(i:Nat):(rO l i).map f=(l.map f).eraseIdx i:=by
 rw[rO,map_append,map_take,map_drop,eraseIdx_eq_take_drop_succ]
theorem D9{k:Dg}{n:Int}:iQ (ms.map Em.en) k n=ms.findIdx (fun e=>kz k n e.en):=by
 unfold iQ
 rw[findIdx_map]
 rfl
theorem Kp.st{S a:List Nat}{b w2:World}(h:Kp S w b)(c:Kp a b w2)(d:∀z∈a,z∈S\/w.heap.size<=z):Kp S w w2:=h.aj c d
attribute [local irreducible] CG NG SG aP aM Row aG aF aQ aJ bu
theorem qb7{P n o Q r L w d b t p f g v}(c:SG P n o Q r ((d,v)::L) w)(a:(Nat.blt d n&&(!fm b&&(want o L ⟨some d,b,t,p,f,g⟩==some true&&b.operands.toList.all (known L))))=true:=by rfl)(e:aP P [] w (fun _=>True) L ⟨some d,b,t,p,f,g⟩ v:=by (first|apply aB|apply aZ|apply bf|apply aU)<;>first|rfl|assumption|exact wn|apply ai):SG P n o Q (⟨some d,b,t,p,f,g⟩::r) L w:=au a e c
theorem sq{base p:Nat}{v:Value}{room:Int}{h:Int}{x:Tm}(Z:Pl w base p v room ms)(hx:x.In base w)(hI:df room (ms.map Em.en))(hr:room<=1024):
  Calls prog 83 #[.pointer (some ⟨p,0,none⟩),.int .i64 h,eG x] w (fun q L=>q= .returned (.int .i64 (fD room (ms.map Em.en) h x.t))/\∃v' ae,Pl L base p v' room ae/\ae.map Em.en=pG room (ms.map Em.en) h x.t/\Kp (p::aR v) w L/\(∀g,v'.ownBlock=some g->v.ownBlock=some g\/w.heap.size<=g)):=by
 refine dG func83 rfl ntmps83 rfl ?_
 have U:∀{L:World} {z:Int},Kp [] w L->fD room (ms.map Em.en) h x.t=z->z≠0->(Ending.returned (.int .i64 z)= .returned (.int .i64 (fD room (ms.map Em.en) h x.t))/\∃v' ae,Pl L base p v' room ae/\ae.map Em.en=pG room (ms.map Em.en) h x.t/\Kp (p::aR v) w L/\(∀g,v'.ownBlock=some g->v.ownBlock=some g\/w.heap.size<=g)):=fun j a bq=>by
  refine⟨by rw[a],v,ms,Z.az j,?_,j.any,fun g hg=>Or.inl hg⟩
  unfold pG
  rw[if_neg (by rw[a];exact bq)]
 have bC:(ms.length:Int)<=1024:=by have:=hI.len;rw[length_map] at this;omega
 have bD:=Z.blk.lt
 repeat apply ar
 refine SG.box rfl rfl rfl (ag rfl) (fun R w1 ah bw r=>?_)
 have r:aG w1 R (.cells (bV x).toArray 52):=r
 have bE:=r.lt
 repeat (first|apply ar|refine qa1 ?_)
 refine bA rfl ?_
 by_cases H:h<0
 ·have a:fD room (ms.map Em.en) h x.t=2:=xT (Or.inl H)
  repeat (first|apply ar|(apply au;rfl;(first|apply aB|apply cI|apply cg)<;>first|rfl|exact qf)|refine SG.skip rfl rfl ?_)
  refine bO rfl ?_
  repeat (first|apply ar|refine wt ?_)
  refine aO (Or.inl rfl) results83 (aD.tmp rfl) ?_
  exact U ah a (by decide)
 by_cases h2:1099511627776<h
 ·have a:fD room (ms.map Em.en) h x.t=2:=xT (Or.inr h2)
  repeat (first|apply ar|(apply au;rfl;(first|apply aB|apply cI|apply cg|apply ij)<;>first|rfl|exact qf|exact qr))
  refine bO rfl ?_
  repeat (first|apply ar|refine wt ?_)
  refine aO (Or.inl rfl) results83 (aD.tmp rfl) ?_
  exact U ah a (by decide)
 repeat (first|apply ar|(apply au;rfl;(first|apply aB|apply cI|apply cg|apply ij)<;>first|rfl|exact qr))
 refine bA rfl ?_
 have G:¬(h<0\/1099511627776<h):=by omega
 clear H h2
 obtain⟨r0,-⟩:=aX r
 repeat (first|apply ar|refine qa2 ?_)
 refine SG.ret rfl rfl rfl (vs:=[eG x]) (bg.of rfl) (ki (hx.az ah)) (fun w2 aY=>?_)
 clear r0
 have k2:=ah.trans aY
 by_cases C:bu x.t=0
 rotate_left
 ·have a:=Ff (room:=room) (l:=ms.map Em.en) G C
  generalize bu x.t=z at C a
  repeat (first|apply ar|refine vr ?_)
  refine bO rfl ?_
  repeat (first|apply ar|refine ww ?_)
  refine aO (Or.inl rfl) results83 (aD.tmp rfl) ?_
  exact U k2 a C
 rw[C]
 have bv:(0:Int)=0:=rfl
 repeat (first|apply ar|refine vp ?_)
 refine bA rfl ?_
 have r:=r.az aY
 obtain⟨-,q0,K,-⟩:=aX r
 repeat (first|apply ar|refine qb7 ?_)
 refine SG.ret rfl rfl rfl (vs:=[.pointer (some ⟨p,0,none⟩),dv x.t.frm,.int .i64 x.t.non]) (bg.of rfl) (find_spec (Z.az k2) (by omega) x.t.frm x.t.non) (fun w3 a0=>?_)
 clear q0 K
 have k3:=k2.trans a0
 have r:=r.az a0
 repeat refine wt ?_
 refine SG.nil ?_
 refine NG.next ?_
 have P:=Z.az k3
 have bc:R∉p::aR v:=fun A=>by
  rcases mem_cons.1 A with q|A
  ·omega
  ·have:=cK Z.own R (aL A)
   omega
 refine CG.jK (fun al L=>aS [(0,.pointer (some ⟨p,0,none⟩)),(1,.int .i64 h),(5,.pointer (some ⟨R,0,none⟩))] al/\∃v2 o,Pl L base p v2 room o/\o.map Em.en=(ms.map Em.en).eraseIdx (iQ (ms.map Em.en) x.t.frm x.t.non)/\Kp (p::aR v) w3 L/\(∀g,v2.ownBlock=some g->v.ownBlock=some g)/\fD room (ms.map Em.en) h x.t=0/\o.length<=ms.length) ?_ ?_
 ·have T:=rK (l:=ms.map Em.en) (k:=x.t.frm) (n:=x.t.non)
  have ab:=D9 (ms:=ms) (k:=x.t.frm) (n:=x.t.non)
  by_cases S:ms.findIdx (fun q=>kz x.t.frm x.t.non q.en)<ms.length
  ·rw[qA S]
   generalize hi:ms.findIdx (fun q=>kz x.t.frm x.t.non q.en)=B at S ab
   rw[ab,getElem?_eq_getElem (by simpa using S),getElem_map] at T
   have gi:(0:Int)<=(B:Int):=by omega
   have bt:¬(B:Int)<0:=by omega
   obtain⟨a8,am,rfl,hc,hS⟩:=P.sl
   obtain⟨-,K⟩:=P.rows
   obtain⟨b1,o1,rfl,a4⟩:=hS.at S
   obtain⟨s0,-,-,-⟩:=eO a4
   have bo:ms[B].x.In base w3:=P.ins _ (getElem_mem S)
   repeat (first|apply ar|(apply au;rfl;(first|apply aB|apply ji)<;>first|rfl|exact qf))
   refine bO rfl ?_
   repeat (first|apply ar|(apply au;rfl;(first|apply aB|apply aZ|apply bf|apply aU|apply bR|apply fa)<;>first|rfl|exact zc|assumption|exact wn|apply ay))
   refine SG.alloc rfl rfl rfl (fun b9 V J bx Y=>?_)
   refine SG.aN (l:=bV ms[B].x) rfl rfl (ag rfl) (ag rfl) Y (ay _) rfl (bY _) (fun w5 aa Y=>?_)
   have Y:aG w5 b9 (.cells (bV ms[B].x).toArray 52):=Y
   have ak:Kp [] w3 w5:=J.aj aa (aW (by omega))
   have r:=r.az ak
   clear K a4 s0
   obtain⟨t0,-⟩:=aX Y
   obtain⟨u0,-⟩:=aX r
   repeat (first|apply ar|refine qa2 ?_)
   refine SG.ret rfl rfl rfl (vs:=[eG ms[B].x,eG x]) (bg.of rfl) (qQ (bo.az ak) ((hx.az k3).az ak)) (fun w6 Q=>?_)
   clear t0 u0
   have aC:=ak.trans Q
   have k6:=k3.trans aC
   by_cases ad:ms[B].x.t=x.t
   ·have a:=Ch (room:=room) G C T ad
    rw[yl ad]
    repeat apply ar
    refine bO rfl ?_
    repeat (first|apply ar|refine wt ?_)
    refine aO (Or.inl rfl) results83 (aD.tmp rfl) ?_
    exact U k6 a (by decide)
   rw[ym ad]
   repeat apply ar
   refine bA rfl ?_
   obtain⟨-,-,-,u2,-⟩:=aX (r.az Q)
   obtain⟨-,-,-,bs,-⟩:=aX (Y.az Q)
   by_cases aP:x.t.fee<=ms[B].x.t.fee
   ·have a:=Fc (room:=room) G C T ad aP
    repeat (first|apply ar|(apply au;rfl;(first|apply aZ|apply aU|apply Cq)<;>first|rfl|assumption|exact qf|exact wn))
    refine bO rfl ?_
    repeat (first|apply ar|refine wt ?_)
    refine aO (Or.inl rfl) results83 (aD.tmp rfl) ?_
    exact U k6 a (by decide)
   have a:=Fe (room:=room) G C T ad aP
   repeat (first|apply ar|(apply au;rfl;(first|apply aZ|apply aU|apply Cq)<;>first|rfl|assumption|exact qr|exact wn))
   refine bA rfl ?_
   clear u2 bs
   have I:=P.az aC
   obtain⟨-,K⟩:=I.rows
   repeat (first|apply ar|(apply au;rfl;(first|apply aB|apply aZ|apply aU|apply bR|apply dp)<;>first|rfl|exact zc|assumption|exact wn))
   refine SG.call rfl rfl rfl (vs:=[.slice (some ⟨b1,o1,none⟩) ms.length am,.int .i64 (B:Int),.int .i64 ((B:Int)+1)]) (bg.of rfl) ((B0 I.own (by omega) S I.mu).mono (fun q w7 bd=>?_))
   obtain⟨v7,D,aq,aw,bm⟩:=bd
   refine⟨_,D,?_⟩
   clear K
   have ao:=I.blk.kp aq I.np
   have bj:∀d,v7.ownBlock=some d->d∉[p]:=cF aw (by decide) ao
   obtain⟨a7,c7,rfl,-,-⟩:=Sl.own (l:=rO ms B) aT aw rfl
   repeat (apply au;rfl;(first|apply aU|apply bR)<;>rfl)
   refine SG.cp [.int .i64 room] [.slice (some ⟨b1,o1,none⟩) ms.length am] [] rfl rfl (ag rfl) (ag rfl) ao rfl rfl rfl rfl rfl (fun w8 av ba=>?_)
   have bb:Pl w8 base p (.slice a7 (rO ms B).length c7) room (rO ms B):=by
    refine⟨ba,cr aw av bj,fun q D=>?_,I.bp⟩
    have A:q∈ms:=by
     rcases mem_append.1 D with h|h
     ·exact mem_of_mem_take h
     ·exact mem_of_mem_drop h
    refine(((I.ins q A).iD aq (dD.own I.own (Nat.le_refl _) (by decide))).iD av (dD.cons I.bp (dD.cells ao (by decide)) dD.nil))
   repeat apply ar
   refine NG.cut ⟨by(repeat' (first|exact True.intro|exact rfl|refine And.intro ?_ ?_)),_,_,bb,by rw[ab];exact Gv _ _ _,((aC.any).trans (aq.mono (fun z a=>mem_cons_of_mem _ a))).trans (av.mono (fun z a=>by rw[mem_singleton] at a;rw[a];exact mem_cons_self)),bm,a,?_⟩
   unfold rO
   rw[length_append,length_take,length_drop]
   omega
  ·rw[qz S]
   rw[ab,getElem?_eq_none (by rw[length_map];omega)] at T
   have gi:¬(0:Int)<=-1:=by omega
   obtain⟨a8,am,rfl,hc,hS⟩:=P.sl
   obtain⟨q0,K⟩:=P.rows
   repeat (first|apply ar|(apply au;rfl;(first|apply aB|apply ji)<;>first|rfl|exact qr))
   refine bA rfl ?_
   repeat apply ar
   refine CG.tail mixed 9 [0,1,2,3,4,5,6,7,8] (by kernel_rfl) ?_
   repeat (apply bW;rfl;rfl;(first|apply aB|apply aZ|apply aU|apply bR|apply dg)<;>first|rfl|assumption|exact wn)
   refine aM.tl (fun V J _ _=>?_)
   clear q0 K
   by_cases aQ:room<=(ms.length:Int)
   ·have a:=Ci (room:=room) G C T (by rw[length_map];exact aQ)
    repeat (first|apply ar|(apply au;rfl;apply ji<;>first|rfl|exact qf))
    refine bO rfl ?_
    repeat (first|apply ar|refine wt ?_)
    refine aO (Or.inl rfl) results83 (aD.tmp rfl) ?_
    exact U (k3.trans J) a (by decide)
   ·have a:=Hj (room:=room) G C T (by rw[length_map];exact aQ)
    repeat (first|apply ar|(apply au;rfl;apply ji<;>first|rfl|exact qr))
    refine bA rfl ?_
    repeat apply ar
    refine NG.cut ⟨by(repeat' (first|exact True.intro|exact rfl|refine And.intro ?_ ?_)),_,_,P.az J,?_,J.any,fun _ h=>h,a,Nat.le_refl _⟩
    rw[ab,eraseIdx_of_length_le (by rw[length_map];omega)]
 rintro al V ⟨aH,v2,o,F,bh,J,aA,a,bB⟩
 refine CG.to _ aH ?_
 clear aH al U
 have k4:Kp (p::aR v) w V:=k3.any.trans J
 have r:=r.kp J bc
 have a6:x.In base V:=(hx.az k3).iD J P.Js
 obtain⟨u0,-⟩:=aX r
 obtain⟨-,K⟩:=F.rows
 have bz:=hx.l1
 have bk:=F.mu
 have af:∀z∈aR v2,z<V.heap.size:=fun z a=>cK F.own z (aL a)
 have hO:=dD.own F.own (Nat.le_refl _) (by decide)
 have br:p∉aR v2:=F.np
 have bF:R∉aR v2:=fun A=>by
  have:=cK Z.own R (aA R (aL A))
  omega
 obtain⟨M,N,rfl,-,-⟩:=F.sl
 obtain⟨F',ap⟩:∃F':{y:Tm//y.t=x.t}->World->Prop,F'=fun y W=>y.1.In base W/\(∀d u,y.1.a1=some ⟨d,u,none⟩->V.heap.size<=d)/\(∀d u,y.1.a2=some ⟨d,u,none⟩->V.heap.size<=d):=⟨_,rfl⟩
 have ax:∀y,cH (aR (.slice M o.length N)) (F' y):=fun y W W' j h=>by
  rw[ap] at h⊢
  obtain⟨H,h2,C⟩:=h
  have n1:∀d u,y.1.a1=some ⟨d,u,none⟩->d∉aR (.slice M o.length N):=fun d u q A=>by have:=h2 d u q;have:=af d A;omega
  have n2:∀d u,y.1.a2=some ⟨d,u,none⟩->d∉aR (.slice M o.length N):=fun d u q A=>by have:=C d u q;have:=af d A;omega
  exact⟨⟨H.b.kp j n1,H.s.kp j n2,H.t1.kp j (fun _=>n1),H.t2.kp j (fun _=>n2),H.l1,H.l2⟩,h2,C⟩
 repeat apply ar
 refine CG.dS mixed 13 [0,1,2,3,4,5,7,8,9,6,10,11,12] [6,11,12] (aR (.slice M o.length N)) (fun w=>w.ownsRow base 216 22 (.slice M o.length N) o.length (bX ec o)) (by kernel_rfl) F.own (fun _ _ j h=>aV h j) ?_
 repeat (apply bW;rfl;rfl;(first|apply aB|apply aZ|apply bf|apply aU|apply bR)<;>first|rfl|assumption|apply ay)
 refine aM.call rfl rfl rfl (vs:=[eG x]) (bg.of rfl) (fun W j _=>dV (a6.iD j hO)) ?_
 repeat (apply bW;rfl;rfl;apply aB<;>rfl)
 refine aM.uP (X:={y:Tm//y.t=x.t}) (vs:=[eG x]) (fun y=>eG y.1) F' (fun _ W=>W.ownsRow base 216 22 (.slice M o.length N) o.length (bX ec o)) rfl rfl rfl rfl (bg.of rfl) ax (fun _ _ _ j h=>aV h j) (fun _ _ _ h=>h) (fun W j _ hR=>(jg (a6.iD j hO)).mono (fun q W' G=>?_)) (fun y=>?_)
 ·obtain⟨y,hy,D,be,a3,g1,g2⟩:=G
  refine⟨⟨y,hy⟩,D,?_,aV hR a3,a3.any⟩
  rw[ap]
  exact⟨be.mono (Nat.zero_le _),fun d u q=>Nat.le_trans j.size (g1 d u q),fun d u q=>Nat.le_trans j.size (g2 d u q)⟩
 refine aM.val rfl rfl rfl (aK rfl (fun W=>RV W y.1 (aJ x.t) h)) ?_
 refine aM.lP (cs:=(bV y.1++(dc (aJ x.t)++[Value.int .i64 h])).toArray) (E:=216) rfl rfl rfl rfl rfl (fun W=>I3 y.1 (aJ x.t) h W) af (fun W W' j h=>⟨trivial,ax y W W' j h.2⟩) (fun _ _ j h=>aV h j) (fun bn=>?_)
 have an:ec ⟨y.1,h⟩=bV y.1++(dc (aJ x.t)++[Value.int .i64 h]):=by
  have:=y.2
  unfold ec
  rw[this]
 refine aM.mv (base:=base) (e:=216) (i:=Tryz.t216) (f:=ty.i216) (v:= .slice M o.length N) (nn:=o.length) (xs:=bX ec o) (b:=bn) (off:=0) (m:=1) (c:=1) (news:=bV y.1++(dc (aJ x.t)++[Value.int .i64 h])) rfl rfl rfl rfl (ag rfl) (ag rfl) rfl rfl rfl (fun W j O=>Row.all O.2.2 rfl) (by rw[<-an,aT];rfl) (by rw[<-an];exact lN _) (by simp only[maxLen];omega) (by show(o.length+1)*96<=_;omega) bk (fun _ h=>h) (fun W W' j O=>⟨⟨trivial,ax y W W' j O.1.2⟩,O.2.1,O.2.2.kp j (fun A=>by have:=af _ A;have:=O.2.1;omega)⟩) (fun v5=>?_)
 refine aM.tl (fun w5 aa O ac=>?_)
 obtain⟨⟨⟨-,aF⟩,-⟩,bl⟩:=O
 rw[ap] at aF
 have ac:w5.ownsRow base 216 22 v5 (o++[(⟨y.1,h⟩:Em)]).length (bX ec (o++[(⟨y.1,h⟩:Em)])):=by
  rw[dP,ix,an,length_append]
  exact ac
 have r:=F.blk.kp aa br
 have bi:∀d,v5.ownBlock=some d->d∉[p]:=cF ac (by decide) r
 obtain⟨a5,c5,rfl,-,-⟩:=Sl.own aT ac rfl
 clear K u0
 refine SG.val rfl rfl rfl rfl (by first|(apply bR<;>(exact rfl))|fail) ?_
 refine SG.val rfl rfl rfl rfl (by first|(apply aU<;>(exact rfl))|fail) ?_
 refine SG.cp [.int .i64 room] [.slice M o.length N] [] rfl rfl (ag rfl) (ag rfl) r rfl rfl rfl rfl rfl (fun w6 Q a9=>?_)
 repeat (first|apply ar|refine wt ?_)
 refine aO (Or.inl rfl) results83 (aD.tmp rfl) ?_
 refine⟨by rw[a],_,o++[(⟨y.1,h⟩:Em)],⟨a9,cr ac Q bi,fun q D=>?_,F.bp⟩,?_,?_,fun g hg=>?_⟩
 ·have aI:dD base w5 [p]:=dD.cons F.bp (dD.cells r (by decide)) dD.nil
  rcases mem_append.1 D with D|D
  ·exact((F.ins q D).iD aa hO).iD Q aI
  ·rw[mem_singleton] at D
   subst D
   exact aF.1.iD Q aI
 ·rw[map_append,bh]
  unfold pG
  rw[if_pos a]
  unfold Fh
  have:Em.en ⟨y.1,h⟩=⟨x.t,h⟩:=by
   unfold Em.en
   rw[y.2]
  simp only[map_cons,map_nil,this]
 ·refine(k4.st aa (fun z a=>?_)).st Q (fun z a=>?_)
  ·exact Or.inl (mem_cons_of_mem _ (gQ (aA z (aL a))))
  ·rw[mem_singleton] at a
   subst a
   exact Or.inl mem_cons_self
 ·rcases bl g hg with G|G
  ·exact Or.inl (aA g G)
  ·have:=k4.size
   exact Or.inr (by omega)
end
section
variable{a x:Operand}{i:TypeInfo}{z:Value}
section
variable {κ ν:Type} {enc:κ->Value} {V:ν->Value} {m:List (κ×ν)} {w w':World} {b:Nat} {P:Program} {k T E:TypeId}
def Jo(P:Program)(T:TypeId)(b:Nat)(st:Int)(o':Obj)(enc:κ->Value)(V:ν->Value)[DecidableEq κ](m:List (κ×ν))(x:κ):Prop:=
 ∀(w2:World) (y:ν),aG w2 b o'->∃o2,(Instr.entryStore T (.map (some b)) (.int .i64 st) (V y)).run P w2= .ok () {w2 with heap:=w2.heap.setIfInBounds b o2}/\aF {w2 with heap:=w2.heap.setIfInBounds b o2} b enc V (ca m x y)/\Kp [b] w2 {w2 with heap:=w2.heap.setIfInBounds b o2}
theorem uk[DecidableEq κ][u:Ut P T (.map k E)][f:dJ P E i](U:i.zero=some z)(h:aF w b enc V m)(K:da P k enc)(x:κ):
  ∃(H:Int) (o:Obj),(Instr.mapEntry T (.map (some b)) (enc x)).run P w= .ok (.tuple #[(aC m x).elim z V,.int .i64 H]) {w with heap:=w.heap.setIfInBounds b o}/\Kp [b] w {w with heap:=w.heap.setIfInBounds b o}/\aG {w with heap:=w.heap.setIfInBounds b o} b o/\(∃d I,o= .map d I)/\Jo P T b H o enc V m x:=by
 obtain⟨d,c,p,n,A,N⟩:=h.keys K
 obtain⟨Z,t⟩:=K.key x
 have s:w.heap[b]?=some (.map d c):=p
 rcases K.law.find w t d.toList N with⟨h1,h2⟩|⟨j,e0,h1,h2,h3⟩
 ·have G:=(fJ K.inj A (x:=x)).1 h2
  rw[G]
  refine⟨c,.map (d.push ⟨enc x,z,c⟩) (c+1),?_,Kp.set w p rfl rfl,p.set _,⟨_,_,rfl⟩,fun r y g=>⟨.map (d.push ⟨enc x,V y,c⟩) (c+1),?_,⟨_,_,g.set _,MapKept.stamped_push n h2,?_⟩,Kp.set r g rfl rfl⟩⟩
  ·simp[Instr.mapEntry,run_underlying u.eq,MapKept.run_getObj_map s,K.law.check w _ t,h1,lB (f:=f) U,MapKept.run_setObj_map _ s,Result.andThen,goInt]
  ·have q:r.heap[b]?=some (.map (d.push ⟨enc x,z,c⟩) (c+1)):=g
   have v:(d.push ⟨enc x,z,c⟩).findIdx? (fun e=>((e.born:Nat):Int)==((c:Nat):Int))=some d.size:=by
    rw[WideElems.findIdx_arr]
    have:=WideElems.findIdx_born (l:=(d.push ⟨enc x,z,c⟩).toList) (j:=d.size) (e0:=⟨enc x,z,c⟩) (by
     simp only[Array.toList_push,map_append,map_cons,map_nil]
     refine nodup_append.2 ⟨((MapKept.stamped_iff d c).1 n).2.1,by simp,fun a L X M Y=>?_⟩
     simp only[mem_singleton] at M
     obtain⟨W,R,rfl⟩:=mem_map.1 L
     have:=((MapKept.stamped_iff d c).1 n).1 W R
     omega) (by simp)
    exact this
   have B:(d.push ⟨enc x,z,c⟩).modify d.size (fun e=>{e with val:=V y})=d.push ⟨enc x,V y,c⟩:=by
    apply Array.ext'
    rw[Array.toList_modify,Array.toList_push,Array.toList_push,<-Array.length_toList,WideElems.modify_last]
   simp[Instr.entryStore,MapKept.run_getObj_map q,asInt,asIntOf,v,B,MapKept.run_setObj_map _ q,Result.andThen]
  ·rw[lU y G]
   simp[A]
 ·obtain⟨y0,S,Q,_,J⟩:=(fJ K.inj A (x:=x)).2 j e0 h2 h3 n.2.2
  have F:d[j]?=some e0:=by simpa using h2
  have O:d.modify j (fun e=>{e with key:=enc x})=d:=by
   apply Array.ext'
   rw[Array.toList_modify,ChangeMaps.modify_eq_set _ _ _ _ h2]
   have:({e0 with key:=enc x}:MapEntry)=e0:=by rw[<-h3]
   rw[this]
   exact WideElems.set_self _ _ _ h2
  rw[S]
  refine⟨e0.born,.map d c,?_,Kp.set w p rfl rfl,p.set _,⟨_,_,rfl⟩,fun r y g=>⟨.map (d.modify j fun e=>{e with key:=enc x,val:=V y}) c,?_,⟨_,_,g.set _,MapKept.stamped_modify n _ _ (fun _ _=>rfl) (fun C _ D=>?_),?_⟩,Kp.set r g rfl rfl⟩⟩
  ·simp[Instr.mapEntry,run_underlying u.eq,MapKept.run_getObj_map s,K.law.check w _ t,h1,F,h3,K.law.stays w t,O,Q,MapKept.run_setObj_map _ s,Result.andThen,goInt]
  ·have q:r.heap[b]?=some (.map d c):=g
   have v:d.findIdx? (fun e=>((e.born:Nat):Int)==((e0.born:Nat):Int))=some j:=by
    rw[WideElems.findIdx_arr]
    exact WideElems.findIdx_born ((MapKept.stamped_iff d c).1 n).2.1 h2
   have B:d.modify j (fun e=>{e with val:=V y})=d.modify j (fun C=>{C with key:=enc x,val:=V y}):=by
    apply Array.ext'
    rw[Array.toList_modify,Array.toList_modify,ChangeMaps.modify_eq_set _ _ _ _ h2,ChangeMaps.modify_eq_set _ _ _ _ h2,<-h3]
   simp[Instr.entryStore,MapKept.run_getObj_map q,asInt,asIntOf,v,B,MapKept.run_setObj_map _ q,Result.andThen]
  ·rw[F] at D
   cases D
   exact h3.symm
  ·rw[Array.toList_modify,ChangeMaps.modify_eq_set _ _ _ _ h2]
   exact J y
variable {n:Nat} {Q:Exit->Act->World->Prop} {L:Env} {ops rest:List Oper} {ty:TypeId} {pos:String} {af:Array Edge} {g:Option (Nat×Bool)}
theorem SG.mapEntry[DecidableEq κ]{d:Nat}[u:Ut P T (.map k E)][f:dJ P E i]{kx:κ}(y:Nat.blt d n=true)
  (C:want ops L ⟨some d,.mapEntry T a x,ty,pos,af,g⟩=some true) (A:(known L a&&known L x)=true) (v:bH L a= .map (some b)) (D:bH L x=enc kx) (B:aF w b enc V m) (K:da P k enc) (F:i.zero=some z)
  (h:∀e c j,Kp [b] w j->aG j b c->(∃o l,c= .map o l)->Jo P T b e c enc V m kx->SG P n ops Q rest ((d,.tuple #[(aC m kx).elim z V,.int .i64 e])::L) j):SG P n ops Q (⟨some d,.mapEntry T a x,ty,pos,af,g⟩::rest) L w:=by
 refine SG.op (by simpa using y) rfl C (by simpa[Op.operands] using A) ?_
 unfold bD
 obtain⟨e,c,p,q,r,t,s⟩:=uk (P:=P) (u:=u) (f:=f) F B K kx
 have:(execOp (bH L) ⟨some d,.mapEntry T a x,ty,pos,af,g⟩).run P w= .ok (.value (.tuple #[(aC m kx).elim z V,.int .i64 e])) {w with heap:=w.heap.setIfInBounds b c}:=by
  simp only[execOp,v,D,Sem.run_bind,p,Result.andThen,Sem.run_pure]
 rw[this]
 exact h e c _ q r t s
theorem SG.entryStore[DecidableEq κ]{s:Operand}{kx:κ}{vy:ν}{c:Int}{o':Obj}
  (q:want ops L ⟨none,.entryStore T a s x,ty,pos,af,g⟩=some true) (o:(known L a&&(known L s&&known L x))=true) (j:bH L a= .map (some b)) (p:bH L s= .int .i64 c) (r:bH L x=V vy) (l:Jo P T b c o' enc V m kx) (i:aG w b o')
  (h:∀w',Kp [b] w w'->aF w' b enc V (ca m kx vy)->SG P n ops Q rest L w'):SG P n ops Q (⟨none,.entryStore T a s x,ty,pos,af,g⟩::rest) L w:=by
 refine SG.op rfl rfl q (by simpa[Op.operands] using o) ?_
 unfold bD
 obtain⟨t,d,e,f⟩:=l w vy i
 have:(execOp (bH L) ⟨none,.entryStore T a s x,ty,pos,af,g⟩).run P w= .ok .skip {w with heap:=w.heap.setIfInBounds b t}:=by
  simp only[execOp,j,p,r,Sem.run_bind,d,Result.andThen,Sem.run_pure]
 rw[this]
 exact h _ f e
end
end
section
open Go.Proofs Go.Shelf
def zZ:Go.Shelf.Ren:=⟨fun|6=>195|15=>114|14=>199|28=>156|29=>157|20=>201|21=>202|22=>203|23=>204|24=>205|25=>206|26=>207|27=>208|46=>210|47=>175|48=>176|49=>211|50=>212|57=>217|n=>n,fun|22=>245|24=>3|25=>302|3=>3|39=>208|0=>0|53=>259|55=>183|4=>4|46=>253|45=>252|50=>90|5=>5|9=>9|66=>273|70=>277|76=>298|77=>299|n=>n,fun n=>n⟩
theorem J6:SlLaysF0.n6 prog zZ where
 mixed:=by kernel_rfl
 f6:=⟨"slices.SortFunc[[]int,int]",by decide,func195.trans (congrArg some (by kernel_rfl))⟩
 f14:=⟨"slices.pdqsortCmpFunc[int]",by decide,func199.trans (congrArg some (by kernel_rfl))⟩
 f15:=func114.trans (congrArg some (by kernel_rfl))
 f20:=⟨"slices.insertionSortCmpFunc[int]",by decide,func201.trans (congrArg some (by kernel_rfl))⟩
 f21:=⟨"slices.heapSortCmpFunc[int]",by decide,func202.trans (congrArg some (by kernel_rfl))⟩
 f22:=⟨"slices.breakPatternsCmpFunc[int]",by decide,func203.trans (congrArg some (by kernel_rfl))⟩
 f23:=⟨"slices.choosePivotCmpFunc[int]",by decide,func204.trans (congrArg some (by kernel_rfl))⟩
 f24:=⟨"slices.reverseRangeCmpFunc[int]",by decide,func205.trans (congrArg some (by kernel_rfl))⟩
 f25:=⟨"slices.partialInsertionSortCmpFunc[int]",by decide,func206.trans (congrArg some (by kernel_rfl))⟩
 f26:=⟨"slices.partitionEqualCmpFunc[int]",by decide,func207.trans (congrArg some (by kernel_rfl))⟩
 f27:=⟨"slices.partitionCmpFunc[int]",by decide,func208.trans (congrArg some (by kernel_rfl))⟩
 f28:=func156.trans (congrArg some (by kernel_rfl))
 f29:=func157.trans (congrArg some (by kernel_rfl))
 f46:=⟨"slices.siftDownCmpFunc[int]",by decide,func210.trans (congrArg some (by kernel_rfl))⟩
 f47:=func175.trans (congrArg some (by kernel_rfl))
 f48:=func176.trans (congrArg some (by kernel_rfl))
 f49:=⟨"slices.medianAdjacentCmpFunc[int]",by decide,func211.trans (congrArg some (by kernel_rfl))⟩
 f50:=⟨"slices.medianCmpFunc[int]",by decide,func212.trans (congrArg some (by kernel_rfl))⟩
 f57:=⟨"slices.order2CmpFunc[int]",by decide,func217.trans (congrArg some (by kernel_rfl))⟩
 t0:=underlying0
 a0:=isAgg0
 z0:=sizeOf0
 v0:=zeroValue0
 t3:=underlying3
 a3:=isAgg3
 z3:=sizeOf3
 v3:=zeroValue3
 t4:=underlying4
 a4:=isAgg4
 z4:=sizeOf4
 v4:=zeroValue4
 t5:=underlying5
 a5:=isAgg5
 z5:=sizeOf5
 v5:=zeroValue5
 t9:=underlying9
 a9:=isAgg9
 z9:=sizeOf9
 v9:=zeroValue9
 t22:=underlying245
 a22:=isAgg245
 z22:=sizeOf245
 v22:=zeroValue245
 t25:=underlying302
 a25:=isAgg302
 z25:=sizeOf302
 v25:=zeroValue302
 t39:=underlying208
 a39:=isAgg208
 z39:=sizeOf208
 v39:=zeroValue208
 t45:=underlying252
 a45:=isAgg252
 z45:=sizeOf252
 v45:=zeroValue252
 t46:=underlying253
 a46:=isAgg253
 z46:=sizeOf253
 v46:=zeroValue253
 t50:=underlying90
 a50:=isAgg90
 z50:=sizeOf90
 v50:=zeroValue90
 t53:=underlying259
 a53:=isAgg259
 z53:=sizeOf259
 v53:=zeroValue259
 t55:=underlying183
 a55:=isAgg183
 z55:=sizeOf183
 v55:=zeroValue183
 t66:=underlying273
 a66:=isAgg273
 z66:=sizeOf273
 v66:=zeroValue273
 t70:=underlying277
 a70:=isAgg277
 z70:=sizeOf277
 v70:=zeroValue277
 t76:=underlying298
 a76:=isAgg298
 z76:=sizeOf298
 v76:=zeroValue298
 t77:=underlying299
 a77:=isAgg299
 z77:=sizeOf299
 v77:=zeroValue299
end
section
variable{w:World}
open Go.Proofs Go.Shelf Go.Sort
theorem Kp.grown{a:World}(h:Kp [] w a):∃q m,a=grow (w.drewN q) m:=by
 refine⟨a.drawn-w.drawn,a.heap.extract w.heap.size a.heap.size,?_⟩
 obtain⟨p,g,j,k,l,s,r⟩:=h
 obtain⟨b,y,e,u,v⟩:=w
 obtain⟨c,z,f,m,x⟩:=a
 simp only at p g j k l r
 subst j
 subst k
 subst l
 have n:c=b++c.extract b.size c.size:=by
  apply Array.ext_getElem?
  intro i
  rw[Array.getElem?_append]
  by_cases d:i<b.size
  ·rw[if_pos d]
   exact g i d (by simp)
  ·rw[if_neg d,Array.getElem?_extract]
   by_cases t:i<c.size
   ·rw[if_pos (by omega),show b.size+(i-b.size)=i by omega]
   ·rw[if_neg (by omega),Array.getElem?_eq_none (by omega)]
 have o:f=e+(f-e):=by omega
 simp only[grow,World.drewN,World.mk.injEq,true_and,and_true]
 exact⟨n,o⟩
theorem Kp.grow(w:World)(c:Array Obj):Kp [] w (grow w c):=by
 refine⟨by simp,fun b e _=>?_,rfl,rfl,rfl,fun a d=>?_,Nat.le_refl _⟩
 ·show(w.heap++c)[b]?=_
  rw[Array.getElem?_append,if_pos e]
 ·refine jn ?_
  show(w.heap++c)[a.block]?=_
  rw[Array.getElem?_append,if_pos d]
theorem Kp.ahead(w:World)(n:Nat):Kp [] w (Go.Sort.ahead w n):=⟨Nat.le_refl _,fun _ _ _=>rfl,rfl,rfl,rfl,fun _ _=>rfl,Nat.le_add_right _ _⟩
theorem oh{g:Nat}{cs:Array Value}{T:TypeId}{a:Nat×Nat}(h:aG w g (.cells cs T a))(f:Array Value->Array Value):mapBlock w g f={w with heap:=w.heap.setIfInBounds g (.cells (f cs) T a)}:=by
 unfold mapBlock
 congr 1
 apply Array.ext_getElem?
 intro i
 rw[Array.getElem?_modify,Array.getElem?_setIfInBounds]
 by_cases e:g=i
 ·subst e
  rw[if_pos rfl,if_pos rfl,if_pos h.lt]
  have b:w.heap[g]?=some (.cells cs T a):=h
  rw[b]
  rfl
 ·rw[if_neg e,if_neg e]
section
variable {α:Type} [Inhabited α] {enc:α->List Value} {k:Nat}
theorem GL(f:0<k)(a:∀x,(enc x).length=k):∀(l:List α) (t:Nat),t<l.length*k->(bX enc l)[t]?=some ((enc l.toArray[t/k]!)[t%k]!):=by
 intro l
 induction l with
 |nil=>intro t h;simp at h
 |cons x l g=>
  intro t h
  have e:bX enc (x::l)=enc x++bX enc l:=by simp[bX]
  rw[e]
  by_cases b:t<k
  ·rw[getElem?_append_left (by rw[a];exact b),Nat.div_eq_of_lt b,Nat.mod_eq_of_lt b]
   have:t<(enc x).length:=by rw[a];exact b
   simp[this]
  ·rw[getElem?_append_right (by rw[a];omega),a]
   have d:t-k<l.length*k:=by
    simp only[length_cons,Nat.add_mul,Nat.one_mul] at h
    omega
   rw[g (t-k) d]
   have d1:t/k=(t-k)/k+1:=by
    rw[Nat.div_eq_sub_div f (by omega)]
   have c:t%k=(t-k)%k:=by rw[Nat.mod_eq_sub_mod (by omega)]
   rw[d1,c]
   simp
end
end
section
open Go.Proofs Go.Shelf Go.Sort
section
variable {α:Type} [Inhabited α] {enc:α->List Value} {k:Nat}
end
end
section
open Go.Proofs Go.Shelf Go.Sort
theorem lM{a:Type}(e:a->Value):∀l:List a,bX (fun x=>[e x]) l=l.map e
 |[]=>rfl
 |x::l=>by
  have:=lM e l
  simp only[bX,flatMap_cons,map_cons] at*
  rw[this]
  rfl
section
variable {α:Type} [Inhabited α] {e:α->Value}
theorem A7{P:Program}{ρ:Ren}(L:SlLaysF.n6 P ρ)(al:∀x,kY (e x)=true)
  (cf:α->α->Int) (Y:SWO (ltOf cf)) (g:Nat) (R:∀H w,(callFunc g H).run P w= .ok (.enter g H) w)
  (cb:List Value) {w:World} {base:Nat} {T:TypeId} {v:Value} {l:List α} (M:w.ownsRow base T 1 v l.length (bX (fun x=>[e x]) l)) (an:l.length<4611686018427387904)
  (ad:∀x y W,Kp (aR v) w W->Calls P g (#[e x,e y]++cb.toArray) W (fun C h=>C= .returned (.int .i64 (cf x y))/\Kp [] W h)):
  Calls P (ρ.f 6) #[v,lf g cb] w (fun C h=>C= .returned (.tuple #[])/\Kp (aR v) w h/\∃G,G.Perm l/\G.Pairwise (fun x y=>ltOf cf y x=false)/\h.ownsRow base T 1 v l.length (bX (fun x=>[e x]) G)):=by
 have U:OneCell e:=fun x=>by rw[qu];exact al x
 have ak:=M
 obtain⟨aq,⟨rfl,S⟩|⟨b,B,c,rfl,Z,q,aa,ab,J,D⟩⟩:=M
 ·have hl:l=[]:=by cases l with
   |nil=>rfl
   |cons x l=>simp at S
  subst hl
  exact(AnyF.slices_SortFunc_none (P:=P) (ρ:=ρ) {L with} none 0 _ w).mono (fun e h ⟨p,A⟩=>⟨p,by rw[A];exact Kp.refl _ _,[],Perm.refl _,Pairwise.nil,by rw[A];exact ak⟩)
 have V:aG w b (.cells c T (0,0)):=q
 rw[lM] at D
 rw[Nat.mul_one] at J D
 have ae:∀t (s:t<l.length),c[t]?=some (e l[t]):=fun t s=>by
  have:=congrArg (fun x=>x[t]?) D
  simp only[getElem?_map,getElem?_eq_getElem s,Option.map_some] at this
  rw[<-this,getElem?_take_of_lt s,Array.getElem?_toList]
 have X:Holds e w b 0 l.toArray:=fun j r=>by
  have ah:j<l.length:=by simpa using r
  refine⟨?_,ia (o:= .cells c T (0,0)) q rfl⟩
  unfold World.cell?
  simp only[q,Nat.zero_add]
  rw[getElem!_pos l.toArray j r]
  simpa using ae j ah
 have ai:∀(m:Nat) (u:Array Obj) (d:Array α),Kp [b] w (sortWorld e w b 0 m d u):=fun m u d=>by
  have k:aG (Go.Sort.ahead w m) b (.cells c T (0,0)):=q
  have z:putRow e (Go.Sort.ahead w m) b 0 d={Go.Sort.ahead w m with heap:=(Go.Sort.ahead w m).heap.setIfInBounds b (.cells (putCells e 0 d c) T (0,0))}:=oh k _
  have E:Kp [b] (Go.Sort.ahead w m) (putRow e (Go.Sort.ahead w m) b 0 d):=by
   rw[z]
   exact Kp.set _ k rfl rfl
  exact((Kp.ahead w m).any.trans E).trans (Kp.grow _ _).any
 have ac:CmpLays1 P g cb.toArray e cf b 0 l.toArray.size w:=fun m u d ap x y=>(ad x y _ (ai m u d)).mono (fun e h ⟨p,A⟩=>⟨p,A.grown⟩)
 have hc:=Any.slices_SortFunc L e U cf Y g cb.toArray b 0 B l.toArray w R ac X V.lt (by simpa using an)
 refine(show Calls P (ρ.f 6) #[.slice (some ⟨b,0,none⟩) l.length B,lf g cb] w _ from hc).mono (fun I h af=>?_)
 obtain⟨p,a,n,u,⟨N,ar,O⟩,hs,rfl⟩:=af
 have K:a.size=l.length:=by simpa using N
 have am:a.toList.Perm l:=by
  have Q:(a.extract 0 l.toArray.size).toList=a.toList:=by
   have:l.toArray.size=a.size:=N.symm
   rw[this]
   simp
  have I:(l.toArray.extract 0 l.toArray.size).toList=l:=by simp
  rw[Q,I] at O
  exact O
 have k:aG (Go.Sort.ahead w n) b (.cells c T (0,0)):=q
 have z:putRow e (Go.Sort.ahead w n) b 0 a={Go.Sort.ahead w n with heap:=(Go.Sort.ahead w n).heap.setIfInBounds b (.cells (putCells e 0 a c) T (0,0))}:=oh k _
 have E:Kp [b] (Go.Sort.ahead w n) (putRow e (Go.Sort.ahead w n) b 0 a):=by
  rw[z]
  exact Kp.set _ k rfl rfl
 refine⟨p,?_,a.toList,am,?_,?_⟩
 ·show Kp [b] w _
  exact((Kp.ahead w n).any.trans E).trans (Kp.grow _ _).any
 ·rw[pairwise_iff_getElem]
  intro i j hi r ag
  have:=hs i j (Nat.zero_le _) ag (by simp at r⊢;omega)
  rw[getElem!_pos a i (by simpa using hi),getElem!_pos a j (by simpa using r)] at this
  simpa using this
 ·have aj:a.toList.length=l.length:=by simpa using K
  refine⟨by rw[cD (sz:=1) (fun _=>rfl),aj],Or.inr ⟨b,B,putCells e 0 a c,rfl,Z,?_,aa,ab,by simp[putCells,J],?_⟩⟩
  ·have:aG (putRow e (Go.Sort.ahead w n) b 0 a) b (.cells (putCells e 0 a c) T (0,0)):=by
    rw[z]
    show((Go.Sort.ahead w n).heap.setIfInBounds b _)[b]?=_
    rw[Array.getElem?_setIfInBounds,if_pos rfl,if_pos k.lt]
   exact this.az (Kp.grow _ _)
  ·rw[lM,Nat.mul_one]
   apply ext_getElem?
   intro t
   by_cases s:t<l.length
   ·have ao:t<c.size:=by omega
    have F:t<a.size:=by omega
    rw[getElem?_take_of_lt s,Array.getElem?_toList,getElem?_map,Array.getElem?_toList]
    simp only[putCells,Array.getElem?_mapIdx,Array.getElem?_eq_getElem ao,Option.map_some,Nat.zero_le,true_and,Nat.zero_add,Nat.sub_zero]
    rw[if_pos F,getElem!_pos a t F,Array.getElem?_eq_getElem F]
    rfl
   ·rw[getElem?_eq_none (by simp;omega),getElem?_eq_none (by simp[K];omega)]
end
end
section
open Go.Proofs Go.Shelf Go.Sort
theorem FY{c:Type}(cf:c->c->Int)(key:c->Nat)(h:∀x y,cf x y<0↔key x<key y):SWO (ltOf cf) where
 irrefl x:=decide_eq_false (by rw[h];omega)
 trans x y z a b:=by
  have a:=of_decide_eq_true a
  have b:=of_decide_eq_true b
  rw[h] at a b
  exact decide_eq_true (by rw[h];omega)
 ntrans x y z a b:=by
  have a:=of_decide_eq_false a
  have b:=of_decide_eq_false b
  rw[h] at a b
  exact decide_eq_false (by rw[h];omega)
def KM{α:Type}(key:α->Nat)(x:α):List α->List α
 |[]=>[x]
 |y::r=>if key y<=key x then y::KM key x r else x::y::r
def Sh{α:Type}(key:α->Nat)(l:List α):List α:=l.foldl (fun acc x=>KM key x acc) []
end
section
variable{C:Dg->List Nat}{room:Int}{ms:List Em}{xs:List Value}{b b1 base n p r sz:Nat}{κ ν:Type}{T:TypeId}{v:Value}{w w':World}
open Go.Proofs Go.Shelf Go.Sort
abbrev nI(j:Nat):List Value:=[.int .i64 (j:Int)]
theorem j0(j:Nat):(nI j).length=1:=rfl
theorem DR(j:Nat):bI (nI j)=true:=rfl
def pK(ms:List Em)(j:Nat):Dg:=(ms[j]?).elim zd (fun e=>e.x.t.frm)
def pN(ms:List Em)(j:Nat):Int:=(ms[j]?).elim 0 (fun e=>e.x.t.non)
def pF(ms:List Em)(j:Nat):Int:=(ms[j]?).elim 0 (fun e=>e.x.t.fee)
section
variable {ms:List Em} {j:Nat}
theorem DF(h:j<ms.length):pK ms j=ms[j].x.t.frm:=by unfold pK;rw[getElem?_eq_getElem h];rfl
theorem wk(h:j<ms.length):pN ms j=ms[j].x.t.non:=by unfold pN;rw[getElem?_eq_getElem h];rfl
theorem DG(h:j<ms.length):pF ms j=ms[j].x.t.fee:=by unfold pF;rw[getElem?_eq_getElem h];rfl
end
def cN(K:Nat->Dg)(i:Nat)(k:Dg):List Nat:=(range i).filter (fun j=>decide (K j=k))
theorem uQ(K:Nat->Dg)(i:Nat)(k:Dg):cN K (i+1) k=if K i=k then cN K i k++[i] else cN K i k:=by
 unfold cN
 rw[range_succ,filter_append]
 by_cases h:K i=k
 ·rw[if_pos h,filter_cons_of_pos (by simpa using h)]
  rfl
 ·rw[if_neg h,filter_cons_of_neg (by simpa using h)]
  simp
theorem jw{K:Nat->Dg}{i j:Nat}{k:Dg}:j∈cN K i k↔j<i/\K j=k:=by simp[cN]
theorem EU(K:Nat->Dg)(i:Nat)(k:Dg):(cN K i k).length<=i:=by
 have:=length_filter_le (fun j=>decide (K j=k)) (range i)
 rw[length_range] at this
 exact this
theorem ET(K:Nat->Dg)(i:Nat)(k:Dg):(cN K i k).Nodup:=nodup_range.sublist filter_sublist
structure Kr(w:World)(base:Nat)(m:List (Dg×Value))(C:Dg->List Nat):Prop where
 rows:∀k v,aC m k=some v->w.ownsRow base 3 1 v (C k).length (bX nI (C k))
 sep:∀k k' v v',aC m k=some v->aC m k'=some v'->k≠k'->∀b,v.ownBlock=some b->v'.ownBlock≠some b
theorem Kr.kp{m:List (Dg×Value)}{S:List Nat}(h:Kr w base m C)(l:Kp S w w')(j:∀b∈S,(∀T i f,T=3->w.heap[b]?≠some (.cells i T f))\/b<base):Kr w' base m C:=
 ⟨fun k v e=>cr (h.rows k v e) l (fun b a n=>by
  have d:=h.rows k v e
  rcases j b n with c|c
  ·rcases d.2 with⟨rfl,_⟩|⟨g,cap,cur,rfl,_,hg,_⟩
   ·cases a
   ·cases a
    exact c _ _ _ rfl hg
  ·have:=cj d b a
   omega),h.sep⟩
theorem Kr.az{m:List (Dg×Value)}(h:Kr w base m C)(c:Kp [] w w'):Kr w' base m C:=h.kp c (fun b a=>(by cases a))
theorem Ak{z:Nat}{o:Obj}(h:w.ownsRow base T sz v n xs)(c:aG w z o)(e:∀b T f,o≠.cells b T f):z∉aR v:=fun d=>by
 have a:=aL d
 rcases h.2 with⟨rfl,_⟩|⟨g,cap,cur,rfl,_,hg,_⟩
 ·cases a
 ·cases a
  exact e _ _ _ (c.uniq hg)
theorem aF.yL{enc:κ->Value}{V:ν->Value}{m:List (κ×ν)}(h:aF w b enc V m)(d:w.ownsRow base T sz v n xs):b∉aR v:=by
 obtain⟨f,c,a,_⟩:=h
 exact Ak d a (fun _ _ _ e=>by cases e)
theorem aQ.yL{enc:κ->Value}{V:ν->Value}{m left:List (κ×ν)}{a:Option (κ×ν)}(h:aQ w r b enc V m left a)(f:w.ownsRow base T sz v n xs):r∉aR v:=by
 obtain⟨g,c,l,i,j,k,d,_⟩:=h
 exact Ak f d (fun _ _ _ e=>by cases e)
theorem aF.DN{enc:κ->Value}{V:ν->Value}{m:List (κ×ν)}(h:aF w b enc V m):∀T a f,T=3->w.heap[b]?≠some (.cells a T f):=by
 obtain⟨g,c,d,_⟩:=h
 intro T a f _ e
 have:=d.uniq e
 cases this
theorem aF.BB{enc:κ->Value}{V:ν->Value}{m:List (κ×ν)}(h:aF w b enc V m)(g:n<=b):dD n w [b]:=fun z a=>by
 rw[mem_singleton] at a
 subst a
 refine⟨g,?_⟩
 obtain⟨j,c,d,_⟩:=h
 intro i f e
 have:=d.uniq e
 cases this
theorem aG.DN{es:Array MapEntry}{c:Nat}(d:aG w b (.map es c)):∀T a f,T=3->w.heap[b]?≠some (.cells a T f):=fun T a f _ e=>by
 have:=d.uniq e
 cases this
theorem Kr.mono{a:Nat}{m:List (Dg×Value)}(h:Kr w base m C)(b:a<=base):Kr w a m C:=⟨fun k v c=>c9 (h.rows k v c) b,h.sep⟩
theorem aQ.DN{enc:κ->Value}{V:ν->Value}{m left:List (κ×ν)}{d:Option (κ×ν)}(h:aQ w r b enc V m left d):∀T a f,T=3->w.heap[r]?≠some (.cells a T f):=by
 obtain⟨i,c,n,j,k,l,g,_⟩:=h
 intro T a f _ e
 have:=g.uniq e
 cases this
theorem H7:SlLaysF.n6 prog zZ:={J6 with a24:=isAgg3,z24:=sizeOf3}
theorem RH(n:Int)(w:World):(Instr.buildSlice 245 1 #[(0,.int .i64 n)]).run prog w= .ok (.slice (some ⟨w.heap.size,0,none⟩) 1 1) {w with heap:=w.heap.push (.cells #[.int .i64 n] 3)}:=by kernel_rfl
structure Nb(ms:List Em):Prop where
 n0:∀j,0<=pN ms j
 n1:∀j,pN ms j<=1099511627776
 f0:∀j,0<=pF ms j
 f1:∀j,pF ms j<=1125899906842624
theorem uc{t:Tx}(h:bu t=0):FE t:=by
 unfold bu at h
 by_cases a:FE t
 ·exact a
 ·rw[if_neg a] at h
  cases h
theorem df.nb(h:df room (ms.map Em.en)):Nb ms:=by
 have c:∀j (a:j<ms.length),FE ms[j].x.t:=fun j a=>uc (h.ok _ (mem_map.2 ⟨ms[j],getElem_mem a,rfl⟩))
 have b:∀j,0<=pN ms j/\pN ms j<=1099511627776/\0<=pF ms j/\pF ms j<=1125899906842624:=fun j=>by
  by_cases a:j<ms.length
  ·have:=c j a
   rw[wk a,DG a]
   exact⟨this.n0,this.n1,this.f0,this.f1⟩
  ·unfold pN pF
   rw[getElem?_eq_none (by omega)]
   simp only[Option.elim]
   omega
 exact⟨fun j=>(b j).1,fun j=>(b j).2.1,fun j=>(b j).2.2.1,fun j=>(b j).2.2.2⟩
attribute [local irreducible] CG NG SG aP aM Row aG aF aQ aJ bu
theorem zE(d:Pl w base p v room ms)(t:Row w b1 0 [.pointer (some ⟨p,0,none⟩)])(b:Nb ms){x y:Nat}(f:x<ms.length)(h:y<ms.length):
  dq prog 196 #[.int .i64 (x:Int),.int .i64 (y:Int),.pointer (some ⟨b1,0,none⟩)] w (.int .i64 (pN ms x-pN ms y)):=by
 refine fC (args:=[.int .i64 (x:Int),.int .i64 (y:Int),.pointer (some ⟨b1,0,none⟩)]) func196 rfl ntmps196 rfl ?_
 obtain⟨a,c,rfl,u,e⟩:=d.sl
 obtain⟨-,z⟩:=d.rows
 obtain⟨g,s,rfl,q⟩:=e.at f
 have r:Row w g (s+y*22) (ec ms[y]):=e.row (getElem?_eq_getElem h)
 obtain⟨-,-,A,-⟩:=eO q
 obtain⟨-,-,B,-⟩:=eO r
 have m:=wk f
 have n:=wk h
 have i:=b.n0 x
 have j:=b.n1 x
 have k:=b.n0 y
 have l:=b.n1 y
 rw[m] at i j⊢
 rw[n] at k l⊢
 repeat (first|apply ar|refine wt ?_)
 refine CG.tail mixed 18 [0,1,2,3,4,5,6,7,8,9,10,11,12,13,14,15,16,17] (by kernel_rfl) ?_
 repeat (apply bW;rfl;rfl;(first|apply aB|apply aZ|apply aU|apply bR|apply fa)<;>first|rfl|exact zc|assumption|exact wn)
 refine aM.tl (fun C o _ _=>?_)
 repeat (first|apply ar|(apply au;rfl;(first|apply aE|apply td)<;>first|rfl|exact zc))
 refine aO (Or.inl rfl) results196 (aD.tmp rfl) ?_
 exact⟨rfl,o⟩
theorem yu{d:Nat}{i:Value}{l:List Nat}(t:Pl w d p i room ms)(r:Row w b1 0 [.pointer (some ⟨p,0,none⟩)])(g:Nb ms)(n:w.ownsRow base 3 1 v l.length (bX nI l))(E:∀j∈l,j<ms.length)(F:0<ms.length)(K:l.length<=1000000)
  (z:d<=base) (u:b1∉aR v) (A:p∉aR v) (B:∀b,i.ownBlock=some b->b∉aR v):
  Calls prog 195 #[v,lf 196 [.pointer (some ⟨b1,0,none⟩)]] w (fun e k=>e= .returned (.tuple #[])/\Kp (aR v) w k/\∃a,a.Perm l/\a.Pairwise (fun x y=>pN ms x<=pN ms y)/\k.ownsRow base 3 1 v a.length (bX nI a)):=by
 haveI:Inhabited (_root_.Fin ms.length):=⟨⟨0,F⟩⟩
 obtain⟨L,f⟩:∃L:List (_root_.Fin ms.length),L.map (fun x=>x.1)=l:=⟨l.pmap (fun j h=>(⟨j,h⟩:_root_.Fin ms.length)) E,by rw[map_pmap];simp⟩
 have m:∀M:List (_root_.Fin ms.length),bX (fun x:_root_.Fin ms.length=>[Value.int .i64 (x.1:Int)]) M=bX nI (M.map (fun x=>x.1)):=fun M=>by
  rw[lM (fun x:_root_.Fin ms.length=>Value.int .i64 (x.1:Int)),show bX nI=bX (fun j:Nat=>[Value.int .i64 (j:Int)]) from rfl,lM (fun j:Nat=>Value.int .i64 (j:Int)),map_map]
  rfl
 have s:L.length=l.length:=by rw[<-f,length_map]
 have G:w.ownsRow base 3 1 v L.length (bX (fun x:_root_.Fin ms.length=>[Value.int .i64 (x.1:Int)]) L):=by
  rw[m,f,s]
  exact n
 refine(A7 H7 (fun _=>rfl) (fun x y:_root_.Fin ms.length=>pN ms x.1-pN ms y.1) (FY _ (fun x=>(pN ms x.1).toNat) (fun x y=>by have:=g.n0 x.1;have:=g.n0 y.1;omega)) 196 (fun q w=>fn.i196.run w q) [.pointer (some ⟨b1,0,none⟩)] G (by omega) (fun x y W c=>?_)).mono (fun e k D=>?_)
 ·refine zE (base:=d) (v:=i) (room:=room) (t.kp c A B (dD.own n z (by decide))) (r.kp c u) g x.2 y.2
 ·obtain⟨C,c,a,o,I,H⟩:=D
  refine⟨C,c,a.map (fun x=>x.1),?_,?_,?_⟩
  ·rw[<-f]
   exact o.map _
  ·rw[pairwise_map]
   refine I.imp (fun{x y} h=>?_)
   have J:¬(pN ms y.1-pN ms x.1<0):=of_decide_eq_false h
   omega
  ·rw[<-m,length_map,o.length_eq]
   exact H
end
end Go.Proofs.YtpnjgjddabeapaaGreatDoor
