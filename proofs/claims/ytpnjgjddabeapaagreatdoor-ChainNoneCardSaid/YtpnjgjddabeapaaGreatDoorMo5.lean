/-
  ChainNone answers true for every input, and leaves its arguments as they were. The card; no conditions.
-/
import Derived.Test.YtpnjgjddabeapaaGreatDoorMo4
namespace Go.Proofs.YtpnjgjddabeapaaGreatDoor
set_option linter.all false
set_option maxHeartbeats 400000000
open Go.RowKit
section
section
variable {P:Program} {n:Nat} {Q:Exit→Act→World→Prop} {L:Env} {w:World}
theorem BJ{F:Fence}{m:Nat}(hF:Wf F){o:Oper}(hd:dV o.op=false){a:Act}{w:World}{K:Act→World→Prop}(h:o.wp P a w K Q):o.wpIn F m P a w K Q:=by
 refine⟨fun f _=>hF.fn f,?_⟩
 rw[Oper.semAt_eq _ _ _ (gp hd)]
 unfold Oper.wp at h
 generalize (execOp a.eval o).run P w=r at*
 cases r with
 |ok x w'=>
  cases x<;>simp only[Oper.upon,Oper.uponIn] at h⊢<;>try exact h.elim
  case value v=>exact h
  case skip=>exact h
  case defer d=>exact h
  case enter f args=>exact⟨fun hh=>absurd hh hF.depth,hF.calls h⟩
  case row row args=>exact⟨fun hh=>absurd hh hF.depth,hF.rows h⟩
 |halt x w'=>cases x<;>exact h
theorem oP{F:Fence}{m:Nat}(hF:Wf F)(hQ:¬LetsOut Q){md:Region.Mode}{ops:Array Oper}(hd:∀(i:Nat) (o:Oper),ops[i]?=some o→dV o.op=false):∀(fuel:Nat) (listed:Array Bool) (a:Act) (w:World),wpAny P md ops Q fuel listed a w→wpAnyIn F m P md ops Q fuel listed a w
 |0,_,_,_,h=>h
 |fuel+1,listed,a,w,h=>⟨h.1,fun i hi=>by
  have h1:=wpOp_mono (K':=wpAnyIn F m P md ops Q fuel (listed.setIfInBounds i true)) (fun a w=>oP hF hQ hd fuel (listed.setIfInBounds i true) a w) (h.2 i hi)
  unfold wpOp at h1
  unfold wpOpIn
  cases ho:ops[i]? with
  |none=>rw[ho] at h1;exact h1
  |some o=>
   rw[ho] at h1
   simp only at h1⊢
   split
   ·rename_i hw
    rw[if_pos hw] at h1
    rcases h1 with h1|h1
    ·exact BJ hF (hd i o ho) h1
    ·exact absurd h1.2 hQ
   ·rename_i hw
    rw[if_neg hw] at h1
    exact⟨fun f _=>hF.fn f,h1⟩⟩
def nB(ds:List Deferred)(a:Act):Act:={a with defers:=a.defers++ds}
theorem xR{o:Oper}{ds:List Deferred}{a:Act}{w:World}{K:Act→World→Prop}(h:o.wp P a w (fun a' w'=>K (nB ds a') w') (fun e a' w'=>Q e (nB ds a') w')):o.wp P (nB ds a) w K Q:=by
 have he:(Act.eval (nB ds a))=Act.eval a:=rfl
 have hl:LetsOut (fun e a' w'=>Q e (nB ds a') w')→LetsOut Q:=fun⟨a,w,h⟩=>⟨_,_,h⟩
 have hp:∀{a:Act} {d:Option Nat} {v:Value},nB ds (a.put d v)=(nB ds a).put d v:=fun{a d v}=>by cases d<;>rfl
 unfold Oper.wp at*
 rw[he]
 generalize (execOp a.eval o).run P w=r at*
 cases r with
 |ok x w'=>
  cases x<;>simp only[Oper.upon,hp] at h⊢<;>try exact h.elim
  case value v=>exact h
  case skip=>exact h
  case defer d=>exact h
  case enter f args=>exact Calls.mono h (fun e w'' hh=>by cases e<;>first|exact hh|exact hl hh)
  case row row args=>exact Rows.mono h (fun v w'' hh=>hh)
 |halt x w'=>cases x<;>exact h
theorem oQ{ds:List Deferred}{md:Region.Mode}{ops:Array Oper}:∀(fuel:Nat) (listed:Array Bool) (a:Act) (w:World),wpAny P md ops (fun e a' w'=>Q e (nB ds a') w') fuel listed a w→wpAny P md ops Q fuel listed (nB ds a) w
 |0,_,_,_,h=>h
 |fuel+1,listed,a,w,h=>⟨h.1,fun i hi=>by
  have h1:=wpOp_mono (K':=fun a w=>wpAny P md ops Q fuel (listed.setIfInBounds i true) (nB ds a) w) (fun a w=>oQ fuel (listed.setIfInBounds i true) a w) (h.2 i hi)
  have hp:∀{a:Act} {d:Option Nat} {v:Value},nB ds (a.put d v)=(nB ds a).put d v:=fun{a d v}=>by cases d<;>rfl
  unfold wpOp at h1⊢
  cases ho:ops[i]? with
  |none=>rw[ho] at h1;exact h1
  |some o=>
   rw[ho] at h1
   simp only at h1⊢
   show(if Region.wanted o (yielded ops a.tmps) then _ else _)
   split
   ·rename_i hw
    rw[if_pos hw] at h1
    rcases h1 with h1|⟨h1,a',w',h2⟩
    ·exact Or.inl (xR h1)
    ·exact Or.inr ⟨h1,_,_,h2⟩
   ·rename_i hw
    rw[if_neg hw,hp] at h1
    exact h1⟩
theorem tX{b:Nat}{o:Obj}(h:Blk w b o)(o':Obj):Blk (w.putObj b o') b o':=World.putObj_heap_same h.lt
def CI(P:Program)(n l:Nat)(c:Code)(Q:Exit→Act→World→Prop)(L:Env)(w:World):Prop:=∀a,Fits n a L→c.wpIn (Fence.wide.inRound l) 0 P Q a w
theorem Bb{ops:List Oper}(hd:ops.all (fun o=> !dV o.op)=true):∀(i:Nat) (o:Oper),ops.toArray[i]?=some o→dV o.op=false:=fun i o ho=>by
 rw[List.getElem?_toArray] at ho
 have:=List.all_eq_true.1 hd o (List.mem_of_getElem? ho)
 simpa using this
theorem CI.dH{l id:Nat}{ops:List Oper}(hm:P.follows .mixedOrders=true)(hQ:¬LetsOut Q)(hd:ops.all (fun o=> !dV o.op)=true)(k:Nat)(ord gh:List Nat)(S:List Nat)(R:World→Prop)(hc:wE n ops ord gh k=true)(hR0:R w)(hRs:bU [] R)
  (h:Der P S w ops gh (kd n S w P ops Q k) ord L (fun _=>True) R):CI P n l (.region id ops.toArray true) Q L w:=fun a ha=>
 wpIn_region_any hm (oP (Wf.round l) hQ (Bb hd) _ _ _ _ (eK k ord gh S (fun _=>True) R hc ha trivial (fun _ _ _ _=>trivial) hR0 hRs h))
theorem sJ{K:Act→World→Prop}:¬LetsOut (Exit.then K (fun _ _ _=>False)):=fun h=>by
 obtain⟨a,w,h⟩:=h
 exact h
theorem me{l D id:Nat}{ops1:List Oper}{i1:Nat}{body:Code}{fn:FuncId}{t u:Nat}{a:Act}{v x:Value}{R:Ending→World→Prop}{rc:LoopState→Loop}(hrc:rc=fun st=>qy a fn #[t,u] (.region i1 ops1.toArray false) (.block id body) D st none)(ha:Fits n a L)(ht:t<n)(hu:u<n)(hl:Blk w l (.loop (rc .ready)))
  (hd1:ops1.all (fun o=> !dV o.op)=true)
  (h:SG P n ops1 (Exit.then (fun a1 w1=>∃L1,Fits n a1 L1∧Blk w1 l (.loop (rc .ready))∧∀st,Kp [l] w1 st→Blk st l (.loop (rc .busy))→
    CI P n l body (Exit.then (fun _ w2=>Blk w2 l (.loop (rc .busy))∧∀w3,Kp [l] w2 w3→Blk w3 l (.loop (rc .ready))→R (.returned (.bool true)) w3) (fun _ _ _=>False)) L1 st) (fun _ _ _=>False)) ops1 ((u,x)::(t,v)::L) w):
  YieldAt Fence.wide 0 P l #[v,x] w R:=by
 subst hrc
 refine⟨fn,_,_,_,run_yield hl rfl,roundIn_of_wpIn trivial ?_⟩
 have hfit:Fits n {tmps:=(a.tmps.setIfInBounds t v).setIfInBounds u x,defers:=[]} ((u,x)::(t,v)::L):=by
  have h2:=(ha.put t v ht).put u x hu
  exact⟨fun y z hy=>by simpa[Act.put] using h2.slot y z hy,by simpa[Act.put] using h2.size,rfl⟩
 have hz:(Array.foldl (fun tmps x=>match x with|(t,a)=>Array.setIfInBounds tmps t a) a.tmps (#[t,u].zip #[v,x]))=(a.tmps.setIfInBounds t v).setIfInBounds u x:=by simp
 show(Code.region i1 ops1.toArray false).wpIn _ _ _ _ {tmps:=Array.foldl (fun tmps x=>match x with|(t,a)=>Array.setIfInBounds tmps t a) a.tmps (#[t,u].zip #[v,x]),defers:=[]} w
 rw[hz]
 refine wpIn_mono (wpIn_region_lit (lW (Wf.round l) sJ hd1 (h _ hfit))) (fun e a1 w1 hq=>?_)
 cases e<;>try exact False.elim hq
 obtain⟨L1,hf,hl1,h2⟩:=hq
 refine⟨_,run_beginRound hl1 rfl,wpIn_block (wpIn_mono (h2 _ (Kp.set w1 hl1 rfl rfl) (World.putObj_heap_same hl1.lt) a1 hf) (fun e a2 w2 hq=>?_))⟩
 cases e<;>try exact False.elim hq
 obtain⟨hl2,hR⟩:=hq
 exact⟨_,_,run_endRound none hl2,hR _ (Kp.set w2 hl2 rfl rfl) (World.putObj_heap_same hl2.lt)⟩
theorem SY.zH{ops:List Oper}{rest:List Oper}{d:Nat}{ty:TypeId}{pos:String}{af:Array Edge}{g:Option (Nat×Bool)}{x y z:Operand}{tys:Array TypeId}{l:Nat}{v u:Value}{R:Ending→World→Prop}
  (hd:Nat.blt d n=true) (hw:want ops L ⟨some d,.call ⟨.value x,#[y,z],tys⟩,ty,pos,af,g⟩=some true) (hk:(Op.call ⟨.value x,#[y,z],tys⟩).operands.toList.all (known L)=true)
  (hx:rho L x= .func (.yield l) #[] #[]) (hy:rho L y=v) (hz:rho L z=u) (h:YieldAt Fence.wide 0 P l #[v,u] w R) (hR:∀e w',R e w'→∃u,e= .returned u∧SY P n ops Q rest ((d,u)::L) w'):SY P n ops Q (⟨some d,.call ⟨.value x,#[y,z],tys⟩,ty,pos,af,g⟩::rest) L w:=by
 obtain⟨fn,tmps,assign,body,hrun,hround⟩:=h
 refine SY.op (R:=fun u w'=>R (.returned u) w') (by simpa using hd) hw hk (fun a he K hK=>?_) (fun u w' h=>?_)
 ·refine⟨fun f _=>trivial,?_⟩
  rw[Oper.semAt_eq _ _ _ (gp rfl),←execOp_congr ⟨some d,.call ⟨.value x,#[y,z],tys⟩,ty,pos,af,g⟩ (fun cs b e=>by cases e) he]
  have:(execOp (rho L) ⟨some d,.call ⟨.value x,#[y,z],tys⟩,ty,pos,af,g⟩).run P w= .ok (.round l fn tmps assign body) w:=by
   simp only[execOp,resolve,Deferred.ofValue,invoke,Sem.run_bind,Sem.run_pure,Result.andThen_ok,List.map_toArray,List.map_cons,List.map_nil,hx,hy,hz]
   simpa using hrun
  rw[this,Oper.uponIn_round]
  refine⟨fun hh=>absurd hh Wf.wide.depth,RoundIn.mono hround (fun e w' he=>?_)⟩
  obtain⟨u,rfl,_⟩:=hR e w' he
  exact hK _ _ he
 ·obtain⟨u',e1,e2⟩:=hR _ _ h
  cases e1
  exact e2
theorem lU.app{ds:List Deferred}{a:Act}(h:Fits n a L):lU n ds (nB ds a) L:=⟨⟨h.slot,h.size,rfl⟩,by show a.defers++ds=ds;rw[h.defers];rfl⟩
theorem CD.dH{ds:List Deferred}{id:Nat}{ops:List Oper}(hm:P.follows .mixedOrders=true)(k:Nat)(ord gh:List Nat)(S:List Nat)(R:World→Prop)(hc:wE n ops ord gh k=true)(hR0:R w)(hRs:bU [] R)
  (h:Der P S w ops gh (kd n S w P ops (fun e a' w'=>Q e (nB ds a') w') k) ord L (fun _=>True) R):CD P n ds (.region id ops.toArray true) Q L w:=fun a ha=>by
 have e:a=nB ds {a with defers:=[]}:=by
  show a={a with defers:=[]++ds}
  rw[List.nil_append,←ha.defers]
 rw[e]
 exact wp_region_any hm (oQ _ _ _ _ (eK k ord gh S (fun _=>True) R hc ha.fit trivial (fun _ _ _ _=>trivial) hR0 hRs h))
theorem CD.rangeFunc{ds:List Deferred}{g:Operand}{ps:Array Tmp}{assign body:Code}{gf:FuncId}[F:Fnc P gf]{lb:Array Value}(hk:known L g=true)(hg:rho L g= .func (.func gf) #[] lb)
  (h:∀a,lU n ds a L→∀(fn:FuncId) (rc:LoopState→Loop) (W1:World),rc=(fun st=>qy a fn ps assign body w.heap.size st none)→Kp [] w W1→W1.heap.size=w.heap.size+2→Blk W1 w.heap.size (.deferred (some []))→Blk W1 (w.heap.size+1) (.loop (rc .ready))→
   Calls P gf (#[.func (.yield (w.heap.size+1)) #[] #[]]++lb) W1 (fun e w3=>(∃v,e= .returned v)∧Blk w3 (w.heap.size+1) (.loop (rc .ready))∧
    Q .normal {a with defers:={target:= .collected w.heap.size,args:= #[]}::ds} (w3.putObj (w.heap.size+1) (.loop (rc .exhausted))))):CD P n ds (.rangeFunc g ps assign body) Q L w:=by
 intro a ha
 refine(wpIn_wide (n:=0)).1 (wpIn_rangeFunc (fun fn hfn=>?_))
 have hev:a.eval g= .func (.func gf) #[] lb:=by
  have:=ha.fit.eval hk
  rw[hg] at this
  exact this
 obtain⟨W1,hW1⟩:∃W1,(w.alloc (.deferred (some []))).alloc (.loop (qy a fn ps assign body w.heap.size .ready none))=W1:=⟨_,rfl⟩
 have hk1:Kp [] w W1:=by
  rw[←hW1]
  exact(Kp.push w (.deferred (some [])) rfl).trans (Kp.push (w.alloc (.deferred (some []))) (.loop (qy a fn ps assign body w.heap.size .ready none)) rfl)
 have hs1:W1.heap.size=w.heap.size+2:=by rw[←hW1];simp
 have hD1:Blk W1 w.heap.size (.deferred (some [])):=by
  rw[←hW1]
  exact(Below.heap_alloc _ _ _ (by simp)).trans (World.alloc_heap_new w _)
 have hL1:Blk W1 (w.heap.size+1) (.loop (qy a fn ps assign body w.heap.size .ready none)):=by
  rw[←hW1]
  have:=World.alloc_heap_new (w.alloc (.deferred (some []))) (.loop (qy a fn ps assign body w.heap.size .ready none))
  rwa [World.size_alloc] at this
 refine⟨w.heap.size+1,[{target:= .collected w.heap.size,args:= #[]}],W1,{target:= .fn (.func gf) lb,args:= #[.func (.yield (w.heap.size+1)) #[] #[]]},W1,gf,#[.func (.yield (w.heap.size+1)) #[] #[]]++lb,W1,?_,?_,fun f' hf'=>trivial,?_,fun hh=>absurd hh Wf.wide.depth,?_⟩
 ·rw[←hW1]
  exact run_enterLoop_outer _ _ _ _ _
 ·simp only[resolve,hev]
  simp[go_sem]
 ·simp[invoke,go_sem,F.run]
 ·refine callsIn_wide.2 ((h a ha fn _ W1 rfl hk1 hs1 hD1 hL1).mono (fun e w3 hh=>?_))
  obtain⟨⟨v,rfl⟩,hL3,hQ⟩:=hh
  refine⟨none,_,run_endLoop (P:=P) hL3 (by simp[qy]),?_⟩
  show Q .normal {a with defers:=[{target:= .collected w.heap.size,args:= #[]}]++a.defers} _
  rw[ha.defers]
  exact hQ
theorem CD.seq{ds:List Deferred}{x y:Code}(h:CD P n ds x (Exit.then (y.wp P Q) Q) L w):CD P n ds (.seq x y) Q L w:=fun a ha=>wp_seq (h a ha)
theorem CD.block{ds:List Deferred}{id:Nat}{c:Code}(h:CD P n ds c (Exit.inBlock id Q) L w):CD P n ds (.block id c) Q L w:=fun a ha=>wp_block (h a ha)
theorem NG.cd{ds:List Deferred}{y:Code}(h:CD P n ds y Q L w):NG n .normal (fun e a w=>Exit.then (y.wp P Q) Q e (nB ds a) w) L w:=fun a ha=>h _ (lU.app ha)
theorem yC{D1 D2:Nat}{fn:Func}{R:Ending→World→Prop}{a:Act}{e:Exit}(he:e= .normal∨e= .ret)(hrs:fn.results= #[])(hd:a.defers=[{target:= .collected D2,args:= #[]},{target:= .collected D1,args:= #[]}])(h2:Blk w D2 (.deferred (some [])))(hne:D1≠D2)(h1:Blk w D1 (.deferred (some [])))(hR:R (.returned (.tuple #[])) ((w.putObj D2 (.deferred none)).putObj D1 (.deferred none))):bodyPostM Fence.wide 0 P fn R e a w:=by
 have key:LeavesInM Fence.wide 0 P fn a.tmps R a.defers .returning w:=by
  rw[hd]
  have hk:=Kp.set w (o':= .deferred none) h2 rfl rfl
  refine⟨by simp,.inl ⟨_,_,rfl,run_takeDeferred h2,by simp,.inl ⟨_,_,rfl,run_takeDeferred (h1.kp hk (by simp[hne])),?_⟩⟩⟩
  refine⟨.tuple #[],?_,hR⟩
  unfold results
  rw[hrs]
  simp only[List.mapM_toArray,←bind_pure_comp,Sem.run_bind,Result.andThen,Sem.run_pure]
  rfl
 rcases he with rfl|rfl
 ·exact key
 ·exact key
end
end
section
attribute [local irreducible] CG NG SG SY aJ Der Row Blk av aA
theorem kH{w:World}{l bx:Nat}{a:Option Addr}{cc:Nat}{xs:List Dg}(hl:xs.length≤100000)(J:Nat→World→Prop)(hb:∀r W,J r W→Row W bx 0 [.slice a xs.length cc]∧Sl dc 8 W a xs)(hn:∀r W W',J r W→Kp [] W W'→J r W')
  (hy:∀r W (hr:r<xs.length),J (r+1) W→YieldAt Fence.wide 0 Tryz.prog l #[.int .i64 (r:Int),dv xs[r]] W (fun e W'=>e= .returned (.bool true)∧J r W')) (h0:J xs.length w):
  Calls Tryz.prog 158 #[.func (.yield l) #[] #[],.pointer (some ⟨bx,0,none⟩)] w (fun e w'=>(∃v,e= .returned v)∧J 0 w'):=by
 refine aT Tryz.func158 rfl Tryz.ntmps158 rfl ?_
 obtain⟨r0,-⟩:=hb _ _ h0
 repeat (first|apply gst|(apply gsv;rfl;(first|apply qas|apply qlc|apply qln|apply qsb)<;>first|rfl|(apply Ar.mk;omega)|assumption|exact List.not_mem_nil))
 refine CG.loop (X:=Nat) (fun r=>[(0,.func (.yield l) #[] #[]),(1,.pointer (some ⟨bx,0,none⟩)),(3,.int .i64 ((r:Int)-1))])
  (fun r w'=>r≤xs.length∧J r w') (fun r=>r) xs.length ⟨Nat.le_refl _,h0⟩ (aW.of rfl) ?_
 rintro r w3 ⟨hr,hJ⟩
 refine CG.to [(0,.func (.yield l) #[] #[]),(1,.pointer (some ⟨bx,0,none⟩)),(3,.int .i64 ((r:Int)-1))] (aW.of rfl) ?_
 clear r0
 cases r with
 |zero=>
  have g1:¬(0:Int)≤((0:Nat):Int)-1:=by omega
  repeat (first|apply gst|(apply gsv;rfl;(first|apply qmv|apply qge)<;>first|rfl|(apply dcf;first|assumption|omega)))
  refine gcf rfl ?_
  repeat apply gst
  refine qg (Or.inr rfl) Tryz.results158 ?_
  exact⟨⟨_,rfl⟩,hJ⟩
 |succ r=>
  have e1:((r+1:Nat):Int)-1=(r:Int):=by omega
  rw[e1]
  have g1:(0:Int)≤(r:Int):=by omega
  obtain⟨r0,hS⟩:=hb _ _ hJ
  obtain⟨ba,off,rfl,hrow⟩:=hS.at (show r<xs.length by omega)
  repeat (first|apply gst|(apply gsv;rfl;(first|apply qmv|apply qge)<;>first|rfl|(apply dct;first|assumption|omega)))
  refine gct rfl ?_
  repeat (first|refine CG.block ?_|refine CG.scope ?_|refine CG.seq ?_|apply CG.skip|refine NG.next ?_)
  refine CG.ye ?_
  repeat (refine SY.val rfl rfl rfl rfl rfl (by first|((first|apply qmv|apply qlc|apply qla|apply qix)<;>(first|exact rfl|exact Ar.mk (by omega)|assumption|exact List.not_mem_nil|apply ah|apply ah|fail))|fail) ?_)
  refine SY.zH rfl rfl rfl (ag rfl) (ag rfl) (ag rfl) (hy r w3 (by omega) hJ) (fun e w4 hh=>?_)
  obtain⟨rfl,hJ4⟩:=hh
  refine⟨_,rfl,?_⟩
  clear hrow r0
  repeat (refine SY.val rfl rfl rfl rfl rfl (by first|(apply qnt<;>(exact rfl))|fail) ?_)
  refine SY.nil ?_
  repeat apply gst
  refine gcf rfl ?_
  repeat (first|apply gst|(apply gsv;rfl;(first|apply qmv|apply qas|apply qsb)<;>first|rfl|(apply Ar.mk;omega)))
  refine NG.round r (aW.of rfl) ⟨by omega,hJ4⟩ (by omega)
theorem kG(w:World)(v:Value):Calls Tryz.prog 123 #[v] w (fun e w'=>∃bx,e= .returned (fnv 158 [.pointer (some ⟨bx,0,none⟩)])∧Kp [] w w'∧w.heap.size≤bx∧Blk w' bx (.cells v.cells 93)):=by
 refine aM Tryz.func123 rfl Tryz.ntmps123 rfl ?_
 repeat apply gst
 refine SG.box rfl rfl rfl (ag rfl) (fun b1 w1 hk1 hb1 hB1=>?_)
 repeat (first|apply gst|(apply gsv;rfl;apply qas<;>rfl))
 refine SG.val rfl rfl rfl rfl (qmf (vs:=[.pointer (some ⟨b1,0,none⟩)]) rfl) ?_
 repeat (first|apply gst|(apply gsv;rfl;apply qas<;>rfl))
 refine aN (Or.inl rfl) Tryz.results123 (aw.tmp rfl) ?_
 exact⟨b1,rfl,hk1,hb1,hB1⟩
end
section
def l0(ns:List (Dg×Nat×Nm))(d:Dg):List Tx:=match au ns d with
 |some q=>q.2.x.xs.map (·.t)
 |none=>[]
noncomputable def zE(ns:List (Dg×Nat×Nm))(h:Int)(ps:List En)(l:List Dg):List En:=l.foldr (fun d ps=>(oI 256 ps h (l0 ns d)).1) ps
noncomputable def zB(ns:List (Dg×Nat×Nm))(ps:List En)(l:List Dg):List En:=l.foldr (fun d ps=>oD ps (l0 ns d)) ps
noncomputable def swE(ns:List (Dg×Nat×Nm))(t:Tr)(ps:List En)(old now:Dg):List En:=zB ns (zE ns (t.height now) ps (t.fQ old now)) (t.fQ now old)
theorem iZ{ns:List (Dg×Nat×Nm)}{h:Int}{ps:List En}(hi:eB 256 ps):∀l,eB 256 (zE ns h ps l)
 |[]=>hi
 |d::l=>ud (iZ hi l)
theorem lG{ns:List (Dg×Nat×Nm)}{ps:List En}(hi:eB 256 ps):∀l,eB 256 (zB ns ps l)
 |[]=>hi
 |d::l=>tN (lG hi l)
def Hl(W:World)(X:List (Nat×Obj)):Prop:=∀p∈X,Blk W p.1 p.2
def hdO:Obj→Prop
 | .cells _ T _=>T∉CT
 |_=>True
def okX(X:List (Nat×Obj)):Prop:=∀p∈X,hdO p.2
theorem Pl.no{w:World}{n p b:Nat}{v:Value}{room:Int}{ms:List Em}{o:Obj}(h:Pl w n p v room ms)(hB:Blk w b o)(ho:hdO o):b∉p::aU v:=fun hm=>by
 rcases List.mem_cons.1 hm with rfl|hm
 ·have e:=hB.uniq h.blk
  subst e
  exact ho (by decide)
 ·have hm:=aC hm
  rcases h.own.2 with⟨rfl,_⟩|⟨g,cap,cur,rfl,_,hg,_⟩
  ·cases hm
  ·simp only[Value.ownBlock,Option.some.injEq] at hm
   subst hm
   have e:=hB.uniq hg
   subst e
   exact ho (by decide)
theorem Hl.kp0{W W':World}{X:List (Nat×Obj)}(h:Hl W X)(hk:Kp [] W W'):Hl W' X:=fun p hp=>(h p hp).kp0 hk
theorem Hl.kp{W W':World}{X:List (Nat×Obj)}{S:List Nat}(h:Hl W X)(hk:Kp S W W')(hn:∀p∈X,p.1∉S):Hl W' X:=fun p hp=>(h p hp).kp hk (hn p hp)
def SwJ(w:World)(n:Nat)(A:List Nat)(tot:Int)(c:Cm)(X:List (Nat×Obj))(E:List En)(W:World):Prop:=
 ∃pv ps',dw W n A tot {c with pv:=pv,ps:=ps'}∧ps'.map Em.en=E∧Kp (c.pb::aU c.pv) w W∧(∀g,pv.ownBlock=some g→c.pv.ownBlock=some g∨w.heap.size≤g)∧Hl W X
theorem SwJ.new{w:World}{n:Nat}{A:List Nat}{tot:Int}{c:Cm}{X:List (Nat×Obj)}{E:List En}{W W':World}(h:SwJ w n A tot c X E W)(hk:Kp [] W W'):SwJ w n A tot c X E W':=by
 obtain⟨pv,ps',h1,h2,h3,h4,h5⟩:=h
 exact⟨pv,ps',h1.kp0 hk,h2,h3.trans hk.any,h4,h5.kp0 hk⟩
theorem SwJ.pool{w:World}{n:Nat}{A:List Nat}{tot:Int}{c:Cm}{X:List (Nat×Obj)}{E':List En}{W W':World}{pv pv':Value}{ps' ps2:List Em}(hX:okX X)(h1:dw W n A tot {c with pv:=pv,ps:=ps'})(h3:Kp (c.pb::aU c.pv) w W)(h4:∀g,pv.ownBlock=some g→c.pv.ownBlock=some g∨w.heap.size≤g)(h5:Hl W X)
  (hk:Kp (c.pb::aU pv) W W') (hP:Pl W' n c.pb pv' 256 ps2) (hE:ps2.map Em.en=E') (hg:∀g,pv'.ownBlock=some g→pv.ownBlock=some g∨W.heap.size≤g):SwJ w n A tot c X E' W':=by
 refine⟨pv',ps2,h1.zW hk hP,hE,h3.ai hk (fun z hz=>?_),fun g hg'=>?_,h5.kp hk (fun p hp=>Pl.no (p:=c.pb) (v:=pv) (room:=256) (ms:=ps') h1.pool (h5 p hp) (hX p hp))⟩
 ·rcases List.mem_cons.1 hz with rfl|hz
  ·exact Or.inl List.mem_cons_self
  ·rcases h4 z (aC hz) with g|g
   ·refine Or.inl (List.mem_cons_of_mem _ ?_)
    unfold aU
    rw[g]
    simp
   ·exact Or.inr g
 ·rcases hg g hg' with e|e
  ·exact h4 g e
  ·exact Or.inr (Nat.le_trans h3.size e)
theorem SwJ.put{w:World}{n:Nat}{A:List Nat}{tot:Int}{c:Cm}{X X':List (Nat×Obj)}{E:List En}{W W':World}{l:Nat}{o:Obj}(h:SwJ w n A tot c X E W)(hk:Kp [l] W W')(hl:Blk W l o)(hn:n≤l)(ho:okC [] [] l o)(hw:w.heap.size≤l)(hX:∀p∈X',p∈X∧p.1≠l∨Blk W' p.1 p.2):SwJ w n A tot c X' E W':=by
 obtain⟨pv,ps',h1,h2,h3,h4,h5⟩:=h
 have hS:Cnd n [] [] W [l]:=Cnd.obj hn hl ho
 refine⟨pv,ps',h1.kpL hk hS (fun _ _ h=>by cases h) (fun p hp=>(h1.nd p hp).x.uR hk hS List.not_mem_nil List.not_mem_nil),h2,h3.ai hk (aV hw),h4,fun p hp=>?_⟩
 rcases hX p hp with⟨g1,g2⟩|g
 ·exact(h5 p g1).kp hk (nm1 g2)
 ·exact g
end
section
theorem rN{w:World}{b off:Nat}{l:List Dg}{pre post:List Value}{T:TypeId}(hB:Blk w b (.cells (pre++(flat l++post)).toArray T))(hp:pre.length=off):Sl dc 8 w (some ⟨b,off,none⟩) l:=by
 rw[←hp]
 exact Sl.eL ah hB
attribute [local irreducible] CG NG SG SY CI aJ Der Row Blk av aA
theorem kR{w:World}{n:Nat}{A:List Nat}{tot:Int}{c:Cm}(h:dw w n A tot c)(wf:c.tr.WF)(hI:eB 256 (c.ps.map Em.en)){old now:Dg}(ho:c.tr.has old=true)(hw:c.tr.has now=true)(hl1:c.tr.und old now≤100000)(hl2:c.tr.und now old≤100000)
  (h1:∀d∈c.tr.fQ old now,∃q,au c.ns d=some q) (h2:∀d∈c.tr.fQ now old,∃q,au c.ns d=some q):
  Calls Tryz.prog 75 #[.pointer (some ⟨c.cb,0,none⟩),dv old,dv now] w (fun e w'=>e= .returned (.tuple #[])∧SwJ w n A tot c [] (swE c.ns c.tr (c.ps.map Em.en) old now) w'):=by
 refine AH (args:=[.pointer (some ⟨c.cb,0,none⟩),dv old,dv now]) Tryz.func75 rfl Tryz.ntmps75 rfl ?_
 repeat apply gst
 refine SG.box rfl rfl rfl (ag rfl) (fun b3 w1 hk1 hb3 hB3=>?_)
 have hB3:Blk w1 b3 (.cells #[.pointer (some ⟨c.cb,0,none⟩)] 39):=hB3
 refine SG.box rfl rfl rfl (ag rfl) (fun b4 w2 hk2 hb4 hB4=>?_)
 have hB4:Blk w2 b4 (.cells (dc old).toArray 47):=hB4
 refine SG.box rfl rfl rfl (ag rfl) (fun b5 w3 hk3 hb5 hB5=>?_)
 have hB5:Blk w3 b5 (.cells (dc now).toArray 47):=hB5
 have k3:=(hk1.trans hk2).trans hk3
 have hB3:=(hB3.kp0 hk2).kp0 hk3
 have hB4:=hB4.kp0 hk3
 have h3:=h.kp0 k3
 have r3:Row w3 b3 0 [.pointer (some ⟨c.cb,0,none⟩)]:=Row.of hB3 [] [] rfl rfl
 have r4:Row w3 b4 0 (dc old):=Row.all hB4 rfl
 have r5:Row w3 b5 0 (dc now):=Row.all hB5 rfl
 obtain⟨-,-,-,-,q3,-,-⟩:=bZ h3
 repeat apply gst
 refine CG.iK mixed [0,1,2,3,4,5] [(6,7,6,.tmp 16)] (by kernel_rfl) (by kernel_rfl) ?_
 repeat (apply gdv;rfl;rfl;(first|apply qlc|apply qla|apply qfa|apply qnc)<;>first|rfl|assumption|exact List.not_mem_nil|apply ah)
 refine Der.call rfl rfl rfl (vs:=[.pointer (some ⟨c.tb,0,none⟩),dv now]) (Evs.of rfl) (fun W hk _=>dy (h3.tree.kp0 hk) now) ?_
 refine Der.one (iN.of (by rfl) rfl rfl rfl (ag rfl) (by rfl) (by rfl) (by rfl)) (fun b6 w4 hk4 hb6 hB6=>?_)
 have hB6:Blk w4 b6 (.cells #[.int .i64 (c.tr.height now)] 3):=hB6
 have k4:=k3.trans hk4
 have h4:=h.kp0 k4
 have r3:=r3.kp0 hk4
 have r4:=r4.kp0 hk4
 have r5:=r5.kp0 hk4
 have q3:=q3.kp0 hk4
 repeat apply gst
 refine CG.tail mixed 6 [0,1,2,3,4,5] (by kernel_rfl) ?_
 repeat (apply gdv;rfl;rfl;(first|apply qlc|apply qla|apply qfa|apply qnc)<;>first|rfl|assumption|exact List.not_mem_nil|apply ah)
 refine Der.tl (fun w5 hk5 _ _=>?_)
 refine SG.call rfl rfl rfl (vs:=[.pointer (some ⟨c.tb,0,none⟩),dv old,dv now]) (Evs.of rfl) ((iF (h4.tree.kp0 hk5) wf ho hw).mono (fun e w6 hh=>?_))
 obtain⟨bs,off,cc,pre,post,rfl,hbs,hBs,⟨hpre,hcc⟩,hk6⟩:=hh
 refine⟨_,rfl,?_⟩
 refine SG.call rfl rfl rfl (vs:=[.slice (some ⟨bs,off,none⟩) (c.tr.und old now) cc]) (Evs.of rfl) ((kG w6 _).mono (fun e w7 hh=>?_))
 obtain⟨bx,rfl,hk7,hbx,hBx⟩:=hh
 refine⟨_,rfl,?_⟩
 repeat apply gst
 have s1:=hk1.size
 have s2:=hk2.size
 have s3:=hk3.size
 have s4:=hk4.size
 have s5:=hk5.size
 have s6:=hk6.size
 have s7:=hk7.size
 have lbx:=hBx.lt
 have k47:=(hk5.trans hk6).trans hk7
 have k7:=k4.trans k47
 have X0:Hl w7 [(b3,.cells #[.pointer (some ⟨c.cb,0,none⟩)] 39),(b4,.cells (dc old).toArray 47),(b5,.cells (dc now).toArray 47),(b6,.cells #[.int .i64 (c.tr.height now)] 3)]:=fun p hp=>by
  simp only[List.mem_cons,List.mem_nil_iff,or_false] at hp
  rcases hp with rfl|rfl|rfl|rfl
  ·exact(hB3.kp0 hk4).kp0 k47
  ·exact(hB4.kp0 hk4).kp0 k47
  ·exact(hB5.kp0 hk4).kp0 k47
  ·exact hB6.kp0 k47
 have l6:=hB6.lt
 have hbl:b3<w7.heap.size∧b4<w7.heap.size∧b5<w7.heap.size∧b6<w7.heap.size:=by
  have:=hB3.lt
  have:=hB4.lt
  have:=hB5.lt
  omega
 have hX0:okX [(b3,.cells #[.pointer (some ⟨c.cb,0,none⟩)] 39),(b4,.cells (dc old).toArray 47),(b5,.cells (dc now).toArray 47),(b6,.cells #[.int .i64 (c.tr.height now)] 3)]:=fun p hp=>by
  simp only[List.mem_cons,List.mem_nil_iff,or_false] at hp
  rcases hp with rfl|rfl|rfl|rfl<;>(show _∉CT;decide)
 have hBs7:=hBs.kp0 hk7
 clear r3 r4 r5 q3
 generalize hXe:[(b3,Obj.cells #[.pointer (some ⟨c.cb,0,none⟩)] 39),(b4,.cells (dc old).toArray 47),(b5,.cells (dc now).toArray 47),(b6,.cells #[.int .i64 (c.tr.height now)] 3)]=X at*
 have hXl:∀p∈X,p.1<w7.heap.size:=fun p hp=>(X0 p hp).lt
 have m3:(b3,Obj.cells #[.pointer (some ⟨c.cb,0,none⟩)] 39)∈X:=by rw[←hXe];exact .head _
 have m4:(b4,Obj.cells (dc old).toArray 47)∈X:=by rw[←hXe];exact .tail _ (.head _)
 have m5:(b5,Obj.cells (dc now).toArray 47)∈X:=by rw[←hXe];exact .tail _ (.tail _ (.head _))
 have m6:(b6,Obj.cells #[.int .i64 (c.tr.height now)] 3)∈X:=by rw[←hXe];exact .tail _ (.tail _ (.tail _ (.head _)))
 have lbs:=hBs7.lt
 refine CG.rangeFunc rfl (ag rfl) (fun a ha fn rc W1 hrc hkW hsW hDW hLW=>?_)
 obtain⟨XL,hXL⟩:∃XL:LoopState→List (Nat×Obj),XL=fun st=>(bx,.cells #[.slice (some ⟨bs,off,none⟩) (c.tr.und old now) cc] 93)::(bs,.cells (pre++(flat (c.tr.fQ old now)++post)).toArray 47)::(w7.heap.size,.deferred (some []))::(w7.heap.size+1,.loop (rc st))::X:=⟨_,rfl⟩
 have mX:∀{st p},p∈X→p∈XL st:=fun hp=>by rw[hXL];exact .tail _ (.tail _ (.tail _ (.tail _ hp)))
 have ml:∀{st},(w7.heap.size+1,Obj.loop (rc st))∈XL st:=by rw[hXL];exact .tail _ (.tail _ (.tail _ (.head _)))
 have oXL:∀st,okX (XL st):=fun st p hp=>by
  rw[hXL] at hp
  simp only[List.mem_cons] at hp
  rcases hp with rfl|rfl|rfl|rfl|hp
  ·show _∉CT;decide
  ·show _∉CT;decide
  ·trivial
  ·trivial
  ·exact hX0 p hp
 have hput:∀{st st' E W W'},SwJ w n A tot c (XL st) E W→Kp [w7.heap.size+1] W W'→Blk W' (w7.heap.size+1) (.loop (rc st'))→SwJ w n A tot c (XL st') E W':=fun{st st' E W W'} hJ hk hB=>by
  have hl:Blk W (w7.heap.size+1) (.loop (rc st)):=by
   obtain⟨_,_,-,-,-,-,hX⟩:=hJ
   exact hX _ ml
  refine hJ.put hk hl (by have:=h.w0;omega) trivial (by omega) (fun p hp=>?_)
  rw[hXL] at hp
  simp only[List.mem_cons] at hp
  rw[hXL]
  rcases hp with rfl|rfl|rfl|rfl|hp
  ·exact Or.inl ⟨.head _,by simp only;omega⟩
  ·exact Or.inl ⟨.tail _ (.head _),by simp only;omega⟩
  ·exact Or.inl ⟨.tail _ (.tail _ (.head _)),by simp only;omega⟩
  ·exact Or.inr hB
  ·exact Or.inl ⟨.tail _ (.tail _ (.tail _ (.tail _ hp))),by have:=hXl p hp;omega⟩
 refine(kH (xs:=c.tr.fQ old now) (a:=some ⟨bs,off,none⟩) (cc:=cc) (by rw[dR];exact hl1)
  (fun r W=>SwJ w n A tot c (XL .ready) (zE c.ns (c.tr.height now) (c.ps.map Em.en) ((c.tr.fQ old now).drop r)) W)
  (fun r W hJ=>?_) (fun r W W' hJ hk=>hJ.new hk) (fun r W hr hJ=>?_) ?_).mono (fun e W3 hh=>?_)
 ·obtain⟨_,_,-,-,-,-,hX⟩:=hJ
  rw[hXL] at hX
  rw[dR]
  exact⟨Row.of (hX _ (.head _)) [] [] rfl rfl,rN (hX _ (.tail _ (.head _))) hpre⟩
 ·have hl:Blk W (w7.heap.size+1) (.loop (rc .ready)):=by
   obtain⟨_,_,-,-,-,-,hX⟩:=hJ
   exact hX _ ml
  refine me (t:=25) (u:=26) hrc ha (by decide) (by decide) hl rfl ?_
  clear hrc
  have ll:=hl.lt
  refine SG.alloc rfl rfl rfl (fun b8 W2 hk2' hb8 hB8=>?_)
  refine SG.aB (l:=dc (c.tr.fQ old now)[r]) rfl rfl (ag rfl) (ag rfl) hB8 (ah _) rfl (aO _) (fun W3 hk3' hB8=>?_)
  have k3':Kp [] W W3:=hk2'.ai hk3' (aV (by omega))
  have hJ3:=hJ.new k3'
  refine SG.nil (NG.uT (fun a1 ha1=>⟨_,ha1,hl.kp0 k3',fun W4 hk4' hL4=>?_⟩))
  have hJ4:=hput hJ3 hk4' hL4
  have r8:Row W4 b8 0 (dc (c.tr.fQ old now)[r]):=Row.all (hB8.kp hk4' (nm1 (by omega))) rfl
  clear ha1 a1 hJ hJ3
  obtain⟨pv,ps',hC,hE,hkp,hg,hX⟩:=hJ4
  have r3:Row W4 b3 0 [.pointer (some ⟨c.cb,0,none⟩)]:=Row.of (hX _ (mX m3)) [] [] rfl rfl
  have r6:Row W4 b6 0 [.int .i64 (c.tr.height now)]:=Row.of (hX _ (mX m6)) [] [] rfl rfl
  obtain⟨-,-,-,-,-,t4,t5⟩:=bZ hC
  obtain⟨q,hq⟩:=h1 _ (List.getElem_mem hr)
  have hQ:=hC.ndA (c:={c with pv:=pv,ps:=ps'}) hq
  obtain⟨-,-,-,-,u20,-⟩:=dh hQ.blk
  have hM:=hC.map
  refine CI.dH mixed sJ rfl 15 [0,1,2,3,4,5,6,7,8,9,10,11,12,13,14] [] [] (fun _=>True) (by kernel_rfl) trivial (fun _ _ _ _=>trivial) ?_
  repeat (apply gdv;rfl;rfl;(first|apply qlc|apply qla|apply qfa|apply qnc|apply qlv)<;>first|rfl|assumption|exact List.not_mem_nil|apply ah|exact lk1 (by assumption)|fail)
  refine Der.tl (fun W5 hk5' _ _=>?_)
  clear r3 r6 r8 t4 t5 u20 hM
  have hI5:eB 256 (ps'.map Em.en):=by rw[hE];exact iZ hI _
  refine SG.call rfl rfl rfl (vs:=[.pointer (some ⟨c.pb,0,none⟩),.int .i64 (c.tr.height now),.slice q.2.x.a q.2.x.xs.length q.2.x.c]) (Evs.of rfl) ((ub (hC.kp0 hk5').pool hI5 (by omega) (hQ.kp0 hk5').x.tx (hQ.x.len)).mono (fun e W6 hh=>?_))
  obtain⟨rfl,pv2,ps2,hP2,hE2,hk6',hg2⟩:=hh
  refine⟨_,rfl,?_⟩
  have hkp5:=hkp.trans hk5'.any
  have hJ6:SwJ w n A tot c (XL .busy) (zE c.ns (c.tr.height now) (c.ps.map Em.en) ((c.tr.fQ old now).drop r)) W6:=by
   refine SwJ.pool (oXL _) (hC.kp0 hk5') hkp5 hg (hX.kp0 hk5') hk6' hP2 ?_ hg2
   rw[List.drop_eq_getElem_cons hr]
   show _=(oI 256 (zE c.ns (c.tr.height now) (c.ps.map Em.en) ((c.tr.fQ old now).drop (r+1))) (c.tr.height now) (l0 c.ns (c.tr.fQ old now)[r])).1
   have et:l0 c.ns (c.tr.fQ old now)[r]=q.2.x.xs.map (·.t):=by unfold l0;rw[hq]
   rw[hE2,hE,et]
  have hl6:Blk W6 (w7.heap.size+1) (.loop (rc .busy)):=by
   obtain⟨_,_,-,-,-,-,hX⟩:=hJ6
   exact hX _ ml
  refine SG.nil (NG.uT (fun a1 ha1=>⟨hl6,fun W7 hk7' hL7=>⟨rfl,hput hJ6 hk7' hL7⟩⟩))
 ·refine⟨c.pv,c.ps,h.kp0 (k7.trans hkW),by rw[List.drop_length];rfl,(k7.trans hkW).any,fun g hg=>Or.inl hg,?_⟩
  rw[hXL]
  intro p hp
  simp only[List.mem_cons] at hp
  rcases hp with rfl|rfl|rfl|rfl|hp
  ·exact hBx.kp0 hkW
  ·exact hBs7.kp0 hkW
  ·exact hDW
  ·exact hLW
  ·exact(X0 p hp).kp0 hkW
 obtain⟨hv,hJ3⟩:=hh
 have hl3:Blk W3 (w7.heap.size+1) (.loop (rc .ready)):=by
  obtain⟨_,_,-,-,-,-,hX⟩:=hJ3
  exact hX _ ml
 refine⟨hv,hl3,?_⟩
 obtain⟨W4,hW4⟩:∃W4,W3.putObj (w7.heap.size+1) (.loop (rc .exhausted))=W4:=⟨_,rfl⟩
 rw[hW4]
 have hk4':Kp [w7.heap.size+1] W3 W4:=by
  rw[←hW4]
  exact Kp.set W3 hl3 rfl rfl
 have hL4:Blk W4 (w7.heap.size+1) (.loop (rc .exhausted)):=by
  rw[←hW4]
  exact tX hl3 _
 have hJ4:=hput hJ3 hk4' hL4
 rw[List.drop_zero] at hJ4
 clear hJ3 hl3 hk4' hput oXL ml
 generalize hE1:zE c.ns (c.tr.height now) (c.ps.map Em.en) (c.tr.fQ old now)=E1 at hJ4
 have hI1:eB 256 E1:=by rw[←hE1];exact iZ hI _
 have mD:(w7.heap.size,Obj.deferred (some []))∈XL .exhausted:=by rw[hXL];exact .tail _ (.tail _ (.head _))
 refine CD.seq ?_ _ (lU.mark ha)
 have hJ40:=hJ4
 obtain⟨pv,ps',hC,hE,hkp,hg,hX⟩:=hJ4
 have r3:Row W4 b3 0 [.pointer (some ⟨c.cb,0,none⟩)]:=Row.of (hX _ (mX m3)) [] [] rfl rfl
 have r4:Row W4 b4 0 (dc old):=Row.all (hX _ (mX m4)) rfl
 have r5:Row W4 b5 0 (dc now):=Row.all (hX _ (mX m5)) rfl
 obtain⟨-,-,-,-,t3,-,-⟩:=bZ hC
 refine CD.dH mixed 6 [0,1,2,3,4,5] [] [] (fun _=>True) (by kernel_rfl) trivial (fun _ _ _ _=>trivial) ?_
 repeat (apply gdv;rfl;rfl;(first|apply qlc|apply qla|apply qfa|apply qnc)<;>first|rfl|assumption|exact List.not_mem_nil|apply ah)
 refine Der.tl (fun W5 hk5 _ _=>?_)
 refine SG.call rfl rfl rfl (vs:=[.pointer (some ⟨c.tb,0,none⟩),dv now,dv old]) (Evs.of rfl) ((iF (hC.kp0 hk5).tree wf hw ho).mono (fun e W6 hh=>?_))
 obtain⟨bs2,off2,cc2,pre2,post2,rfl,hbs2,hBs2,⟨hpre2,hcc2⟩,hk6⟩:=hh
 refine⟨_,rfl,?_⟩
 refine SG.call rfl rfl rfl (vs:=[.slice (some ⟨bs2,off2,none⟩) (c.tr.und now old) cc2]) (Evs.of rfl) ((kG W6 _).mono (fun e W7 hh=>?_))
 obtain⟨bx2,rfl,hk7,hbx2,hBx2⟩:=hh
 refine⟨_,rfl,?_⟩
 refine SG.nil (NG.cd ?_)
 refine CD.block ?_
 clear r3 r4 r5 t3
 have k57:=(hk5.trans hk6).trans hk7
 have k7':=hk7.size
 have lbx2:=hBx2.lt
 have lbs2:=(hBs2.kp0 hk7).lt
 obtain⟨X2,hX2⟩:∃X2:List (Nat×Obj),X2=(w7.heap.size,.deferred (some []))::X:=⟨_,rfl⟩
 have X02:Hl W7 X2:=fun p hp=>by
  rw[hX2] at hp
  rcases List.mem_cons.1 hp with rfl|hp
  ·exact(hX _ mD).kp0 k57
  ·exact(hX _ (mX hp)).kp0 k57
 have hX02:okX X2:=fun p hp=>by
  rw[hX2] at hp
  rcases List.mem_cons.1 hp with rfl|hp
  ·trivial
  ·exact hX0 p hp
 have hXl2:∀p∈X2,p.1<W7.heap.size:=fun p hp=>(X02 p hp).lt
 have h2':=h2
 have hw7:w.heap.size≤W7.heap.size:=Nat.le_trans hkp.size k57.size
 refine CD.rangeFunc rfl (ag rfl) (fun a2 ha2 fn2 rc2 W8 hrc2 hkW2 hsW2 hDW2 hLW2=>?_)
 obtain⟨XM,hXM⟩:∃XM:LoopState→List (Nat×Obj),XM=fun st=>(bx2,.cells #[.slice (some ⟨bs2,off2,none⟩) (c.tr.und now old) cc2] 93)::(bs2,.cells (pre2++(flat (c.tr.fQ now old)++post2)).toArray 47)::(W7.heap.size,.deferred (some []))::(W7.heap.size+1,.loop (rc2 st))::X2:=⟨_,rfl⟩
 have mY:∀{st p},p∈X2→p∈XM st:=fun hp=>by rw[hXM];exact .tail _ (.tail _ (.tail _ (.tail _ hp)))
 have ml:∀{st},(W7.heap.size+1,Obj.loop (rc2 st))∈XM st:=by rw[hXM];exact .tail _ (.tail _ (.tail _ (.head _)))
 have oXM:∀st,okX (XM st):=fun st p hp=>by
  rw[hXM] at hp
  simp only[List.mem_cons] at hp
  rcases hp with rfl|rfl|rfl|rfl|hp
  ·show _∉CT;decide
  ·show _∉CT;decide
  ·trivial
  ·trivial
  ·exact hX02 p hp
 have hput:∀{st st' E W W'},SwJ w n A tot c (XM st) E W→Kp [W7.heap.size+1] W W'→Blk W' (W7.heap.size+1) (.loop (rc2 st'))→SwJ w n A tot c (XM st') E W':=fun{st st' E W W'} hJ hk hB=>by
  have hl:Blk W (W7.heap.size+1) (.loop (rc2 st)):=by
   obtain⟨_,_,-,-,-,-,hX⟩:=hJ
   exact hX _ ml
  refine hJ.put hk hl (by have:=h.w0;omega) trivial (by omega) (fun p hp=>?_)
  rw[hXM] at hp
  simp only[List.mem_cons] at hp
  rw[hXM]
  rcases hp with rfl|rfl|rfl|rfl|hp
  ·exact Or.inl ⟨.head _,by simp only;omega⟩
  ·exact Or.inl ⟨.tail _ (.head _),by simp only;omega⟩
  ·exact Or.inl ⟨.tail _ (.tail _ (.head _)),by simp only;omega⟩
  ·exact Or.inr hB
  ·exact Or.inl ⟨.tail _ (.tail _ (.tail _ (.tail _ hp))),by have:=hXl2 p hp;omega⟩
 refine(kH (xs:=c.tr.fQ now old) (a:=some ⟨bs2,off2,none⟩) (cc:=cc2) (by rw[dR];exact hl2)
  (fun r W=>SwJ w n A tot c (XM .ready) (zB c.ns E1 ((c.tr.fQ now old).drop r)) W)
  (fun r W hJ=>?_) (fun r W W' hJ hk=>hJ.new hk) (fun r W hr hJ=>?_) ?_).mono (fun e W3 hh=>?_)
 ·obtain⟨_,_,-,-,-,-,hX⟩:=hJ
  rw[hXM] at hX
  rw[dR]
  exact⟨Row.of (hX _ (.head _)) [] [] rfl rfl,rN (hX _ (.tail _ (.head _))) hpre2⟩
 ·have hl:Blk W (W7.heap.size+1) (.loop (rc2 .ready)):=by
   obtain⟨_,_,-,-,-,-,hX⟩:=hJ
   exact hX _ ml
  refine me (t:=51) (u:=52) (a:={a2 with defers:=[]}) hrc2 ha2.fit (by decide) (by decide) hl rfl ?_
  clear hrc2
  have ll:=hl.lt
  refine SG.alloc rfl rfl rfl (fun b8 W2 hk2' hb8 hB8=>?_)
  refine SG.aB (l:=dc (c.tr.fQ now old)[r]) rfl rfl (ag rfl) (ag rfl) hB8 (ah _) rfl (aO _) (fun W3 hk3' hB8=>?_)
  have k3':Kp [] W W3:=hk2'.ai hk3' (aV (by omega))
  have hJ3:=hJ.new k3'
  refine SG.nil (NG.uT (fun a1 ha1=>⟨_,ha1,hl.kp0 k3',fun W4 hk4' hL4=>?_⟩))
  have hJ4:=hput hJ3 hk4' hL4
  have r8:Row W4 b8 0 (dc (c.tr.fQ now old)[r]):=Row.all (hB8.kp hk4' (nm1 (by omega))) rfl
  clear ha1 a1 hJ hJ3
  obtain⟨pv,ps',hC,hE,hkp,hg,hX⟩:=hJ4
  have r3:Row W4 b3 0 [.pointer (some ⟨c.cb,0,none⟩)]:=Row.of (hX _ (mY (by rw[hX2];exact .tail _ m3))) [] [] rfl rfl
  obtain⟨-,-,-,-,-,t4,t5⟩:=bZ hC
  obtain⟨q,hq⟩:=h2' _ (List.getElem_mem hr)
  have hQ:=hC.ndA (c:={c with pv:=pv,ps:=ps'}) hq
  obtain⟨-,-,-,-,u20,-⟩:=dh hQ.blk
  have hM:=hC.map
  refine CI.dH mixed sJ rfl 14 [0,1,2,3,4,5,6,7,8,9,10,11,12,13] [] [] (fun _=>True) (by kernel_rfl) trivial (fun _ _ _ _=>trivial) ?_
  repeat (apply gdv;rfl;rfl;(first|apply qlc|apply qla|apply qfa|apply qnc|apply qlv)<;>first|rfl|assumption|exact List.not_mem_nil|apply ah|exact lk1 (by assumption)|fail)
  refine Der.tl (fun W5 hk5' _ _=>?_)
  clear r3 r8 t4 t5 u20 hM
  have hI5:eB 256 (ps'.map Em.en):=by rw[hE];exact lG hI1 _
  refine SG.call rfl rfl rfl (vs:=[.pointer (some ⟨c.pb,0,none⟩),.slice q.2.x.a q.2.x.xs.length q.2.x.c]) (Evs.of rfl) ((tM (hC.kp0 hk5').pool hI5 (by omega) (hQ.kp0 hk5').x.tx.sl (hQ.x.len)).mono (fun e W6 hh=>?_))
  obtain⟨rfl,pv2,ps2,hP2,hE2,hk6',hg2⟩:=hh
  refine⟨_,rfl,?_⟩
  have hkp5:=hkp.trans hk5'.any
  have hJ6:SwJ w n A tot c (XM .busy) (zB c.ns E1 ((c.tr.fQ now old).drop r)) W6:=by
   refine SwJ.pool (oXM _) (hC.kp0 hk5') hkp5 hg (hX.kp0 hk5') hk6' hP2 ?_ (fun g hg'=>Or.inl (hg2 g hg'))
   rw[List.drop_eq_getElem_cons hr]
   show _=oD (zB c.ns E1 ((c.tr.fQ now old).drop (r+1))) (l0 c.ns (c.tr.fQ now old)[r])
   have et:l0 c.ns (c.tr.fQ now old)[r]=q.2.x.xs.map (·.t):=by unfold l0;rw[hq]
   rw[hE2,hE,et]
  have hl6:Blk W6 (W7.heap.size+1) (.loop (rc2 .busy)):=by
   obtain⟨_,_,-,-,-,-,hX⟩:=hJ6
   exact hX _ ml
  refine SG.nil (NG.uT (fun a1 ha1=>⟨hl6,fun W7 hk7' hL7=>⟨rfl,hput hJ6 hk7' hL7⟩⟩))
 ·refine⟨pv,ps',hC.kp0 (k57.trans hkW2),by rw[List.drop_length];exact hE,hkp.trans (k57.trans hkW2).any,hg,?_⟩
  rw[hXM]
  intro p hp
  simp only[List.mem_cons] at hp
  rcases hp with rfl|rfl|rfl|rfl|hp
  ·exact hBx2.kp0 hkW2
  ·exact(hBs2.kp0 hk7).kp0 hkW2
  ·exact hDW2
  ·exact hLW2
  ·exact(X02 p hp).kp0 hkW2
 obtain⟨hv,hJ3⟩:=hh
 have hl3:Blk W3 (W7.heap.size+1) (.loop (rc2 .ready)):=by
  obtain⟨_,_,-,-,-,-,hX⟩:=hJ3
  exact hX _ ml
 refine⟨hv,hl3,?_⟩
 obtain⟨W4,hW4⟩:∃W4,W3.putObj (W7.heap.size+1) (.loop (rc2 .exhausted))=W4:=⟨_,rfl⟩
 rw[hW4]
 have hk4':Kp [W7.heap.size+1] W3 W4:=by
  rw[←hW4]
  exact Kp.set W3 hl3 rfl rfl
 have hL4:Blk W4 (W7.heap.size+1) (.loop (rc2 .exhausted)):=by
  rw[←hW4]
  exact tX hl3 _
 have hJ4:=hput hJ3 hk4' hL4
 rw[List.drop_zero] at hJ4
 have mE:(W7.heap.size,Obj.deferred (some []))∈XM .exhausted:=by rw[hXM];exact .tail _ (.tail _ (.head _))
 have mF:(w7.heap.size,Obj.deferred (some []))∈XM .exhausted:=mY (by rw[hX2];exact .head _)
 have hD:Blk W4 W7.heap.size (.deferred (some []))∧Blk W4 w7.heap.size (.deferred (some [])):=by
  obtain⟨_,_,-,-,-,-,hX⟩:=hJ4
  exact⟨hX _ mE,hX _ mF⟩
 have hlt:w7.heap.size<W7.heap.size:=hXl2 _ (by rw[hX2];exact .head _)
 have hes:zB c.ns E1 (c.tr.fQ now old)=swE c.ns c.tr (c.ps.map Em.en) old now:=by unfold swE;rw[hE1]
 rw[hes] at hJ4
 have kA:=Kp.set W4 (o':= .deferred none) hD.1 rfl rfl
 have hD2:=hD.2.kp kA (nm1 (by omega))
 have hJ5:=hJ4.put (X':=[(w7.heap.size,Obj.deferred (some []))]) kA hD.1 (by have:=h.w0;omega) trivial (by omega) (fun p hp=>by
  rw[List.mem_singleton] at hp
  subst hp
  exact Or.inr hD2)
 refine yC (Or.inl rfl) Tryz.results75 rfl hD.1 (by omega) hD.2 ⟨rfl,?_⟩
 exact hJ5.put (X':=[]) (Kp.set _ hD2 rfl rfl) hD2 (by have:=h.w0;omega) trivial (by omega) (fun p hp=>by cases hp)
end
section
open Classical in
noncomputable def gK(nb:Nbk)(h:Int)(mk:Dg):Fb→Tl→List Int→List Tx→Int×Fb×Tl×List Int
 |f,t,es,[]=>(0,f,t,es)
 |f,t,es,x::l=>if gQ nb x≠0 then(gQ nb x,f,t,es) else if gl f x≠0 then(gl f x,f,t,es) else gK nb h mk (dof f mk x) (dot t f h mk x) (doa es f mk x) l
open Classical in
noncomputable def adZ(nb:Nbk)(c:Cm)(b:Bl):Int:=
 if aQ b≠0 then aQ b else if(au c.ns (aF b)).isSome then 7 else
 match au c.ns b.par with
 |none=>24
 |some q=>if nj b q.2.x.b≠0 then nj b q.2.x.b else if(gK nb b.ht b.mkr q.2.f q.2.t [] b.txs).1≠0 then(gK nb b.ht b.mkr q.2.f q.2.t [] b.txs).1 else c.tr.addE (aF b) b.par
theorem vh{nb:Nbk}{h:Int}{mk:Dg}{f:Fb}{t:Tl}{es:List Int}:gK nb h mk f t es []=(0,f,t,es):=rfl
theorem vf{nb:Nbk}{h:Int}{mk:Dg}{f:Fb}{t:Tl}{es:List Int}{x:Tx}{l:List Tx}(hz:gQ nb x≠0):(gK nb h mk f t es (x::l)).1=gQ nb x:=by
 unfold gK
 rw[if_pos hz]
theorem vg{nb:Nbk}{h:Int}{mk:Dg}{f:Fb}{t:Tl}{es:List Int}{x:Tx}{l:List Tx}(hz:gQ nb x=0)(hp:gl f x≠0):(gK nb h mk f t es (x::l)).1=gl f x:=by
 unfold gK
 rw[if_neg (fun g=>g hz),if_pos hp]
theorem x9{nb:Nbk}{h:Int}{mk:Dg}{f:Fb}{t:Tl}{es:List Int}{x:Tx}{l:List Tx}(hz:gQ nb x=0)(hp:gl f x=0):gK nb h mk f t es (x::l)=gK nb h mk (dof f mk x) (dot t f h mk x) (doa es f mk x) l:=by
 show(if gQ nb x≠0 then _ else if gl f x≠0 then _ else _)=_
 rw[if_neg (fun g=>g hz),if_neg (fun g=>g hp)]
theorem xC{b p:Bl}(h:nj b p=0):b.ht=p.ht+1:=by
 unfold nj at h
 split at h
 ·rename_i g
  exact absurd h g
 ·split at h
  ·cases h
  ·rename_i g
   exact Classical.byContradiction (fun e=>g (Or.inr (Or.inr e)))
def ndB(bk tb:Nat)(va:Value)(y:Bm)(vn:Value):List Value:=bhp bk tb va (bkc y++[vn])
theorem Jp(w:World)(bk tb:Nat)(a0 a1 a2 a3 a4 a5 a6 a7 b0 b1 b2 b3 b4 b5 b6 b7:UInt8)(h:Int)(a:Option Addr)(n c:Nat):(Instr.build 118 #[(0,bhv bk tb (.slice none 0 0)),(1,.agg #[bv a0,bv a1,bv a2,bv a3,bv a4,bv a5,bv a6,bv a7,.int .i64 h,bv b0,bv b1,bv b2,bv b3,bv b4,bv b5,bv b6,bv b7,.slice a n c])]).run Tryz.prog w=
  .ok (.agg #[.pointer (some ⟨bk,0,none⟩),.iface 74 (.pointer (some ⟨tb,0,none⟩)),.slice none 0 0,bv a0,bv a1,bv a2,bv a3,bv a4,bv a5,bv a6,bv a7,.int .i64 h,bv b0,bv b1,bv b2,bv b3,bv b4,bv b5,bv b6,bv b7,.slice a n c,.slice none 0 0]) w:=by kernel_rfl
theorem bnd(bk tb:Nat)(y:Bm)(w:World):(Instr.build 118 #[(0,bhv bk tb (.slice none 0 0)),(1,bkv y)]).run Tryz.prog w= .ok (.agg (ndB bk tb (.slice none 0 0) y (.slice none 0 0)).toArray) w:=by
 obtain⟨⟨la,ha⟩,h,⟨lb,hb⟩,a,c,xs⟩:=y
 match la,ha,lb,hb with
 |[a0,a1,a2,a3,a4,a5,a6,a7],_,[b0,b1,b2,b3,b4,b5,b6,b7],_=>exact Jp w bk tb a0 a1 a2 a3 a4 a5 a6 a7 b0 b1 b2 b3 b4 b5 b6 b7 h a xs.length c
theorem pf{w:World}{b bk tb:Nat}{va vn:Value}{y:Bm}{T:TypeId}(h:Blk w b (.cells (ndB bk tb va y vn).toArray T)):Row w b 20 [.slice y.a y.xs.length y.c]∧Row w b 21 [vn]:=by
 have e:ndB bk tb va y vn=bhc bk tb va++(bkc y++[vn]):=rfl
 have h3:=Row.of h (bhc bk tb va) [vn] (l:=bkc y) (by rw[e]) rfl
 have h6:=Row.of h (bhc bk tb va++bkc y) [] (l:=[vn]) (by rw[e,List.append_assoc,List.append_nil]) (by rw[List.length_append,aD])
 exact⟨(jO h3).2.2.2,h6⟩
theorem NoT.nb{T:TypeId}{n b:Nat}{w:World}{S:List Nat}{cs:Array Value}(h:NoT T n w S)(hB:Blk w b (.cells cs T)):b∉S:=fun hm=>(h b hm).2 _ _ hB
theorem yx(bk tb:Nat)(va:Value)(y:Bm)(vn:Value):(ndB bk tb va y vn).toArray.toList=(bhc bk tb va++bkc y)++([vn]++[]):=by simp[ndB,bhp,bhc]
theorem vG(bk tb:Nat)(va:Value)(y:Bm)(vn:Value):(bhc bk tb va++bkc y)++([vn]++[])=ndB bk tb va y vn:=by simp[ndB,bhp,bhc]
theorem yw(bk tb:Nat)(va:Value)(y:Bm):(bhc bk tb va++bkc y).length=21:=by rw[List.length_append,aD];rfl
structure AdJ(wT:World)(b bm0:Nat)(y:Bm)(tot:Int)(N i:Nat)(bk bm tb:Nat)(m:Bk)(f:Fb)(t:Tl)(va:Value)(es:List Int)(vn:Value)(W:World):Prop where
 kp:Kp [b,bm0] wT W
 st:fS W 118 (bkc y++[vn]) b bk bm tb m t va
 bm:bm=bm0∨wT.heap.size≤bm
 bi:BkI tot (N+6*i) m f
 tn:t.n≤N+i
 oa:W.ownsRow wT.heap.size 36 1 va es.length (flt ziL es)
 el:es.length=i
 on:W.ownsRow wT.heap.size 47 8 vn i (flt dc ((y.xs.take i).map (fun x=>aK x.t)))
section
variable {wT:World} {b bm0:Nat} {y:Bm} {tot:Int} {N i:Nat} {bk bm tb:Nat} {m:Bk} {f:Fb} {t:Tl} {va:Value} {es:List Int} {vn:Value} {W W':World}
theorem AdJ.kp0(J:AdJ wT b bm0 y tot N i bk bm tb m f t va es vn W)(hk:Kp [] W W'):AdJ wT b bm0 y tot N i bk bm tb m f t va es vn W':=
 ⟨J.kp.trans hk.any,J.st.kp0 hk,J.bm,J.bi,J.tn,aI J.oa hk,J.el,aI J.on hk⟩
theorem AdJ.no(J:AdJ wT b bm0 y tot N i bk bm tb m f t va es vn W){T:TypeId}(h1:118≠T)(h2:36≠T):NoT T 0 W (b::bm::aU va):=
 NoT.cons (Nat.zero_le _) (NoT.cells J.st.blk h1) (NoT.cons (Nat.zero_le _) (J.st.book.map.noT _) (NoT.own J.oa (Nat.zero_le _) h2))
theorem AdJ.sub(J:AdJ wT b bm0 y tot N i bk bm tb m f t va es vn W):∀z∈b::bm::aU va,z∈[b,bm0]∨wT.heap.size≤z:=fun z hz=>by
 rcases List.mem_cons.1 hz with rfl|hz
 ·exact Or.inl (by simp)
 rcases List.mem_cons.1 hz with rfl|hz
 ·exact J.bm.elim (fun e=>Or.inl (by simp[e])) Or.inr
 ·exact Or.inr (bF J.oa z (aC hz))
theorem AdJ.did(J:AdJ wT b bm0 y tot N i bk bm tb m f t va es vn W)(hi:i<y.xs.length){x:Tx}(hx:x=y.xs[i].t){h:Int}{mk:Dg}(hp:gl f x=0){bk' bm' tb':Nat}{m':Bk}{va' vn':Value}{W2 W3:World}
  (hst:fS W' 118 (bkc y++[vn]) b bk' bm' tb' m' (dot t f h mk x) va') (hbi:BkI tot (N+6*i+6) m' (dof f mk x)) (hoa:W'.ownsRow wT.heap.size 36 1 va' (doa es f mk x).length (flt ziL (doa es f mk x))) (hk:Kp (b::bm::aU va) W W') (hbm:bm'=bm∨W.heap.size≤bm')
  (hk2:Kp (aU vn) W' W2) (hon:W2.ownsRow wT.heap.size 47 8 vn' (i+1) (flt dc ((y.xs.take (i+1)).map (fun x=>aK x.t)))) (hk3:Kp [b] W2 W3) (hB:Blk W3 b (.cells (ndB bk' tb' va' y vn').toArray 118)):AdJ wT b bm0 y tot N (i+1) bk' bm' tb' m' (dof f mk x) (dot t f h mk x) va' (doa es f mk x) vn' W3:=by
 have ho':W'.ownsRow wT.heap.size 47 8 vn i (flt dc ((y.xs.take i).map (fun x=>aK x.t))):=a8 J.on hk (cZ J.on (J.no (by decide) (by decide)))
 have no2:∀{T:TypeId},47≠T→NoT T 0 W' (aU vn):=fun h1=>NoT.own ho' (Nat.zero_le _) h1
 have nb2:∀{T:TypeId} {z:Nat} {cs:Array Value},47≠T→Blk W' z (.cells cs T)→z∉aU vn:=fun h1 hb hm=>(no2 h1 _ hm).2 _ _ hb
 have hst2:fS W2 118 (bkc y++[vn]) b bk' bm' tb' m' (dot t f h mk x) va':=⟨hst.blk.kp hk2 (nb2 (by decide) hst.blk),⟨hst.book.blk.kp hk2 (nb2 (by decide) hst.book.blk),hst.book.map.kp hk2 (fun hm=>ia ho' hst.book.map _ (aC hm) (List.mem_singleton.2 rfl))⟩,hst.app.kp hk2 (nb2 (by decide) hst.app)⟩
 have hoa2:=a8 hoa hk2 (cZ hoa (no2 (by decide)))
 refine⟨((J.kp.st hk J.sub).st hk2 (fun z hz=>Or.inr (bF ho' z (aC hz)))).trans (hk3.mono (fun z hz=>by rw[List.mem_singleton] at hz;rw[hz];simp)),hst2.kpb va' hk3 hB (by decide) (by decide),?_,hbi.mono (by omega),by have:=J.tn;have:=yW t f h mk x;omega,a8 hoa2 hk3 (bQ hoa2 (by decide) hst2.blk),?_,a8 hon hk3 (bQ hon (by decide) hst2.blk)⟩
 ·rcases hbm with rfl|g
  ·exact J.bm
  ·exact Or.inr (Nat.le_trans J.kp.size g)
 ·unfold doa
  rw[if_pos hp,List.length_append,J.el]
  rfl
end
end
section
def Tr.IE(t:Tr):Nat:=max 1 (t.ht t.tip+1-t.depth)
def Tr.fin(t:Tr):List Dg:=(t.line t.tip).take t.IE
attribute [local irreducible] CG NG SG aJ Der Row Blk av
end
section
theorem rC{t:Tr}(wf:t.WF){a b d:Dg}(ha:t.has a=true)(hd:d∈t.fQ a b):t.has d=true:=by
 have key:∀(k:Nat) {x:Dg},t.has x=true→k≤t.ht x→∀d∈t.cY k x,t.has d=true:=by
  intro k
  induction k with
  |zero=>
   intro x hx _ d hd
   rw[Tr.cY,List.mem_singleton] at hd
   rw[hd]
   exact hx
  |succ k ih=>
   intro x hx hk d hd
   have h1:=wf.anc 1 hx (by omega)
   rcases List.mem_cons.1 hd with rfl|hd
   ·exact hx
   ·exact ih h1.1 (by have:=h1.2;show k≤t.ht (t.anc 1 x);omega) d hd
 exact key _ ha (by unfold Tr.und;omega) d (List.mem_of_mem_take hd)
theorem xe{t:Tr}(wf:t.WF){a b:Dg}(ha:t.has a=true):t.und a b≤100000:=by
 have:=wf.bound ha
 unfold Tr.und
 omega
theorem dw.nmt{w:World}{n:Nat}{A:List Nat}{tot:Int}{c:Cm}(h:dw w n A tot c):Cnd n CT A w [c.tb,c.tm]:=(Cnd.cells h.bn h.tree.blk (by decide)).cons (Cnd.map h.tn h.tree.map h.tA)
theorem dw.BL{w w':World}{n:Nat}{A:List Nat}{tot:Int}{c:Cm}{t':Tr}(h:dw w n A tot c)(hk:Kp [c.tb,c.tm] w w')(hT:bE w' c.tb c.tm t'):dw w' n A tot {c with tr:=t'}:=by
 have nb:∀{T:TypeId} {b:Nat} {cs:Array Value},T≠200→Blk w b (.cells cs T)→b∉[c.tb,c.tm]:=fun h1 hb=>nm2 (fun e=>by
  subst e
  have:=hb.uniq h.tree.blk
  simp only[Obj.cells.injEq] at this
  exact h1 this.2.1) (fun e=>cE hb h.tree.map e.symm)
 have nT:NoT 216 n w [c.tb,c.tm]:=NoT.cons h.bn (NoT.cells h.tree.blk (by decide)) (NoT.cons h.tn (h.tree.map.noT _) NoT.nil)
 have nU:NoT 5 n w [c.tb,c.tm]:=NoT.cons h.bn (NoT.cells h.tree.blk (by decide)) (NoT.cons h.tn (h.tree.map.noT _) NoT.nil)
 exact⟨h.blk.kp hk (nb (by decide) h.blk),hT,h.pool.kp hk (nb (by decide) h.pool.blk) (cZ h.pool.own nT) nU,h.map.kp hk (nm2 (fun e=>cE h.tree.blk h.map e) (fun e=>h.ne e.symm)),h.nodes hk h.nmt,h.tA,h.nA,h.ne,h.tn,h.nn,h.bn,Nat.le_trans h.w0 hk.size⟩
theorem dw.ins{w w':World}{n:Nat}{A:List Nat}{tot:Int}{c:Cm}{d:Dg}{b:Nat}{q:Nm}(h:dw w n A tot c)(hk:Kp [c.nm] w w')(hM:av w' c.nm (dv (n:=8)) ndP (ca c.ns d (b,q)))(hN:ri w' n A tot b q):dw w' n A tot {c with ns:=ca c.ns d (b,q)}:=by
 have hS:Cnd n CT A w [c.nm]:=Cnd.map h.nn h.map h.nA
 have nb:∀{T:TypeId} {z:Nat} {cs:Array Value},Blk w z (.cells cs T)→z∉[c.nm]:=fun hb=>nm1 (fun e=>cE hb h.map e.symm)
 have nT:∀T,NoT T n w [c.nm]:=fun T=>NoT.cons h.nn (h.map.noT _) NoT.nil
 have hmem:∀{m:List (Dg×Nat×Nm)} {p:Dg×Nat×Nm},p∈ca m d (b,q)→p=(d,b,q)∨p∈m:=by
  intro m
  induction m with
  |nil=>intro p hp;simp[ca] at hp;exact Or.inl hp
  |cons a m ih=>
   obtain⟨x,y⟩:=a
   intro p hp
   unfold ca at hp
   by_cases e:x=d
   ·rw[if_pos e] at hp
    rcases List.mem_cons.1 hp with hp|hp
    ·exact Or.inl (by rw[hp,e])
    ·exact Or.inr (List.mem_cons_of_mem _ hp)
   ·rw[if_neg e] at hp
    rcases List.mem_cons.1 hp with hp|hp
    ·exact Or.inr (by rw[hp];exact List.mem_cons_self)
    ·rcases ih hp with hp|hp
     ·exact Or.inl hp
     ·exact Or.inr (List.mem_cons_of_mem _ hp)
 exact⟨h.blk.kp hk (nb h.blk),h.tree.kp hk (nb h.tree.blk) (nm1 h.ne),h.pool.kp hk (nb h.pool.blk) (cZ h.pool.own (nT _)) (nT _),hM,fun p hp=>(hmem hp).elim (fun e=>by rw[e];exact hN) (fun g=>h.nodes hk hS p g),h.tA,h.nA,h.ne,h.tn,h.nn,h.bn,Nat.le_trans h.w0 hk.size⟩
def chS(c:Cm):List Nat:=c.tb::c.tm::c.nm::c.pb::aU c.pv
structure pQ(c:Cm)(H:Int):Prop where
 wf:c.tr.WF
 dep:c.tr.depth≤1000
 pool:eB 256 (c.ps.map Em.en)
 has:∀d,c.tr.has d=(au c.ns d).isSome
 nd:∀d q,au c.ns d=some q→0≤q.2.x.ht∧q.2.x.ht≤H∧(q.2.t.n:Int)≤64*q.2.x.ht
theorem pQ.get{c:Cm}{H:Int}(h:pQ c H){d:Dg}(hd:c.tr.has d=true):∃q,au c.ns d=some q:=by
 rw[h.has] at hd
 exact Option.isSome_iff_exists.1 hd
end
section
def CH(w:World)(n:Nat)(A:List Nat)(tot:Int)(c:Cm)(nb:Nbk)(b:Bl)(w':World):Prop:=
 ∃pv' ps' z q,dw w' n A tot {c with pv:=pv',ps:=ps',tr:=c.tr.add (aF b) b.par,ns:=ca c.ns (aF b) (z,q)}∧q.x.b=b∧(∃p,au c.ns b.par=some p∧gK nb b.ht b.mkr p.2.f p.2.t [] b.txs=(0,q.f,q.t,q.es))∧
  ps'.map Em.en=(if(c.tr.add (aF b) b.par).tip=c.tr.tip then c.ps.map Em.en else swE (ca c.ns (aF b) (z,q)) (c.tr.add (aF b) b.par) (c.ps.map Em.en) c.tr.tip (c.tr.add (aF b) b.par).tip)∧Kp (chS c) w w'∧(∀g,pv'.ownBlock=some g→c.pv.ownBlock=some g∨w.heap.size≤g)∧(∀b off,q.x.a=some ⟨b,off,none⟩→w.heap.size≤b)
def xc(w:World)(n:Nat)(A:List Nat)(tot:Int)(c:Cm)(nb:Nbk)(b:Bl)(e:Ending)(w':World):Prop:=
 e= .returned (.int .i64 (adZ nb c b))∧(adZ nb c b≠0∧dw w' n A tot c∧Kp (chS c) w w'∨adZ nb c b=0∧CH w n A tot c nb b w')
theorem xc.no{w:World}{n:Nat}{A:List Nat}{tot:Int}{c:Cm}{nb:Nbk}{b:Bl}{w':World}{z:Int}(h:dw w n A tot c)(hk:Kp [] w w')(hz:adZ nb c b=z)(h0:z≠0):xc w n A tot c nb b (.returned (.int .i64 z)) w':=⟨by rw[hz],Or.inl ⟨by rw[hz];exact h0,h.kp0 hk,hk.any⟩⟩
theorem nu{nb:Nbk}{c:Cm}{b:Bl}(h:aQ b≠0):adZ nb c b=aQ b:=by unfold adZ;rw[if_pos h]
theorem nt{nb:Nbk}{c:Cm}{b:Bl}{q:Nat×Nm}(h:aQ b=0)(h1:au c.ns (aF b)=some q):adZ nb c b=7:=by unfold adZ;rw[if_neg (fun g=>g h),h1];rfl
theorem um{nb:Nbk}{c:Cm}{b:Bl}(h:aQ b=0)(h1:au c.ns (aF b)=none)(h2:au c.ns b.par=none):adZ nb c b=24:=by unfold adZ;rw[if_neg (fun g=>g h),h1,h2];rfl
open Classical in
theorem uo{nb:Nbk}{c:Cm}{b:Bl}{q:Nat×Nm}(h:aQ b=0)(h1:au c.ns (aF b)=none)(h2:au c.ns b.par=some q):adZ nb c b=if nj b q.2.x.b≠0 then nj b q.2.x.b else if(gK nb b.ht b.mkr q.2.f q.2.t [] b.txs).1≠0 then(gK nb b.ht b.mkr q.2.f q.2.t [] b.txs).1 else c.tr.addE (aF b) b.par:=by
 unfold adZ
 rw[if_neg (fun g=>g h),h1,h2]
 rfl
attribute [local irreducible] CG NG SG aJ Der Row Blk av aA aK gQ dof dot doa gl aF aQ nj gK adZ orZ
theorem tV{w:World}{n:Nat}{A:List Nat}{tot:Int}{c:Cm}(h:dw w n A tot c){H:Int}(ok:pQ c H)(hH:H≤500)(ht:tot≤1000000000)(hA:∀a∈A,a<w.heap.size){base pm:Nat}{v:Value}{nb:Nbk}(hN:dQ w base c.vb pm v nb){x:Bm}(hx:x.In n w):
  Calls Tryz.prog 27 #[.pointer (some ⟨c.cb,0,none⟩),bkv x] w (xc w n A tot c nb x.b):=by
 refine aT Tryz.func27 rfl Tryz.ntmps27 rfl ?_
 repeat apply gst
 refine SG.box rfl rfl rfl (ag rfl) (fun b3 w1 hk1 hb3 hB3=>?_)
 have hB3:Blk w1 b3 (.cells (bkc x).toArray 50):=hB3
 obtain⟨r,-⟩:=bg hB3
 repeat (first|apply gst|(apply gsv;rfl;(first|apply qep|apply qmv|apply qas)<;>rfl))
 refine gcf rfl ?_
 repeat (first|apply gst|(apply gsv;rfl;apply qla<;>first|rfl|assumption|exact List.not_mem_nil|apply aD))
 by_cases hz:aQ x.b=0
 rotate_left
 ·have eo:orZ x.b (aF x.b)= .tuple #[dv zd,.int .i64 (aQ x.b)]:=by unfold orZ;rw[if_neg hz]
  have hnm:=dN (hx.kp0 hk1)
  rw[eo] at hnm
  refine SG.ret rfl rfl rfl (vs:=[bkv x]) (Evs.of rfl) hnm (fun w2 hk2=>?_)
  clear r
  repeat (apply gsv;rfl;(first|apply qmv|apply qxt)<;>rfl)
  refine SG.alloc rfl rfl rfl (fun b5 w3 hk3 hb5 hB5=>?_)
  refine SG.aB (l:=dc zd) rfl rfl (ag rfl) (ag rfl) hB5 (ah _) rfl (aO _) (fun w4 hk4 hB5=>?_)
  repeat (first|apply gst|(apply gsv;rfl;(first|apply qmv|apply qas|apply qni)<;>first|rfl|(apply dcf;first|assumption|omega)))
  refine gct rfl ?_
  repeat (first|apply gst|(apply gsv;rfl;(first|apply qmv|apply qas)<;>rfl))
  refine aN (Or.inl rfl) Tryz.results27 (aw.tmp rfl) ?_
  exact xc.no h ((hk1.trans hk2).trans (hk3.ai hk4 (aV hb5))) (nu hz) hz
 have eo:orZ x.b (aF x.b)= .tuple #[dv (aF x.b),.int .i64 0]:=by unfold orZ;rw[if_pos hz]
 have hnm:=dN (hx.kp0 hk1)
 rw[eo] at hnm
 refine SG.ret rfl rfl rfl (vs:=[bkv x]) (Evs.of rfl) hnm (fun w2 hk2=>?_)
 clear r hnm eo
 repeat (apply gsv;rfl;(first|apply qmv|apply qxt)<;>rfl)
 refine SG.alloc rfl rfl rfl (fun b5 w3 hk3 hb5 hB5=>?_)
 refine SG.aB (l:=dc (aF x.b)) rfl rfl (ag rfl) (ag rfl) hB5 (ah _) rfl (aO _) (fun w4 hk4 hB5=>?_)
 have k34:=hk3.ai hk4 (aV hb5)
 have k4:=(hk1.trans hk2).trans k34
 have hB3:=hB3.kp0 (hk2.trans k34)
 have q5:Row w4 b5 0 (dc (aF x.b)):=Row.all hB5 rfl
 have h4:=h.kp0 k4
 obtain⟨-,-,-,-,-,-,r6⟩:=bZ h4
 have hM:=h4.map
 repeat (first|apply gst|(apply gsv;rfl;(first|apply qmv|apply qas|apply qni)<;>first|rfl|(apply dct;first|assumption|omega)))
 refine gcf rfl ?_
 repeat apply gst
 cases hhas:au c.ns (aF x.b) with
 |some q0=>
  refine CG.fN mixed [0,1,2,3,4,5,6,7,8,9,10] [] (by kernel_rfl) ?_
  repeat (apply gdv;rfl;rfl;(first|apply qmv|apply qas|apply qlc|apply qla|apply qfa|apply qnc|apply qlk|apply qxt)<;>first|rfl|assumption|exact List.not_mem_nil|apply ah|exact lk1 (by assumption)|fail)
  refine Der.fin (fun w5 hk5 _ _=>?_)
  clear q5 r6 hM
  repeat (first|apply gst|(apply gsv;rfl;apply qmv<;>rfl))
  refine gct rfl ?_
  repeat (first|apply gst|(apply gsv;rfl;apply qas<;>rfl))
  refine aN (Or.inl rfl) Tryz.results27 (aw.tmp rfl) ?_
  exact xc.no h (k4.trans hk5) (nt hz hhas) (by decide)
 |none=>
 refine CG.fN mixed [0,1,2,3,4,5,6,7,8,9,10] [] (by kernel_rfl) ?_
 repeat (apply gdv;rfl;rfl;(first|apply qmv|apply qas|apply qlc|apply qla|apply qfa|apply qnc|apply qlk|apply qxt)<;>first|rfl|assumption|exact List.not_mem_nil|apply ah|exact lk0 (by assumption)|fail)
 refine Der.fin (fun w5 hk5 _ _=>?_)
 repeat (first|apply gst|(apply gsv;rfl;apply qmv<;>rfl))
 refine gcf rfl ?_
 have k5:=k4.trans hk5
 have hB3:=hB3.kp0 hk5
 obtain⟨-,r0,-⟩:=bg hB3
 have h5:=h.kp0 k5
 have hM:=h5.map
 have r6:=r6.kp0 hk5
 clear q5
 repeat apply gst
 cases hpar:au c.ns x.par with
 |none=>
  refine CG.fN mixed [0,1,2,3,4,5,6,7,8,9,10,11] [] (by kernel_rfl) ?_
  repeat (apply gdv;rfl;rfl;(first|apply qmv|apply qas|apply qlc|apply qla|apply qfa|apply qnc|apply qlk|apply qxt)<;>first|rfl|assumption|exact List.not_mem_nil|apply ah|exact lk0 (by assumption)|fail)
  refine Der.fin (fun w6 hk6 _ _=>?_)
  clear r0 r6 hM
  repeat (first|apply gst|(apply gsv;rfl;(first|apply qmv|apply qnt)<;>rfl))
  refine gct rfl ?_
  repeat (first|apply gst|(apply gsv;rfl;apply qas<;>rfl))
  refine aN (Or.inl rfl) Tryz.results27 (aw.tmp rfl) ?_
  exact xc.no h (k5.trans hk6) (um hz hhas hpar) (by decide)
 |some q=>
 refine CG.fN mixed [0,1,2,3,4,5,6,7,8,9,10,11] [] (by kernel_rfl) ?_
 repeat (apply gdv;rfl;rfl;(first|apply qmv|apply qas|apply qlc|apply qla|apply qfa|apply qnc|apply qlk|apply qxt)<;>first|rfl|assumption|exact List.not_mem_nil|apply ah|exact lk1 (by assumption)|fail)
 refine Der.fin (fun w6 hk6 _ _=>?_)
 clear r0 r6 hM
 have ead:=uo (nb:=nb) hz hhas hpar
 repeat (first|apply gst|(apply gsv;rfl;(first|apply qmv|apply qnt)<;>rfl))
 refine gcf rfl ?_
 have k6:=k5.trans hk6
 have hB3:=hB3.kp0 hk6
 obtain⟨r,-⟩:=bg hB3
 have hQ:=(h.ndA hpar).kp0 k6
 obtain⟨-,-,t3,-⟩:=dh hQ.blk
 obtain⟨o1,o2,o3⟩:=ok.nd _ _ hpar
 repeat apply gst
 refine CG.tail mixed 5 [0,1,2,3,4] (by kernel_rfl) ?_
 repeat (apply gdv;rfl;rfl;(first|apply qmv|apply qla|apply qfa|apply qnc)<;>first|rfl|assumption|exact List.not_mem_nil|apply aD)
 refine Der.tl (fun w7 hk7 _ _=>?_)
 refine SG.ret rfl rfl rfl (vs:=[bkv x,bkv q.2.x]) (Evs.of rfl) (oH ((hx.kp0 k6).kp0 hk7) (hQ.kp0 hk7).x (by omega)) (fun w8 hk8=>?_)
 clear r t3
 have k8:=(k6.trans hk7).trans hk8
 by_cases hc:nj x.b q.2.x.b=0
 rotate_left
 ·rw[if_pos hc] at ead
  repeat (first|apply gst|(apply gsv;rfl;(first|apply qmv|apply qas|apply qni)<;>first|rfl|(apply dcf;first|assumption|omega)))
  refine gct rfl ?_
  repeat (first|apply gst|(apply gsv;rfl;(first|apply qmv|apply qas)<;>rfl))
  refine aN (Or.inl rfl) Tryz.results27 (aw.tmp rfl) ?_
  exact xc.no h k8 ead hc
 rw[if_neg (fun g=>g hc)] at ead
 rw[hc]
 repeat (first|apply gst|(apply gsv;rfl;(first|apply qmv|apply qas|apply qni)<;>first|rfl|(apply dct;first|assumption|omega)))
 refine gcf rfl ?_
 have hB3:=(hB3.kp0 hk7).kp0 hk8
 have hQ:=(hQ.kp0 hk7).kp0 hk8
 obtain⟨r,-⟩:=bg hB3
 obtain⟨t0,-⟩:=dh hQ.blk
 obtain⟨m,hm,hi⟩:=hQ.book
 repeat apply gst
 refine CG.dH mixed 6 [0,1,2,3,5,4] [4] [] (fun _=>True) (by kernel_rfl) trivial (fun _ _ _ _=>trivial) ?_
 repeat (apply gdv;rfl;rfl;(first|apply qmv|apply qla|apply qfa|apply qnc)<;>first|rfl|assumption|exact List.not_mem_nil|apply aD)
 refine Der.lN (X:=Nat×Nat×Nat×Bk) (vs:=[bhv q.2.bk q.2.tb (.slice q.2.ae q.2.es.length q.2.ce)]) (fun z=>bhv z.1 z.2.2.1 (.slice none 0 0)) (fun z W=>(bf W z.1 z.2.1 z.2.2.2∧z.2.2.2.Perm m∧j9 W z.2.2.1 q.2.t)∧w8.heap.size≤z.1∧w8.heap.size≤z.2.1∧w8.heap.size≤z.2.2.1) rfl rfl rfl rfl (Evs.of rfl) (fun z W W' hk h=>⟨⟨h.1.1.kp0 hk,h.1.2.1,h.1.2.2.kp0 hk⟩,h.2⟩) (fun _ _ _ h=>h) (fun W hk _=>(mJ (hm.kp0 hk) (hQ.app.kp0 hk)).mono (fun e W' hh=>?_)) (fun z=>?_)
 ·obtain⟨bk',bm',tb',m',rfl,hB',hp',hT',g1,g2,g3,hk'⟩:=hh
  have:=hk.size
  exact⟨(bk',bm',tb',m'),rfl,⟨⟨hB',hp',hT'⟩,Nat.le_trans this g1,Nat.le_trans this g2,Nat.le_trans this g3⟩,hk'⟩
 obtain⟨bk0,bm0,tb0,m0⟩:=z
 refine Der.tl (fun w9 hk9 hF _=>?_)
 obtain⟨-,⟨hB9,hp9,hT9⟩,g1,g2,g3⟩:=hF
 simp only at hB9 hp9 hT9 g1 g2 g3
 have k9:=k8.trans hk9
 refine SG.call rfl rfl rfl (vs:=[bkv x]) (Evs.of rfl) ((gH (hx.kp0 k9)).mono (fun e w10 hh=>?_))
 obtain⟨y,hy,rfl,hY,hk10,hyn⟩:=hh
 have hyn:∀b off,y.a=some ⟨b,off,none⟩→w.heap.size≤b:=fun b off e=>Nat.le_trans k9.size (hyn b off e)
 refine⟨_,rfl,?_⟩
 refine SG.val rfl rfl rfl rfl (ar rfl (bnd bk0 tb0 y)) ?_
 clear r t0
 refine SG.box rfl rfl rfl (ag rfl) (fun b12 wT hkT hb12 hB12=>?_)
 have hB12:Blk wT b12 (.cells (ndB bk0 tb0 (.slice none 0 0) y (.slice none 0 0)).toArray 118):=hB12
 have kT:=(k9.trans hk10).trans hkT
 have k89:=(hk9.trans hk10).trans hkT
 have hY:=hY.kp0 hkT
 have hB9:=(hB9.kp0 hk10).kp0 hkT
 have hT9:=(hT9.kp0 hk10).kp0 hkT
 have l12:=hB12.lt
 have lm0:=hB9.map.lt
 have s8:=k8.size
 have s89:=k89.size
 have s910:=(hk9.trans hk10).size
 have hB3T:=hB3.kp0 k89
 have l3:=hB3.lt
 obtain⟨u20,u21⟩:=pf hB12
 have hi0:BkI tot (ndN q.2) m0 q.2.f:=hi.perm hp9
 have J0:AdJ wT b12 bm0 y tot (ndN q.2) 0 bk0 bm0 tb0 m0 q.2.f q.2.t (.slice none 0 0) [] (.slice none 0 0) wT:=
  ⟨Kp.refl _ _,⟨hB12,hB9,hT9⟩,Or.inl rfl,hi0,by unfold ndN;omega,cC,rfl,cC⟩
 have hb5:Blk wT b5 (.cells (dc (aF x.b)).toArray 47):=(hB5.kp0 ((hk5.trans hk6).trans (hk7.trans hk8))).kp0 k89
 have l5:b5<w8.heap.size:=((hB5.kp0 ((hk5.trans hk6).trans (hk7.trans hk8)))).lt
 have hyl:=hY.len
 have hyt:y.xs.map (·.t)=x.b.txs:=by rw[←hy];rfl
 repeat (first|apply gst|(apply gsv;rfl;(first|apply qmv|apply qas|apply qlc|apply qfa|apply qnc|apply qln)<;>first|rfl|assumption|exact List.not_mem_nil))
 refine CG.loop (X:=Nat×(Nat×Nat×Nat×Bk)×(Fb×Tl×List Int)×(Value×Value)) (fun z=>[(0,.pointer (some ⟨c.cb,0,none⟩)),(3,.pointer (some ⟨b3,0,none⟩)),(5,.pointer (some ⟨b5,0,none⟩)),(12,.pointer (some ⟨b12,0,none⟩)),(74,.slice y.a y.xs.length y.c),(75,.int .i64 (y.xs.length:Int)),(76,.int .i64 (z.1:Int))])
  (fun z W=>z.1≤y.xs.length∧AdJ wT b12 bm0 y tot (ndN q.2) z.1 z.2.1.1 z.2.1.2.1 z.2.1.2.2.1 z.2.1.2.2.2 z.2.2.1.1 z.2.2.1.2.1 z.2.2.2.1 z.2.2.1.2.2 z.2.2.2.2 W∧gK nb x.b.ht x.b.mkr q.2.f q.2.t [] x.b.txs=gK nb x.b.ht x.b.mkr z.2.2.1.1 z.2.2.1.2.1 z.2.2.1.2.2 ((y.xs.drop z.1).map (·.t)))
  (fun z=>y.xs.length-z.1) (0,(bk0,bm0,tb0,m0),(q.2.f,q.2.t,[]),(.slice none 0 0,.slice none 0 0)) ⟨Nat.zero_le _,J0,by rw[←hyt];rfl⟩ (aW.of rfl) ?_
 rintro⟨i,⟨bk,bm,tb,mm⟩,⟨f,t,es⟩,⟨va,vn⟩⟩ W ⟨hi',J,hrun⟩
 simp only at hi' J hrun
 refine CG.to [(0,.pointer (some ⟨c.cb,0,none⟩)),(3,.pointer (some ⟨b3,0,none⟩)),(5,.pointer (some ⟨b5,0,none⟩)),(12,.pointer (some ⟨b12,0,none⟩)),(74,.slice y.a y.xs.length y.c),(75,.int .i64 (y.xs.length:Int)),(76,.int .i64 (i:Int))] (aW.of rfl) ?_
 clear u20 u21 J0
 have s1:=hk1.size
 have kW:Kp [] w W:=kT.ai J.kp (fun z hz=>by
  simp only[List.mem_cons,List.mem_nil_iff,or_false] at hz
  exact Or.inr (by omega))
 have hO:Oth 0 wT [b12,bm0]:=Oth.cons (Nat.zero_le _) (Oth.cells hB12 (by decide)) (Oth.cons (Nat.zero_le _) (hB9.map.noT _) Oth.nil)
 have hNx:NoT 52 0 wT [b12,bm0]:=NoT.cons (Nat.zero_le _) (NoT.cells hB12 (by decide)) (NoT.cons (Nat.zero_le _) (hB9.map.noT _) NoT.nil)
 have hYW:y.In 0 W:=⟨hY.tx.kp J.kp hO hNx,hyl⟩
 have hB3W:=hB3T.kp J.kp (nm2 (by omega) (by omega))
 have hB5W:=hb5.kp J.kp (nm2 (by omega) (by omega))
 have sW:=J.kp.size
 have hbig:ndN q.2≤300000:=by unfold ndN;omega
 have hy64:y.xs.length≤64:=by
  have:=jq hz
  rw[←hyt,List.length_map] at this
  exact this
 by_cases hlt:i<y.xs.length
 rotate_left
 ·have ei:i=y.xs.length:=by omega
  have g1':¬(i:Int)<(y.xs.length:Int):=by omega
  rw[List.drop_eq_nil_of_le (by omega),List.map_nil,vh] at hrun
  rw[hrun,if_neg (fun g=>g rfl)] at ead
  subst ei
  have hel:=J.el
  obtain⟨ae,ce,rfl⟩:=jr J.oa
  obtain⟨an,cn,rfl⟩:=jr J.on
  obtain⟨qn,hqn⟩:∃qn:Nm,qn=⟨bk,bm,tb,f,t,ae,ce,es,y,an,cn⟩:=⟨_,rfl⟩
  have hW:=h.kp0 kW
  have hxW:=hx.kp0 kW
  have hnm:y.xs.take y.xs.length=y.xs:=List.take_of_length_le (Nat.le_refl _)
  have hbm:w.heap.size≤bm:=J.bm.elim (fun e=>by omega) (fun g=>by have:=kT.size;omega)
  have hyht:y.ht=q.2.x.ht+1:=by
   have h1:y.ht=x.b.ht:=by rw[←hy];rfl
   rw[h1]
   exact xC hc
  have hNd:ri W n A tot b12 qn:=by
   rw[hqn]
   refine⟨J.st.blk,⟨mm,J.st.book,J.bi.mono ?_⟩,fun hm=>absurd (hA _ hm) (by show ¬bm<_;omega),Nat.le_trans h.w0 hbm,J.st.app,?_,Or.inl (Ty.own J.oa),⟨⟨hYW.tx.sl,hYW.tx.tg.elim Or.inl (fun g=>Or.inr (fun b off e=>Nat.lt_of_lt_of_le (g b off e) (Nat.zero_le _))),fun z hz=>(hYW.tx.ins z hz).mono (Nat.zero_le _)⟩,hyl⟩,?_,Or.inl ?_,hel⟩
   ·unfold ndN
    simp only
    rw[hyht]
    omega
   ·obtain⟨a,c',e,-,hs⟩:=Sl.own (enc:=ziL) (sz:=1) (fun _=>rfl) J.oa rfl
    cases e
    exact hs
   ·obtain⟨a,c',e,-,hs⟩:=Sl.own ah J.on (by rw[List.length_map,hnm])
    cases e
    rw[hnm] at hs
    exact hs
   ·exact Ty.own J.on
  have q5:Row W b5 0 (dc (aF x.b)):=Row.all hB5W rfl
  obtain⟨-,-,-,-,t3,-,-⟩:=bZ hW
  repeat (first|apply gst|(apply gsv;rfl;apply qls<;>first|rfl|(apply dcf;first|assumption|omega)))
  refine gcf rfl ?_
  repeat (first|apply gst|(apply gsv;rfl;(first|apply qmv|apply qlc|apply qfa|apply qnc)<;>first|rfl|assumption|exact List.not_mem_nil))
  refine SG.ret rfl rfl rfl (vs:=[.pointer (some ⟨c.tb,0,none⟩)]) (Evs.of rfl) (gr hW.tree) (fun W1 hk1'=>?_)
  refine SG.alloc rfl rfl rfl (fun b17 W2 hk2' hb17 hB17=>?_)
  refine SG.aB (l:=dc c.tr.tip) rfl rfl (ag rfl) (ag rfl) hB17 (ah _) rfl (aO _) (fun W3 hk3' hB17=>?_)
  have kW3:=hk1'.trans (hk2'.ai hk3' (aV hb17))
  have q5:=q5.kp0 kW3
  have t3:=t3.kp0 kW3
  obtain⟨-,r0,-⟩:=bg (hB3W.kp0 kW3)
  repeat apply gst
  refine CG.tail mixed 7 [0,1,2,3,4,5,6] (by kernel_rfl) ?_
  repeat (apply gdv;rfl;rfl;(first|apply qmv|apply qlc|apply qla|apply qfa|apply qnc)<;>first|rfl|assumption|exact List.not_mem_nil|apply ah)
  refine Der.tl (fun W4 hk4' _ _=>?_)
  have kW4:=kW3.trans hk4'
  have hW4:=hW.kp0 kW4
  refine SG.call rfl rfl rfl (vs:=[.pointer (some ⟨c.tb,0,none⟩),dv (aF x.b),dv x.par]) (Evs.of rfl) ((td hW4.tree (fun e=>cE hW4.tree.blk hW4.tree.map e.symm) ok.wf ok.dep (aF x.b) x.par).mono (fun e W5 hh=>?_))
  obtain⟨rfl,hT5,hk5'⟩:=hh
  refine⟨_,rfl,?_⟩
  have hC5:=hW4.BL hk5' hT5
  have k05:Kp (chS c) w W5:=(kW.trans kW4).any.trans (hk5'.mono (fun z hz=>by
   simp only[List.mem_cons,List.mem_nil_iff,or_false] at hz
   rcases hz with rfl|rfl
   ·exact .head _
   ·exact .tail _ (.head _)))
  clear q5 t3 r0
  by_cases hae:c.tr.addE (aF x.b) x.par=0
  rotate_left
  ·have et:c.tr.add (aF x.b) x.par=c.tr:=by unfold Tr.add;rw[if_neg hae]
   rw[et] at hC5
   repeat (first|apply gst|(apply gsv;rfl;(first|apply qmv|apply qas|apply qni)<;>first|rfl|(apply dcf;first|assumption|omega)))
   refine gct rfl ?_
   repeat (first|apply gst|(apply gsv;rfl;(first|apply qmv|apply qas)<;>rfl))
   refine aN (Or.inl rfl) Tryz.results27 (aw.tmp rfl) ?_
   exact⟨by rw[ead];rfl,Or.inl ⟨by rw[ead];exact hae,hC5,k05⟩⟩
  rw[hae]
  have eadd:c.tr.add (aF x.b) x.par=c.tr.put (aF x.b) x.par:=by unfold Tr.add;rw[if_pos hae]
  have hstep:=lR ok.wf (aF x.b) x.par
  have lt1:=h.tree.blk.lt
  have lt2:=h.tree.map.lt
  have lt3:=h.map.lt
  have l51:=hb5.lt
  have hb5w:w.heap.size≤b5:=by have:=hk2.size;omega
  have q5:Row W5 b5 0 (dc (aF x.b)):=Row.all ((hB5W.kp0 kW4).kp hk5' (nm2 (by omega) (by omega))) rfl
  have hN5:ri W5 n A tot b12 qn:=(hNd.kp0 kW4).kp hk5' hW4.nmt (fun _ hz=>hz) (by decide) ((hNd.kp0 kW4).x.uR hk5' hW4.nmt (by decide) (by decide))
  have hM5:=hC5.map
  obtain⟨-,-,-,-,-,-,r6⟩:=bZ hC5
  repeat (first|apply gst|(apply gsv;rfl;(first|apply qmv|apply qas|apply qni)<;>first|rfl|(apply dct;first|assumption|omega)))
  refine gcf rfl ?_
  repeat apply gst
  refine CG.tail mixed 6 [0,1,2,3,4,5] (by kernel_rfl) ?_
  repeat (apply gdv;rfl;rfl;(first|apply qmv|apply qlc|apply qla|apply qfa|apply qnc)<;>first|rfl|assumption|exact List.not_mem_nil|apply ah)
  refine Der.tl (fun W6 hk6' _ _=>?_)
  refine SG.mapUpdate (enc:=dv (n:=8)) (V:=ndP) (kx:=aF x.b) (vy:=(b12,qn)) rfl rfl (ag rfl) (ag rfl) (ag rfl) (hM5.kp0 hk6') jZ.key (fun W7 hk7' hM7=>?_)
  have hC6:=hC5.kp0 hk6'
  have hS7:Cnd n CT A W6 [c.nm]:=Cnd.map h.nn hC6.map h.nA
  have hN6:=hN5.kp0 hk6'
  have hN7:ri W7 n A tot b12 qn:=hN6.kp hk7' hS7 (fun _ hz=>hz) (by decide) (hN6.x.uR hk7' hS7 (by decide) (by decide))
  have hC7:=hC6.ins (c:={c with tr:=c.tr.add (aF x.b) x.par}) hk7' hM7 hN7
  have k07:Kp (chS c) w W7:=(k05.trans hk6'.any).trans (hk7'.mono (fun z hz=>by rw[List.mem_singleton] at hz;rw[hz];exact .tail _ (.tail _ (.head _))))
  have t3:Row W7 c.cb 12 [.pointer (some ⟨c.tb,0,none⟩)]:=(bZ hC7).2.2.2.2.1
  have hT7:bE W7 c.tb c.tm (c.tr.add (aF x.b) x.par):=hC7.tree
  clear q5 r6 hM5
  repeat (first|apply gst|(apply gsv;rfl;(first|apply qmv|apply qlc|apply qfa|apply qnc)<;>first|rfl|assumption|exact List.not_mem_nil))
  refine SG.ret rfl rfl rfl (vs:=[.pointer (some ⟨c.tb,0,none⟩)]) (Evs.of rfl) (gr hT7) (fun W8 hk8'=>?_)
  refine SG.alloc rfl rfl rfl (fun b19 W9 hk9' hb19 hB19=>?_)
  refine SG.aB (l:=dc (c.tr.add (aF x.b) x.par).tip) rfl rfl (ag rfl) (ag rfl) hB19 (ah _) rfl (aO _) (fun W10 hk10' hB19=>?_)
  have k710:=hk8'.trans (hk9'.ai hk10' (aV hb19))
  have hC10:=hC7.kp0 k710
  have k10:=k07.trans k710.any
  have r19:Row W10 b19 0 (dc (c.tr.add (aF x.b) x.par).tip):=Row.all hB19 rfl
  have l17:=hB17.lt
  have s34:=hk4'.size
  have hb17w:w.heap.size≤b17:=by have:=kW.size;have:=hk1'.size;omega
  have r17:Row W10 b17 0 (dc c.tr.tip):=Row.all (((((hB17.kp0 hk4').kp hk5' (nm2 (by omega) (by omega))).kp0 hk6').kp hk7' (nm1 (by show b17≠c.nm;omega))).kp0 k710) rfl
  clear t3
  by_cases htip:(c.tr.add (aF x.b) x.par).tip=c.tr.tip
  ·repeat (first|apply gst|(apply gsv;rfl;(first|apply qla|apply qnd)<;>first|rfl|assumption|(apply dct;first|assumption|omega)|exact List.not_mem_nil|apply ah))
   refine gcf rfl ?_
   repeat (first|apply gst|(apply gsv;rfl;apply qas<;>rfl))
   refine aN (Or.inl rfl) Tryz.results27 (aw.tmp rfl) ?_
   exact⟨by rw[ead];exact hae▸rfl,Or.inr ⟨ead.trans hae,c.pv,c.ps,b12,qn,hC10,by rw[hqn];exact hy,⟨q,hpar,by rw[hqn];exact hrun⟩,(if_pos htip).symm,k10,fun g hg=>Or.inl hg,by rw[hqn];exact hyn⟩⟩
  have hty:∀{d:Dg},(c.tr.add (aF x.b) x.par).has d=true→∃z,au (ca c.ns (aF x.b) (b12,qn)) d=some z:=fun{d} hd=>by
   rw[eadd,de,Bool.or_eq_true] at hd
   rw[aZ]
   by_cases e:aF x.b=d
   ·exact⟨_,if_pos e⟩
   ·rw[if_neg e]
    exact ok.get (hd.resolve_left (by simpa using e))
  have wf':=hstep.1
  have hold:(c.tr.add (aF x.b) x.par).has c.tr.tip=true:=hstep.2.2.2.1
  repeat (first|apply gst|(apply gsv;rfl;(first|apply qla|apply qnd)<;>first|rfl|assumption|(apply dcf;first|assumption|omega)|exact List.not_mem_nil|apply ah))
  refine gct rfl ?_
  repeat (first|apply gst|(apply gsv;rfl;(first|apply qmv|apply qla)<;>first|rfl|assumption|exact List.not_mem_nil|apply ah))
  refine SG.call rfl rfl rfl (vs:=[.pointer (some ⟨c.cb,0,none⟩),dv c.tr.tip,dv (c.tr.add (aF x.b) x.par).tip]) (Evs.of rfl) ((kR hC10 wf' ok.pool hold wf'.tip (xe wf' hold) (xe wf' wf'.tip) (fun d hd=>hty (rC wf' hold hd)) (fun d hd=>hty (rC wf' wf'.tip hd))).mono (fun e W11 hh=>?_))
  obtain⟨rfl,pv',ps',hC11,hps,hk11,hg11,-⟩:=hh
  refine⟨_,rfl,?_⟩
  clear r19 r17
  repeat (first|apply gst|(apply gsv;rfl;apply qas<;>rfl))
  refine aN (Or.inl rfl) Tryz.results27 (aw.tmp rfl) ?_
  refine⟨by rw[ead];exact hae▸rfl,Or.inr ⟨ead.trans hae,pv',ps',b12,qn,hC11,by rw[hqn];exact hy,⟨q,hpar,by rw[hqn];exact hrun⟩,hps.trans (if_neg htip).symm,k10.trans (hk11.mono (fun z hz=> .tail _ (.tail _ (.tail _ hz)))),fun g hg=>(hg11 g hg).elim Or.inl (fun e=>Or.inr (Nat.le_trans k10.size e)),by rw[hqn];exact hyn⟩⟩
 have g1':(i:Int)<(y.xs.length:Int):=by omega
 have hS:=hYW.tx.sl
 have hxi:=hYW.tx.ins _ (List.getElem_mem hlt)
 rw[List.drop_eq_getElem_cons hlt,List.map_cons] at hrun
 generalize hya:y.a=ya at*
 obtain⟨ba,off,rfl,hrow⟩:=hS.at hlt
 repeat (first|apply gst|(apply gsv;rfl;apply qls<;>first|rfl|(apply dct;first|assumption|omega)))
 refine gct rfl ?_
 repeat (first|apply gst|(apply gsv;rfl;(first|apply qla|apply qix)<;>first|rfl|(apply Ar.mk;omega)|assumption|exact List.not_mem_nil|apply aj))
 refine SG.alloc rfl rfl rfl (fun b14 W1 hk1' hb14 hB14=>?_)
 refine SG.aB (l:=txc y.xs[i]) rfl rfl (ag rfl) (ag rfl) hB14 (aj _) rfl (bJ _) (fun W2 hk2' hB14=>?_)
 have kW2:=hk1'.ai hk2' (aV hb14)
 have q14:Row W2 b14 0 (txc y.xs[i]):=Row.all hB14 rfl
 obtain⟨-,-,t3,-⟩:=bZ (h.kp0 (kW.trans kW2))
 clear hrow
 repeat apply gst
 refine CG.tail mixed 5 [0,1,2,3,4] (by kernel_rfl) ?_
 repeat (apply gdv;rfl;rfl;(first|apply qmv|apply qlc|apply qla|apply qfa|apply qnc)<;>first|rfl|assumption|exact List.not_mem_nil|apply aj)
 refine Der.tl (fun W3 hk3' _ _=>?_)
 have kW3:=kW2.trans hk3'
 refine SG.ret rfl rfl rfl (vs:=[txv y.xs[i],.iface 40 (.pointer (some ⟨c.vb,0,none⟩))]) (Evs.of rfl) (iy (hN.kp0 (kW.trans kW3)) (hxi.kp0 kW3)) (fun W4 hk4'=>?_)
 have kW4:=kW3.trans hk4'
 have hB14:=(hB14.kp0 hk3').kp0 hk4'
 clear q14 t3
 by_cases hv:gQ nb y.xs[i].t=0
 rotate_left
 ·rw[hrun,vf hv,if_pos hv] at ead
  repeat (first|apply gst|(apply gsv;rfl;(first|apply qmv|apply qas|apply qni)<;>first|rfl|(apply dcf;first|assumption|omega)))
  refine gct rfl ?_
  repeat (first|apply gst|(apply gsv;rfl;(first|apply qmv|apply qas)<;>rfl))
  refine aN (Or.inl rfl) Tryz.results27 (aw.tmp rfl) ?_
  exact xc.no h (kW.trans kW4) ead hv
 rw[hv]
 have J4:=J.kp0 kW4
 have q14:Row W4 b14 0 (txc y.xs[i]):=Row.all hB14 rfl
 obtain⟨-,-,r1,r2,-⟩:=bg (hB3W.kp0 kW4)
 repeat (first|apply gst|(apply gsv;rfl;(first|apply qmv|apply qas|apply qni)<;>first|rfl|(apply dct;first|assumption|omega)))
 refine gcf rfl ?_
 repeat apply gst
 refine CG.tail mixed 8 [0,1,2,3,4,5,6,7] (by kernel_rfl) ?_
 repeat (apply gdv;rfl;rfl;(first|apply qmv|apply qlc|apply qla|apply qfa|apply qnc)<;>first|rfl|assumption|exact List.not_mem_nil|apply ah|apply aj)
 refine Der.tl (fun W5 hk5' _ _=>?_)
 have kW5:=kW4.trans hk5'
 have J5:=J4.kp0 hk5'
 have hel:=J.el
 have htn:=J.tn
 refine SG.call rfl rfl rfl (vs:=[.pointer (some ⟨b12,0,none⟩),.int .i64 x.ht,dv x.mkr,txv y.xs[i]]) (Evs.of rfl) ((tO (n0:=0) J5.st J5.bi ht J5.oa J5.kp.size (Nat.zero_le _) (by omega) (by decide) (by decide) (by decide) (hxi.kp0 kW5) x.ht x.mkr (by omega)).mono (fun e W6 hh=>?_))
 obtain⟨bk2,bm2,tb2,va2,m2,rfl,hst6,hbi6,hoa6,hk6',hbm6,hva6⟩:=hh
 refine⟨_,rfl,?_⟩
 clear q14 r1 r2
 by_cases hp:gl f y.xs[i].t=0
 rotate_left
 ·rw[hrun,vg hv hp,if_pos hp] at ead
  repeat (first|apply gst|(apply gsv;rfl;(first|apply qmv|apply qas|apply qni)<;>first|rfl|(apply dcf;first|assumption|omega)))
  refine gct rfl ?_
  repeat (first|apply gst|(apply gsv;rfl;(first|apply qmv|apply qas)<;>rfl))
  refine aN (Or.inl rfl) Tryz.results27 (aw.tmp rfl) ?_
  refine xc.no h ((kW.trans kW5).ai hk6' (fun z hz=>Or.inr ?_)) ead hp
  rcases J5.sub z hz with g|g
  ·simp only[List.mem_cons,List.mem_nil_iff,or_false] at g
   omega
  ·have:=kT.size
   omega
 have hB14:Blk W6 b14 (.cells (txc y.xs[i]).toArray 52):=(hB14.kp0 hk5').kp hk6' ((J5.no (by decide) (by decide)).nb (hB14.kp0 hk5'))
 have q14:Row W6 b14 0 (txc y.xs[i]):=Row.all hB14 rfl
 have hxi6:y.xs[i].In 0 W6:=(hxi.kp0 kW5).kpO hk6' (J5.no (by decide) (by decide))
 have ho6:=a8 J5.on hk6' (cZ J5.on (J5.no (by decide) (by decide)))
 obtain⟨-,u21⟩:=pf (bk:=bk2) (tb:=tb2) (va:=va2) (y:=y) (vn:=vn) hst6.blk
 have hSl:∀z∈aU vn,z<W6.heap.size:=fun z hz=>cm ho6 z (aC hz)
 have n12:b12∉aU vn:=(NoT.own ho6 (Nat.zero_le _) (by decide)).nb hst6.blk
 have n14:b14∉aU vn:=(NoT.own ho6 (Nat.zero_le _) (by decide)).nb hB14
 have s6:=hk6'.size
 have s05:=kW5.size
 rw[hp]
 repeat (first|apply gst|(apply gsv;rfl;(first|apply qmv|apply qas|apply qni)<;>first|rfl|(apply dct;first|assumption|omega)))
 refine gcf rfl ?_
 repeat apply gst
 refine CG.dH mixed 9 [0,1,2,3,4,5,6,7,8] [7,8] (aU vn) (fun W=>W.ownsRow wT.heap.size 47 8 vn i (flt dc ((y.xs.take i).map (fun x=>aK x.t)))) (by kernel_rfl) ho6 (fun _ _ hk h=>aI h hk) ?_
 repeat (apply gdv;rfl;rfl;(first|apply qmv|apply qlc|apply qla|apply qfa|apply qnc)<;>first|rfl|assumption|apply aj)
 refine Der.call rfl rfl rfl (vs:=[txv y.xs[i]]) (Evs.of rfl) (fun W hk _=>gq (hxi6.kpO hk (NoT.own ho6 (Nat.zero_le _) (by decide)))) ?_
 refine Der.nk (cs:=(dc (aK y.xs[i].t)).toArray) (E:=47) rfl rfl rfl rfl rfl (fun W=>DB _ W) hSl (fun W W' hk h=>trivial) (fun _ _ hk h=>aI h hk) (fun bn=>?_)
 apply Der.lQ (P:=Tryz.prog) (t:=93) (base:=wT.heap.size) (e:=47) (i:=Tryz.t47) (f:=ty.i47) (v:=vn) (nn:=i) (xs:=flt dc ((y.xs.take i).map (fun x=>aK x.t))) (b:=bn) (off:=0) (m:=1) (c:=1) (news:=dc (aK y.xs[i].t))
 iterate 4 exact rfl
 iterate 2 exact ag rfl
 iterate 3 exact rfl
 ·exact fun W hk hF=>Row.all hF.2.2 rfl
 ·rw[ah];rfl
 ·exact aO _
 ·simp only[maxLen];omega
 ·show(i+1)*8≤_;omega
 ·omega
 ·exact fun _ h=>h
 ·exact fun W W' hk hF=>⟨trivial,hF.2.1,hF.2.2.kp hk (fun hm=>by have:=hSl _ hm;have:=hF.2.1;omega)⟩
 intro v7
 refine Der.tl (fun W7 hk7' hF ho7=>?_)
 have ho7:W7.ownsRow wT.heap.size 47 8 v7 (i+1) (flt dc ((y.xs.take (i+1)).map (fun x=>aK x.t))):=by
  rw[List.map_take,take_one (fun x:Tm=>aK x.t) hlt,cu,ij,←List.map_take]
  exact ho7
 obtain⟨a7,c7,rfl⟩:=jr ho7
 have hB7:=hst6.blk.kp hk7' n12
 clear q14 u21
 repeat (apply gsv;rfl;(first|apply qfa|apply qnc)<;>rfl)
 refine SG.bH (bhc bk2 tb2 va2++bkc y) [vn] [] rfl rfl (ag rfl) (ag rfl) hB7 (yx _ _ _ _ _) rfl rfl (yw _ _ _ _) rfl (fun W8 hk8' hB8=>?_)
 have hB8:Blk W8 b12 (.cells (ndB bk2 tb2 va2 y (.slice a7 (i+1) c7)).toArray 118):=by
  rw[←vG bk2 tb2 va2 y (.slice a7 (i+1) c7)]
  exact hB8
 rw[x9 hv hp] at hrun
 repeat (first|apply gst|(apply gsv;rfl;(first|apply qmv|apply qad)<;>first|rfl|(apply Ar.mk;omega)))
 refine NG.round (i+1,(bk2,bm2,tb2,m2),(dof f x.mkr y.xs[i].t,dot t f x.ht x.mkr y.xs[i].t,doa es f x.mkr y.xs[i].t),(va2,.slice a7 (i+1) c7)) (aW.of rfl) ⟨hlt,J5.did hlt rfl hp hst6 hbi6 hoa6 hk6' hbm6 hk7' ho7 hk8' hB8,hrun⟩ (by simp only;omega)
end
section
def lC(l:List Ac):Int:=(l.map (·.money)).sum
theorem jH(e:Ac)(l:List Ac):lC (e::l)=e.money+lC l:=by simp[lC]
def ofL(l:List Ac)(k:Dg):Pu:=match l.find? (fun e=>decide (e.key=k)) with
 |some e=>⟨e.money,e.nonce⟩
 |none=>pz
theorem pc:∀{l:List Ac} {ks:List Dg} {s:Int},(∀e∈l,¬rl e)→(l.map (·.key)).Nodup→(∀e∈l,e.key∉ks)→s+lC l≤1125899906842624→ic ks s l=0
 |[],ks,s,_,_,_,h=>by
  simp only[lC,List.map_nil,List.sum_nil] at h
  simp only[ic]
  rw[if_neg (by omega)]
 |e::l,ks,s,h1,h2,h3,h4=>by
  rw[jH] at h4
  rw[List.map_cons,List.nodup_cons] at h2
  simp only[ic]
  rw[if_neg (h1 e (by simp)),if_neg (h3 e (by simp))]
  refine pc (fun x hx=>h1 x (by simp[hx])) h2.2 (fun x hx hm=>?_) (by omega)
  rcases List.mem_cons.1 hm with h|h
  ·exact h2.1 (List.mem_map.2 ⟨x,hx,h⟩)
  ·exact h3 x (by simp[hx]) h
theorem ib:∀{l:List Ac} {ks:List Dg} {s:Int},ic ks s l=0→(∀e∈l,¬rl e)∧(l.map (·.key)).Nodup∧(∀e∈l,e.key∉ks)∧s+lC l≤1125899906842624
 |[],ks,s,h=>by
  simp only[ic] at h
  refine⟨by simp,by simp,by simp,?_⟩
  simp only[lC,List.map_nil,List.sum_nil]
  split at h
  ·cases h
  ·omega
 |e::l,ks,s,h=>by
  simp only[ic] at h
  split at h
  ·cases h
  ·rename_i hb
   split at h
   ·cases h
   ·rename_i hk
    obtain⟨a1,a2,a3,a4⟩:=ib h
    refine⟨fun x hx=>?_,?_,fun x hx=>?_,by rw[jH];omega⟩
    ·rcases List.mem_cons.1 hx with rfl|hx
     ·exact hb
     ·exact a1 x hx
    ·rw[List.map_cons,List.nodup_cons]
     refine⟨fun hm=>?_,a2⟩
     obtain⟨x,hx,he⟩:=List.mem_map.1 hm
     exact a3 x hx (by rw[he];simp)
    ·rcases List.mem_cons.1 hx with rfl|hx
     ·exact hk
     ·exact fun hm=>a3 x hx (by simp[hm])
theorem o4:∀{l:List Ac} {m:Bk},(l.map (·.key)).Nodup→∀k,bal (kY m l) k=match l.find? (fun e=>decide (e.key=k)) with
  |some e=>⟨e.money,e.nonce⟩
  |none=>bal m k
 |[],m,_,k=>rfl
 |e::l,m,h,k=>by
  rw[List.map_cons,List.nodup_cons] at h
  show bal (kY (jw m e.key ⟨e.money,e.nonce⟩) l) k=_
  rw[o4 h.2 k,List.find?_cons]
  by_cases ek:e.key=k
  ·have hn:l.find? (fun x=>decide (x.key=k))=none:=by
    rw[List.find?_eq_none]
    intro x hx
    simp only[decide_eq_true_eq]
    exact fun hk=>h.1 (List.mem_map.2 ⟨x,hx,by rw[hk,ek]⟩)
   rw[hn]
   simp only[ek,decide_true]
   rw[jQ,if_pos rfl]
  ·simp only[ek,decide_false]
   cases l.find? (fun x=>decide (x.key=k)) with
   |some x=>rfl
   |none=>
    simp only
    rw[jQ,if_neg ek]
theorem sm{N:Int}:∀{l:List Ac} {m:Bk} {T:Int},Ok T N m→(∀e∈l,0≤e.money∧0≤e.nonce∧e.nonce≤N)→(l.map (·.key)).Nodup→(∀e∈l,bal m e.key=pz)→Ok (T+lC l) N (kY m l)∧(kY m l).length≤m.length+l.length
 |[],m,T,h,_,_,_=>by
  simp only[lC,List.map_nil,List.sum_nil,Int.add_zero]
  exact⟨h,Nat.le_refl _⟩
 |e::l,m,T,h,h1,h2,h3=>by
  rw[List.map_cons,List.nodup_cons] at h2
  have he:=h1 e (by simp)
  have h4:=h.put (Int.le_refl N) e.key ⟨e.money,e.nonce⟩ he.1 he.2
  rw[h3 e (by simp)] at h4
  have e1:T-pz.money+e.money=T+e.money:=by simp[pz]
  simp only at h4
  rw[e1] at h4
  have h5:=sm h4 (fun x hx=>h1 x (by simp[hx])) h2.2 (fun x hx=>by
   rw[jQ,if_neg (fun hk=>h2.1 (List.mem_map.2 ⟨x,hx,hk.symm⟩))]
   exact h3 x (by simp[hx]))
  have h6:=fa m e.key ⟨e.money,e.nonce⟩
  refine⟨?_,?_⟩
  ·rw[jH,←Int.add_assoc]
   exact h5.1
  ·have:=h5.2
   show(kY (jw m e.key ⟨e.money,e.nonce⟩) l).length≤_
   simp only[List.length_cons]
   omega
theorem Ad(N:Int):Ok 0 N []:=⟨by simp,by simp,by simp,by simp,rfl⟩
theorem vl{l:List Ac}{N:Int}(h:j7 l=0)(hN:∀e∈l,e.nonce≤N):Ok (lC l) N (kY [] l)∧(kY [] l).length≤l.length∧(∀k,bal (kY [] l) k=ofL l k)∧(l.map (·.key)).Nodup∧lC l≤1125899906842624∧l.length≤1024:=by
 unfold j7 at h
 split at h
 ·cases h
 ·rename_i hl
  obtain⟨a1,a2,a3,a4⟩:=ib h
  have h1:=sm (N:=N) (m:=[]) (T:=0) (Ad N) (fun e he=>by
   have b:=a1 e he
   have n:=hN e he
   unfold rl at b
   omega) a2 (fun e he=>rfl)
  rw[Int.zero_add] at h1 a4
  refine⟨h1.1,by simpa using h1.2,fun k=>?_,a2,a4,by omega⟩
  rw[o4 a2 k]
  rfl
end
section
section
variable {P:Program} {S:List Nat×Nat} {w0:World} {ops:List Oper} {G:List (Nat×GD)} {K:Env→List Fact→Prop} {i:Nat} {ord:List Nat} {L:Env} {Γ:List Fact} {ty:TypeId} {pos:String} {af:Array Edge} {g:Option (Nat×Bool)}
variable {κ ν:Type} {enc:κ→Value} {V:ν→Value}
def gM(m:Nat)(enc:κ→Value)(V:ν→Value)(kx:κ):GD:=⟨Nat,0,fun b=> .map (some b),fun b w=>m≤b∧(av w b enc V []∨∃y,av w b enc V [(kx,y)])⟩
theorem yO{m:Nat}{kx:κ}(x:(gM m enc V kx).X):bU [] ((gM m enc V kx).phi x):=fun w w' hk h=>⟨h.1,h.2.elim (fun a=>Or.inl (a.kp0 hk)) (fun⟨y,a⟩=>Or.inr ⟨y,a.kp0 hk⟩)⟩
theorem bh.vK{m d:Nat}{T:TypeId}(kx:κ)(hg:cJ G i=some (gM m enc V kx))(hm:m=w0.heap.size)(ho:ops[i]?=some ⟨some d,.makeMap T none,ty,pos,af,g⟩)(hw:want ops L ⟨some d,.makeMap T none,ty,pos,af,g⟩=some true)
  (h:∀b:Nat,bh P S w0 ops G K ord ((d,.map (some b))::L) ((i,(gM m enc V kx).phi b)::Γ)):bh P S w0 ops G K (i::ord) L Γ:=by
 refine bh.eff (gM m enc V kx) hg ho hw (by simp[Op.operands]) (fun w hk _=>?_) h
 unfold aR
 have:(execOp (rho L) ⟨some d,.makeMap T none,ty,pos,af,g⟩).run P w= .ok (.value (.map (some w.heap.size))) {w with heap:=w.heap.push (.map #[] 0)}:=by
  simp[execOp,Instr.makeMap,newObj,Sem.run,Result.andThen]
 rw[this]
 exact⟨w.heap.size,rfl,⟨by rw[hm];exact hk.size,Or.inl (av.made w enc V)⟩,Kp.push w _ rfl⟩
def gX{Y:Type}(y0:Y)(m:Nat)(T:TypeId)(cs:Y→Array Value)(psi:Y→World→Prop):GD:=⟨Nat×Y,(0,y0),fun q=> .pointer (some ⟨q.1,0,none⟩),fun q w=>(m≤q.1∧Blk w q.1 (.cells (cs q.2) T))∧psi q.2 w⟩
theorem tv{Y:Type}{y0:Y}{m:Nat}{T:TypeId}{cs:Y→Array Value}{psi:Y→World→Prop}(hs:∀y,bU [] (psi y))(x:(gX y0 m T cs psi).X):bU [] ((gX y0 m T cs psi).phi x):=fun w w' hk h=>⟨⟨h.1.1,h.1.2.kp0 hk⟩,hs _ _ _ hk h.2⟩
theorem bh.DD{Y:Type}{y0:Y}{m d:Nat}{T:TypeId}{cs:Y→Array Value}{psi:Y→World→Prop}{x:Operand}{v:Value}(y:Y)(hg:cJ G i=some (gX y0 m T cs psi))(hm:m=w0.heap.size)(ho:ops[i]?=some ⟨some d,.box T x,ty,pos,af,g⟩)(hw:want ops L ⟨some d,.box T x,ty,pos,af,g⟩=some true)(hk:known L x=true)(hx:rho L x=v)(hc:v.cells=cs y)
  (hs:∀y,bU [] (psi y)) (hp:∀w,Kp S.1 w0 w→dP ops i Γ w→psi y w)
  (h:∀q:Nat×Y,bh P S w0 ops G K ord ((d,.pointer (some ⟨q.1,0,none⟩))::L) ((i,(gX y0 m T cs psi).phi q)::Γ)):bh P S w0 ops G K (i::ord) L Γ:=by
 refine bh.eff (gX y0 m T cs psi) hg ho hw (by simp[Op.operands,hk]) (fun w hk1 hf=>?_) h
 unfold aR
 have:(execOp (rho L) ⟨some d,.box T x,ty,pos,af,g⟩).run P w= .ok (.value (.pointer (some ⟨w.heap.size,0,none⟩))) {w with heap:=w.heap.push (.cells v.cells T)}:=by
  simp[execOp,hx,rS,Result.andThen]
 rw[this,hc]
 have hpu:=Kp.push w (.cells (cs y) T) rfl
 exact⟨(w.heap.size,y),rfl,⟨⟨by rw[hm];exact hk1.size,Blk.push w _⟩,hs _ _ _ hpu (hp w hk1 hf)⟩,hpu⟩
theorem bh.AW{d:Nat}{t:TypeId}{v:Value}{name:String}{f:FuncId}[M:Mth P t name f][Fn:Fnc P f]{x:Operand}{args:List Operand}{vs:List Value}{tys:Array TypeId}(D:GD)(hg:cJ G i=some D)
  (ho:ops[i]?=some ⟨some d,.call ⟨.invoke x name,args.toArray,tys⟩,ty,pos,af,g⟩) (hw:want ops L ⟨some d,.call ⟨.invoke x name,args.toArray,tys⟩,ty,pos,af,g⟩=some true) (hk:(Op.call ⟨.invoke x name,args.toArray,tys⟩).operands.toList.all (known L)=true)
  (hf:rho L x= .iface t v) (he:Evs L args vs) (hc:∀w,Kp S.1 w0 w→Calls P f (v::vs).toArray w (fun e w'=>∃x,e= .returned (D.val x)∧D.phi x w'∧Kp [] w w'))
  (h:∀x,bh P S w0 ops G K ord ((d,D.val x)::L) ((i,D.phi x)::Γ)):bh P S w0 ops G K (i::ord) L Γ:=
 bh.eff D hg ho hw hk (fun w h1 _=>kt (M:=M) (Fn:=Fn) hf he ((hc w h1).mono (fun e w' ⟨x,g1,g2,g3⟩=>⟨_,g1,x,rfl,g2,g3⟩))) h
def gN(m:Nat)(enc:κ→Value)(V:ν→Value)(kx:κ)(y0:ν):GD:=⟨Nat×ν,(0,y0),fun _=>undef,fun q w=>m≤q.1∧av w q.1 enc V [(kx,q.2)]⟩
theorem yN{m:Nat}{kx:κ}{y0:ν}(x:(gN m enc V kx y0).X):bU [] ((gN m enc V kx y0).phi x):=fun w w' hk h=>⟨h.1,h.2.kp0 hk⟩
theorem bh.yJ[DecidableEq κ]{m b:Nat}{kx:κ}{y0 vy:ν}{k T E:TypeId}[u:Ut P T (.map k E)]{a x y:Operand}(hg:cJ G i=some (gN m enc V kx y0))(hm:m=w0.heap.size)
  (ho:ops[i]?=some ⟨none,.insert T a x y,ty,pos,af,g⟩) (hw:want ops L ⟨none,.insert T a x y,ty,pos,af,g⟩=some true) (hk:(known L a&&(known L x&&known L y))=true) (hanc:Γ.all (fun p=>anc ops i p.1)=true) (ha:rho L a= .map (some b)) (hx:rho L x=enc kx) (hy:rho L y=V vy) (Kk:bK P k enc)
  (hF:∀w,dP ops i Γ w→(gM m enc V kx).phi b w)
  (hkeep:∀j,j≠i→∀w w' x,Kp [b] w w'→(∃es c,Blk w b (.map es c))→av w' b enc V [(kx,vy)]→(bO G j).phi x w→(bO G j).phi x w')
  (h:bh P S w0 ops G K ord L ((i,fun w=>m≤b∧av w b enc V [(kx,vy)])::Γ)):bh P S w0 ops G K (i::ord) L Γ:=by
 refine bh.Dz (gN m enc V kx y0) (b,vy) hg ho hw (by simpa[Op.operands] using hk) hanc (fun w h1 h2=>?_) h
 obtain⟨hb,hM⟩:=hF w h2
 have key:∀{l:List (κ×ν)},av w b enc V l→ca l kx vy=[(kx,vy)]→aR P (rho L) ⟨none,.insert T a x y,ty,pos,af,g⟩ w (fun v w'=>v=(gN m enc V kx y0).val (b,vy)∧(gN m enc V kx y0).phi (b,vy) w'∧(∀X,Kp X w0 w→Kp X w0 w')∧∀j y,j≠i→(bO G j).phi y w→(bO G j).phi y w'):=fun{l} hl he=>by
  obtain⟨o',e1,e2,e3⟩:=dU (P:=P) (u:=u) hl Kk kx vy
  rw[he] at e2
  unfold aR
  have:(execOp (rho L) ⟨none,.insert T a x y,ty,pos,af,g⟩).run P w= .ok .skip {w with heap:=w.heap.setIfInBounds b o'}:=by
   simp only[execOp,ha,hx,hy,Sem.run_bind,e1,Result.andThen,Sem.run_pure]
  rw[this]
  obtain⟨es,c,hbl,-⟩:=hl
  exact⟨rfl,⟨hb,e2⟩,fun X hX=>hX.ai e3 (aV (by rw[←hm];exact hb)),fun j y hj hp=>hkeep j hj _ _ y e3 ⟨es,c,hbl⟩ e2 hp⟩
 rcases hM with hM|⟨y,hM⟩
 ·exact key hM rfl
 ·exact key hM (by simp[ca])
end
end
section
def cp:List UInt8:=[98,97,105,122,101]
def bj:Dg:=aF (bB cp).b
def ik(b:Bd)(l:List Ac):Int:=if bdz b≠0 then bdz b else if 1000<b.fork then 2 else j7 l
theorem ox:aQ (bB cp).b=0:=by
 unfold aQ
 simp[bB,Bm.b,fy,p8]
theorem qJ:orZ (bB cp).b (aF (bB cp).b)= .tuple #[dv bj,.int .i64 0]:=by unfold orZ;rw[if_pos ox];rfl
theorem wM{b:Bd}(h:bdz b=0):0≤b.fork∧b.fork≤1024:=by
 unfold bdz at h
 split at h
 ·cases h
 ·rename_i g
  have:¬bdB b.fork:=fun h=>g (Or.inl h)
  unfold bdB at this
  omega
def gC(m:Nat)(t:Tl)(mk:Nat→Value):GD:=⟨Nat,0,mk,fun q w=>m≤q∧j9 w q t⟩
theorem ou{m:Nat}{t:Tl}{mk:Nat→Value}(x:(gC m t mk).X):bU [] ((gC m t mk).phi x):=fun w w' hk h=>⟨h.1,h.2.kp0 hk⟩
theorem vF{l:List Ac}(h:j7 l=0):∀e∈l,0≤e.nonce∧e.nonce≤1099511627776:=fun e he=>by
 unfold j7 at h
 split at h
 ·cases h
 ·have:=(ib h).1 e he
  unfold rl at this
  omega
def xD(b:Bd)(vb tb pb:Nat)(m:Value):List Value:=bdL b++(.iface 40 (.pointer (some ⟨vb,0,none⟩))::(dc bj++[.pointer (some ⟨tb,0,none⟩),.pointer (some ⟨pb,0,none⟩),m]))
theorem Jx(w:World)(vb tb pb:Nat)(a b c:Int)(d0 d1 d2 d3 d4 d5 d6 d7:UInt8):(Instr.build 127 #[(0,.agg #[.int .i64 a,.int .i64 b,.int .i64 c]),(1,.iface 40 (.pointer (some ⟨vb,0,none⟩))),(2,.agg #[bv d0,bv d1,bv d2,bv d3,bv d4,bv d5,bv d6,bv d7]),(3,.pointer (some ⟨tb,0,none⟩)),(4,.pointer (some ⟨pb,0,none⟩))]).run Tryz.prog w=
  .ok (.agg #[.int .i64 a,.int .i64 b,.int .i64 c,.iface 40 (.pointer (some ⟨vb,0,none⟩)),bv d0,bv d1,bv d2,bv d3,bv d4,bv d5,bv d6,bv d7,.pointer (some ⟨tb,0,none⟩),.pointer (some ⟨pb,0,none⟩),.map none]) w:=by kernel_rfl
theorem bch(b:Bd)(vb tb pb:Nat)(w:World):(Instr.build 127 #[(0,bdv b),(1,.iface 40 (.pointer (some ⟨vb,0,none⟩))),(2,dv bj),(3,.pointer (some ⟨tb,0,none⟩)),(4,.pointer (some ⟨pb,0,none⟩))]).run Tryz.prog w= .ok (.agg (xD b vb tb pb (.map none)).toArray) w:=by
 unfold xD
 generalize bj=d
 obtain⟨l,h⟩:=d
 match l,h with
 |[d0,d1,d2,d3,d4,d5,d6,d7],_=>exact Jx w vb tb pb b.fork b.leave b.sleep d0 d1 d2 d3 d4 d5 d6 d7
def CB(n:Nat)(w:World)(b:Bd)(vb:Nat)(t:Tl)(l:List Ac)(e:Ending)(w':World):Prop:=
 ∃(c:Cm) (z:Nat) (q:Nm),e= .returned (.tuple #[.pointer (some ⟨c.cb,0,none⟩),.int .i64 0])∧(∀A0:List Nat,(∀x∈A0,x<w.heap.size)→dw w' n (c.tm::c.nm::A0) (lC l) c)∧(c.bd=b∧c.vb=vb∧c.first=bj∧c.tr=Tr.new bj b.fork.toNat∧c.ps=[]∧c.pv= .slice none 0 0)∧c.ns=[(bj,z,q)]∧q.x=bB cp∧q.f=bal (kY [] l)∧q.t=t∧q.es=[]∧w.heap.size≤c.cb∧w.heap.size≤c.tm∧w.heap.size≤c.nm
abbrev ptN(b:Nat):Value:= .pointer (some ⟨b,0,none⟩)
theorem tc{m:Nat}{t:Tl}{cs:Nat→Array Value}{T:TypeId}{w w':World}{b vy:Nat}{k:Dg}(hk:Kp [b] w w')(hb:∃es c,Blk w b (.map es c))(hm:av w' b (dv (n:=8)) ptN [(k,vy)]):
  (∀x,(gM m (dv (n:=8)) ptN k).phi x w→(gM m (dv (n:=8)) ptN k).phi x w')∧(∀mk x,(gC m t mk).phi x w→(gC m t mk).phi x w')∧(∀x,(gX 0 m T cs (fun q w=>m≤q∧j9 w q t)).phi x w→(gX 0 m T cs (fun q w=>m≤q∧j9 w q t)).phi x w'):=by
 obtain⟨es,c,hb⟩:=hb
 have nb:∀{z:Nat} {cs:Array Value} {T:TypeId},Blk w z (.cells cs T)→z∉[b]:=fun hz=>nm1 (fun e=>by
  subst e
  cases hz.uniq hb)
 refine⟨fun x h=>⟨h.1,?_⟩,fun _ x h=>⟨h.1,h.2.kp hk (nb h.2)⟩,fun x h=>⟨⟨h.1.1,h.1.2.kp hk (nb h.1.2)⟩,h.2.1,h.2.2.kp hk (nb h.2.2)⟩⟩
 by_cases e:x=b
 ·subst e
  exact Or.inr ⟨vy,hm⟩
 ·exact h.2.elim (fun a=>Or.inl (a.kp hk (nm1 e))) (fun⟨y,a⟩=>Or.inr ⟨y,a.kp hk (nm1 e)⟩)
theorem vJ{w:World}{b z:Nat}{k:Dg}{q:Nm}(h:av w b (dv (n:=8)) ptN [(k,z)]):av w b (dv (n:=8)) ndP [(k,z,q)]:=by
 obtain⟨es,c,h1,h2,h3⟩:=h
 exact⟨es,c,h1,h2,h3⟩
theorem wG(b:Bd)(vb tb pb:Nat)(m:Value):(xD b vb tb pb m).toArray.toList=(bdL b++(.iface 40 (.pointer (some ⟨vb,0,none⟩))::(dc bj++[.pointer (some ⟨tb,0,none⟩),.pointer (some ⟨pb,0,none⟩)])))++([m]++[]):=by simp[xD]
theorem tT(b:Bd)(vb tb pb:Nat)(m:Value):(bdL b++(.iface 40 (.pointer (some ⟨vb,0,none⟩))::(dc bj++[.pointer (some ⟨tb,0,none⟩),.pointer (some ⟨pb,0,none⟩)])))++([m]++[])=xD b vb tb pb m:=by simp[xD]
theorem wF(b:Bd)(vb tb pb:Nat):(bdL b++(Value.iface 40 (Value.pointer (some ⟨vb,0,none⟩))::(dc bj++[Value.pointer (some ⟨tb,0,none⟩),Value.pointer (some ⟨pb,0,none⟩)]))).length=14:=by simp[bdL,ah]
attribute [local irreducible] CG NG SG aJ Der Row Blk av aA bh aF aQ bj j7
theorem ni{n:Nat}{w:World}(hn0:n≤w.heap.size)(b:Bd){vb:Nat}{a:Option Addr}{c0:Nat}{l:List Ac}(hS:SlE w a l)(hl:l.length≤1000){ta:Nat}{t:Tl}(hT:j9 w ta t):
  Calls Tryz.prog 28 #[bdv b,.iface 40 (.pointer (some ⟨vb,0,none⟩)),.slice a l.length c0,.iface 74 (.pointer (some ⟨ta,0,none⟩))] w (fun e w'=>Kp [] w w'∧
   (ik b l≠0∧e= .returned (.tuple #[.pointer none,.int .i64 (ik b l)])∨ik b l=0∧CB n w b vb t l e w')):=by
 refine iG Tryz.func28 rfl Tryz.ntmps28 rfl ?_
 repeat apply gst
 refine SG.box rfl rfl rfl (ag rfl) (fun b4 w1 hk1 hb4 hB4=>?_)
 have hB4:Blk w1 b4 (.cells (bdL b).toArray 31):=hB4
 have r4:Row w1 b4 0 (bdL b):=Row.all hB4 rfl
 repeat (first|apply gst|(apply gsv;rfl;(first|apply Bt|apply qmv|apply qas|apply qpk)<;>rfl))
 refine gcf rfl ?_
 repeat (first|apply gst|(apply gsv;rfl;apply qla<;>first|rfl|assumption|exact List.not_mem_nil))
 refine SG.ret rfl rfl rfl (vs:=[bdv b]) (Evs.of rfl) (kF b w1) (fun w2 hk2=>?_)
 have k2:=hk1.trans hk2
 clear r4
 by_cases hz:bdz b=0
 rotate_left
 ·have ez:ik b l=bdz b:=by unfold ik;rw[if_pos hz]
  repeat (first|apply gst|(apply gsv;rfl;(first|apply qmv|apply qas|apply qni)<;>first|rfl|(apply dcf;first|assumption|omega)))
  refine gct rfl ?_
  repeat (first|apply gst|(apply gsv;rfl;(first|apply qmv|apply qas)<;>rfl))
  refine dC (Or.inl rfl) Tryz.results28 (aw.tmp rfl) (aw.tmp rfl) ?_
  exact⟨k2,Or.inl ⟨by rw[ez];exact hz,by rw[ez]⟩⟩
 have ez1:ik b l=if 1000<b.fork then 2 else j7 l:=by unfold ik;rw[if_neg (fun g=>g hz)]
 obtain⟨f0,f1⟩:=wM hz
 rw[hz]
 repeat (first|apply gst|(apply gsv;rfl;(first|apply qmv|apply qas|apply qni)<;>first|rfl|(apply dct;first|assumption|omega)))
 refine gcf rfl ?_
 repeat apply gst
 refine SG.ret rfl rfl rfl (vs:=[sv cp]) (Evs.of rfl) (qI cp (by decide) w2) (fun w3 hk3=>?_)
 refine SG.alloc rfl rfl rfl (fun b11 w4 hk4 hb11 hB11=>?_)
 refine SG.aB (l:=bkc (bB cp)) rfl rfl (ag rfl) (ag rfl) hB11 (aD _) rfl (dD _) (fun w5 hk5 hB11=>?_)
 have k5:=(k2.trans hk3).trans (hk4.ai hk5 (aV hb11))
 have r11:Row w5 b11 0 (bkc (bB cp)):=Row.all hB11 rfl
 repeat (first|apply gst|(apply gsv;rfl;apply qla<;>first|rfl|assumption|exact List.not_mem_nil))
 have hnm:=dN (mU cp 0 w5)
 rw[qJ] at hnm
 refine SG.ret rfl rfl rfl (vs:=[bkv (bB cp)]) (Evs.of rfl) hnm (fun w6 hk6=>?_)
 clear r11 hnm
 repeat (apply gsv;rfl;(first|apply qmv|apply qxt)<;>rfl)
 refine SG.alloc rfl rfl rfl (fun b12 w7 hk7 hb12 hB12=>?_)
 refine SG.aB (l:=dc bj) rfl rfl (ag rfl) (ag rfl) hB12 (ah _) rfl (aO _) (fun w8 hk8 hB12=>?_)
 have k58:=hk6.trans (hk7.ai hk8 (aV hb12))
 have k8:=k5.trans k58
 have r12:Row w8 b12 0 (dc bj):=Row.all hB12 rfl
 have r4:Row w8 b4 0 [.int .i64 b.fork]:=Row.of (((hB4.kp0 hk2).kp0 (hk3.trans (hk4.ai hk5 (aV hb11)))).kp0 k58) [] [.int .i64 b.leave,.int .i64 b.sleep] rfl rfl
 repeat (first|apply gst|(apply gsv;rfl;(first|apply qmv|apply qas|apply qni)<;>first|rfl|(apply dct;first|assumption|omega)))
 refine gcf rfl ?_
 repeat (first|apply gst|(apply gsv;rfl;(first|apply qlc|apply qla|apply qfa)<;>first|rfl|assumption|exact List.not_mem_nil|apply ah))
 by_cases hf:1000<b.fork
 ·rw[if_pos hf] at ez1
  refine SG.ret rfl rfl rfl (vs:=[dv bj,.int .i64 b.fork]) (Evs.of rfl) (vV w8 bj b.fork (Or.inr hf)) (fun w9 hk9=>?_)
  clear r12 r4
  repeat (first|apply gst|(apply gsv;rfl;(first|apply qmv|apply qas|apply qni|apply qxt)<;>first|rfl|(apply dcf;first|assumption|omega)))
  refine gct rfl ?_
  repeat (first|apply gst|(apply gsv;rfl;(first|apply qmv|apply qas)<;>rfl))
  refine dC (Or.inl rfl) Tryz.results28 (aw.tmp rfl) (aw.tmp rfl) ?_
  exact⟨k8.trans hk9,Or.inl ⟨by rw[ez1];decide,by rw[ez1]⟩⟩
 rw[if_neg hf] at ez1
 have ef:b.fork=((b.fork.toNat:Nat):Int):=by omega
 have hkn:=sV w8 bj b.fork.toNat (by omega)
 rw[←ef] at hkn
 refine SG.call rfl rfl rfl (vs:=[dv bj,.int .i64 b.fork]) (Evs.of rfl) (hkn.mono (fun e w9 hh=>?_))
 obtain⟨bt,bm,rfl,hT9,hbt,hbm,hne,hk9⟩:=hh
 refine⟨_,rfl,?_⟩
 have k9:=k8.trans hk9
 clear r12 r4
 repeat (first|apply gst|(apply gsv;rfl;(first|apply qmv|apply qas|apply qni|apply qxt)<;>first|rfl|(apply dct;first|assumption|omega)))
 refine gcf rfl ?_
 repeat (first|apply gst|(apply gsv;rfl;apply qmv<;>rfl))
 refine SG.call rfl rfl rfl (vs:=[.slice a l.length c0]) (Evs.of rfl) ((kE c0 (hS.kp0 k9) (by omega)).mono (fun e w10 hh=>?_))
 obtain⟨hk10,hh⟩:=hh
 have k10:=k9.trans hk10
 rcases hh with⟨hn,rfl⟩|⟨hn,bk,bkm,rfl,hBk,hbk,hbkm⟩
 ·refine⟨_,rfl,?_⟩
  repeat (first|apply gst|(apply gsv;rfl;(first|apply qmv|apply qas|apply qni|apply qxt)<;>first|rfl|(apply dcf;first|assumption|omega)))
  refine gct rfl ?_
  repeat (first|apply gst|(apply gsv;rfl;(first|apply qmv|apply qas)<;>rfl))
  refine dC (Or.inl rfl) Tryz.results28 (aw.tmp rfl) (aw.tmp rfl) ?_
  exact⟨k10,Or.inl ⟨by rw[ez1];exact hn,by rw[ez1]⟩⟩
 refine⟨_,rfl,?_⟩
 rw[hn] at ez1
 repeat (first|apply gst|(apply gsv;rfl;(first|apply qmv|apply qas|apply qni|apply qxt)<;>first|rfl|(apply dct;first|assumption|omega)))
 refine gcf rfl ?_
 repeat apply gst
 refine SG.call rfl rfl rfl (vs:=[.int .i64 256]) (Evs.of rfl) ((vE (by omega) (by omega)).mono (fun e w11 hh=>?_))
 obtain⟨pb,rfl,hpb,hk11,hPl⟩:=hh
 refine⟨_,rfl,?_⟩
 have k11:=k10.trans hk11
 repeat (first|apply gst|(apply gsv;rfl;(first|apply qmv|apply qas|apply qni|apply qxt)<;>first|rfl|(apply dct;first|assumption|omega)))
 refine gcf rfl ?_
 have r12:Row w11 b12 0 (dc bj):=Row.all ((hB12.kp0 hk9).kp0 (hk10.trans hk11)) rfl
 have r4:Row w11 b4 0 (bdL b):=Row.all ((((hB4.kp0 hk2).kp0 (hk3.trans (hk4.ai hk5 (aV hb11)))).kp0 k58).kp0 ((hk9.trans hk10).trans hk11)) rfl
 repeat (first|apply gst|(apply gsv;rfl;(first|apply qmv|apply qla)<;>first|rfl|assumption|exact List.not_mem_nil|apply ah))
 refine SG.val rfl rfl rfl rfl (ar rfl (bch b vb bt pb)) ?_
 refine SG.box rfl rfl rfl (ag rfl) (fun cb w12 hk12 hcb hBc=>?_)
 have hBc:Blk w12 cb (.cells (xD b vb bt pb (.map none)).toArray 127):=hBc
 have k12:=k11.trans hk12
 clear r12 r4
 have r12:Row w12 b12 0 (dc bj):=Row.all (((hB12.kp0 hk9).kp0 (hk10.trans hk11)).kp0 hk12) rfl
 have r11:Row w12 b11 0 (bkc (bB cp)):=Row.all ((hB11.kp0 k58).kp0 (((hk9.trans hk10).trans hk11).trans hk12)) rfl
 repeat (first|apply gst|(apply gsv;rfl;apply qas<;>rfl))
 obtain⟨N,hN⟩:∃N,N=w12.heap.size:=⟨_,rfl⟩
 refine CG.free mixed 12 [0,2,3,4,7,1,11,5,6,8,9,10] [(1,gM N (dv (n:=8)) ptN bj),(5,gC N t (fun q=> .iface 74 (.pointer (some ⟨q,0,none⟩)))),(6,gC N t (fun q=>bhv bk q (.slice none 0 0))),(8,gC N t (fun q=> .agg (ndB bk q (.slice none 0 0) (bB cp) (.slice none 0 0)).toArray)),(9,gX 0 N 118 (fun q=>(ndB bk q (.slice none 0 0) (bB cp) (.slice none 0 0)).toArray) (fun q w=>N≤q∧j9 w q t)),(10,gN N (dv (n:=8)) ptN bj 0)] (by kernel_rfl) ?_ ?_
 ·intro p hp
  simp only[List.mem_cons,List.mem_nil_iff,or_false] at hp
  rcases hp with rfl|rfl|rfl|rfl|rfl|rfl
  ·exact yO
  ·exact ou
  ·exact ou
  ·exact ou
  ·exact tv (fun y w w' hk h=>⟨h.1,h.2.kp0 hk⟩)
  ·exact yN
 repeat (apply gxv;rfl;rfl;(first|apply qmv|apply qla)<;>first|rfl|assumption|exact List.not_mem_nil|apply ah)
 refine bh.vK bj rfl hN rfl rfl (fun nm=>?_)
 repeat (apply gxv;rfl;rfl;apply qmv<;>rfl)
 refine bh.AW (t:=74) (v:= .pointer (some ⟨ta,0,none⟩)) (vs:=[]) _ rfl rfl rfl rfl (ag rfl) True.intro (fun W hk=>(eH ((hT.kp0 k12).kp0 hk)).mono (fun e W' hh=>?_)) (fun q5=>?_)
 ·obtain⟨b',he,hb',hT',hk'⟩:=hh
  exact⟨b',he,⟨by rw[hN];exact Nat.le_trans hk.size hb',hT'⟩,hk'⟩
 refine bh.CJ (gC N t (fun q=>bhv bk q (.slice none 0 0))) q5 rfl rfl rfl rfl (ar rfl (bbh bk q5)) rfl (fun W hk hF=>hF _ (.head _) (by kernel_rfl)) (fun q6=>?_)
 refine bh.CJ (gC N t (fun q=> .agg (ndB bk q (.slice none 0 0) (bB cp) (.slice none 0 0)).toArray)) q6 rfl rfl rfl rfl (ar rfl (bnd bk q6 (bB cp))) rfl (fun W hk hF=>hF _ (.head _) (by kernel_rfl)) (fun q8=>?_)
 refine bh.DD (Y:=Nat) q8 rfl hN rfl rfl rfl rfl rfl (fun y W W' hk h=>⟨h.1,h.2.kp0 hk⟩) (fun W hk hF=>hF _ (.head _) (by kernel_rfl)) (fun q9=>?_)
 obtain⟨z,tb⟩:=q9
 refine bh.yJ (V:=ptN) (vy:=z) (b:=nm) rfl hN rfl rfl rfl (by kernel_rfl) (ag rfl) (ag rfl) (ag rfl) jZ.key (fun W hF=>hF _ (.tail _ (.tail _ (.tail _ (.tail _ (.head _))))) (by kernel_rfl)) ?_ ?_
 ·refine pr (q:=fun D=>∀w w' x,Kp [nm] w w'→(∃es c,Blk w nm (.map es c))→av w' nm (dv (n:=8)) ptN [(bj,z)]→D.phi x w→D.phi x w') (fun _ _ _ _ _ _ h=>h) (fun p hp hne W W' x hk hb hm h=>?_)
  simp only[List.mem_cons,List.mem_nil_iff,or_false] at hp
  rcases hp with rfl|rfl|rfl|rfl|rfl|rfl
  ·exact(tc (t:=t) (cs:=fun _=> #[]) (T:=0) hk hb hm).1 x h
  ·exact(tc (m:=N) (t:=t) (cs:=fun _=> #[]) (T:=0) hk hb hm).2.1 _ x h
  ·exact(tc (m:=N) (t:=t) (cs:=fun _=> #[]) (T:=0) hk hb hm).2.1 _ x h
  ·exact(tc (m:=N) (t:=t) (cs:=fun _=> #[]) (T:=0) hk hb hm).2.1 _ x h
  ·exact(tc (m:=N) (t:=t) hk hb hm).2.2 x h
  ·exact absurd rfl hne
 refine bh.tl (fun w13 hk13 hF=>?_)
 have h1:=hF _ (.head _)
 have h2:=hF _ (.tail _ (.head _))
 simp only at h1 h2
 have h1:N≤nm∧av w13 nm (dv (n:=8)) ptN [(bj,z)]:=h1
 have h2:(N≤z∧Blk w13 z (.cells (ndB bk tb (.slice none 0 0) (bB cp) (.slice none 0 0)).toArray 118))∧N≤tb∧j9 w13 tb t:=h2
 have k13:=k12.trans hk13
 clear r12 r11
 repeat (apply gsv;rfl;(first|apply qfa|apply qnc)<;>rfl)
 refine SG.bH (bdL b++(.iface 40 (.pointer (some ⟨vb,0,none⟩))::(dc bj++[.pointer (some ⟨bt,0,none⟩),.pointer (some ⟨pb,0,none⟩)]))) [.map none] [] rfl rfl (ag rfl) (ag rfl) (hBc.kp0 hk13) (wG _ _ _ _ _) rfl rfl (wF _ _ _ _) rfl (fun w14 hk14 hBc14=>?_)
 have hBc14:Blk w14 cb (.cells (xD b vb bt pb (.map (some nm))).toArray 127):=by
  rw[←tT b vb bt pb (.map (some nm))]
  exact hBc14
 repeat (first|apply gst|(apply gsv;rfl;(first|apply qmv|apply qas)<;>rfl))
 refine dC (Or.inl rfl) Tryz.results28 (aw.tmp rfl) (aw.tmp rfl) ?_
 have s1:=k11.size
 have lcb:=hBc.lt
 have hcbw:w.heap.size≤cb:=Nat.le_trans k11.size hcb
 refine⟨k13.ai hk14 (aV hcbw),Or.inr ⟨ez1,?_⟩⟩
 have sk9:=k8.size
 have sk10:=k9.size
 have sk11:=k10.size
 have hSc:Cnd n [127] [] w13 [cb]:=Cnd.cells (Nat.le_trans hn0 hcbw) (hBc.kp0 hk13) (by decide)
 have k9':=((hk10.trans hk11).trans hk12).trans hk13
 obtain⟨b1,b2,b3,b4⟩:=vl (N:=1099511627776) hn (fun e he=>(vF hn e he).2)
 have lbm:=hT9.map.lt
 have lbk:=hBk.map.lt
 have lnm:=h1.2.lt
 have t1:=((hk10.trans hk11).trans hk12).size
 have t2:=(hk11.trans hk12).size
 have t3:=h1.1
 have t4:=hk9.size
 refine⟨⟨cb,bt,bm,pb,nm,vb,.slice none 0 0,b,bj,Tr.new bj b.fork.toNat,[],[(bj,z,⟨bk,bkm,tb,bal (kY [] l),t,none,0,[],bB cp,none,0⟩)]⟩,z,⟨bk,bkm,tb,bal (kY [] l),t,none,0,[],bB cp,none,0⟩,rfl,fun A0 hA0=>?_,⟨rfl,rfl,rfl,rfl,rfl,rfl⟩,rfl,rfl,rfl,rfl,rfl,hcbw,by show w.heap.size≤bm;omega,by show w.heap.size≤nm;omega⟩
 have hT14:bE w14 bt bm (Tr.new bj b.fork.toNat):=⟨hSc.blk hk14 (hT9.kp0 k9').blk (by decide),hSc.yz hk14 (hT9.kp0 k9').map List.not_mem_nil⟩
 have hP13:=(hPl n (by omega)).kp0 (hk12.trans hk13)
 have hBk13:=hBk.kp0 ((hk11.trans hk12).trans hk13)
 have h0:∀{α:Type} {T:TypeId},Tg T n w14 none ([]:List α):=Or.inl (fun h=>absurd rfl h)
 refine⟨hBc14,hT14,hP13.kp hk14 (hSc.no hP13.blk (by show _∉_;decide)) (fun _ hg=>by cases hg) (hSc.not (by decide)),vJ (hSc.yz hk14 h1.2 List.not_mem_nil),fun p hp=>?_,.head _,.tail _ (.head _),by show bm≠nm;omega,by show n≤bm;omega,by show n≤nm;omega,by show n≤bt;omega,by have:=k13.size;have:=hk14.size;omega⟩
 rw[List.mem_singleton] at hp
 subst hp
 refine⟨hSc.blk hk14 h2.1.2 (by decide),⟨kY [] l,⟨hSc.blk hk14 hBk13.blk (by decide),hSc.yz hk14 hBk13.map List.not_mem_nil⟩,⟨b1,?_,rfl⟩⟩,fun hm=>?_,by show n≤bkm;omega,hSc.blk hk14 h2.2.2 (by decide),Sl.nil,h0,mU _ _ _,Sl.nil,h0,rfl⟩
 ·show _≤1000+400*_
  omega
 ·have hm:bkm∈bm::nm::A0:=hm
  rcases List.mem_cons.1 hm with e|hm
  ·omega
  rcases List.mem_cons.1 hm with e|hm
  ·omega
  ·have:=hA0 _ hm
   omega
end
section
section
variable {P:Program} {S:List Nat} {w0:World} {F:World→Prop} {L:Env} {d:Option Nat} {ty:TypeId} {pos:String} {af:Array Edge} {g:Option (Nat×Bool)}
theorem q16{T T':TypeId}[u:Ut P T (.int .u16)][u':Ut P T' (.int .i64)]{x:Operand}{a:Int}(hx:ro L x=some (.int .u16 a))(h:Ar (0≤a∧a<65536)):aJ P S w0 F L ⟨d,.convert T T' x,ty,pos,af,g⟩ (.int .i64 a):=by
 have e:IntKind.wrap .i64 a=a:=by
  have:=h.h
  simp only[IntKind.wrap,IntKind.signed,IntKind.bits]
  simp
  omega
 have:=qcv (P:=P) (S:=S) (w0:=w0) (F:=F) (L:=L) (d:=d) (ty:=ty) (pos:=pos) (af:=af) (g:=g) (u:=u) (u':=u') hx
 rw[e] at this
 exact this
theorem qi8{T T':TypeId}[u:Ut P T (.int .i64)][u':Ut P T' (.int .u8)]{x:Operand}{a:Int}(hx:ro L x=some (.int .i64 a))(h:Ar (0≤a∧a<256)):aJ P S w0 F L ⟨d,.convert T T' x,ty,pos,af,g⟩ (bv (UInt8.ofNat a.toNat)):=by
 have e:IntKind.wrap .u8 a=((UInt8.ofNat a.toNat).toNat:Int):=by
  have:=h.h
  rw[UInt8.toNat_ofNat']
  simp only[IntKind.wrap,IntKind.signed,IntKind.bits]
  simp
  omega
 have:=qcv (P:=P) (S:=S) (w0:=w0) (F:=F) (L:=L) (d:=d) (ty:=ty) (pos:=pos) (af:=af) (g:=g) (u:=u) (u':=u') hx
 rw[e] at this
 exact this
end
end
section
def d1(b:UInt8):Dg:=⟨[b,0,0,0,0,0,0,0],rfl⟩
theorem bd1(b:UInt8)(w:World):(Instr.build 47 #[(0,bv b)]).run Tryz.prog w= .ok (dv (d1 b)) w:=by kernel_rfl
def bdU(f l s:UInt8):Bd:=⟨(f.toNat:Int)%6,(l.toNat:Int)%6,(s.toNat:Int)%6⟩
theorem bbd(f l s:Int)(w:World):(Instr.build 31 #[(0,.int .i64 f),(1,.int .i64 l),(2,.int .i64 s)]).run Tryz.prog w= .ok (bdv ⟨f,l,s⟩) w:=by kernel_rfl
def u4c(l:List Nat):List Value:=[.int .u16 ((l.getD 0 0:Nat):Int),.int .u16 ((l.getD 1 0:Nat):Int),.int .u16 ((l.getD 2 0:Nat):Int),.int .u16 ((l.getD 3 0:Nat):Int)]
def u4v(l:List Nat):Value:= .agg (u4c l).toArray
theorem BK(l:List Nat){j:Nat}(h:j<4):(u4c l)[j]?=some (.int .u16 ((l.getD j 0:Nat):Int)):=by
 match j,h with
 |0,_=>rfl
 |1,_=>rfl
 |2,_=>rfl
 |3,_=>rfl
def acU(l:List Nat)(n:Nat):List Ac:=(List.range n).map (fun j=>⟨d1 (UInt8.ofNat (j+1)),((l.getD j 0:Nat):Int),0⟩)
theorem wY(l:List Nat)(n:Nat):acU l (n+1)=acU l n++[⟨d1 (UInt8.ofNat (n+1)),((l.getD n 0:Nat):Int),0⟩]:=by simp[acU,List.range_succ]
theorem fP(l:List Nat)(n:Nat):(acU l n).length=n:=by simp[acU]
theorem Cv(w:World)(a0 a1 a2 a3 a4 a5 a6 a7:UInt8)(x:Int):(Instr.build 59 #[(0,.agg #[bv a0,bv a1,bv a2,bv a3,bv a4,bv a5,bv a6,bv a7]),(1,.int .i64 x)]).run Tryz.prog w= .ok (.agg #[bv a0,bv a1,bv a2,bv a3,bv a4,bv a5,bv a6,bv a7,.int .i64 x,.int .i64 0]) w:=by kernel_rfl
theorem DG(d:Dg)(x:Int)(w:World):(Instr.build 59 #[(0,dv d),(1,.int .i64 x)]).run Tryz.prog w= .ok (acv ⟨d,x,0⟩) w:=by
 obtain⟨l,h⟩:=d
 match l,h with
 |[a0,a1,a2,a3,a4,a5,a6,a7],_=>exact Cv w a0 a1 a2 a3 a4 a5 a6 a7 x
theorem U4.lt{l:List Nat}(hb:∀x∈l,x<65536)(j:Nat):l.getD j 0<65536:=by
 rw[List.getD_eq_getElem?_getD]
 cases h:l[j]? with
 |none=>simp
 |some x=>exact hb x (List.mem_of_getElem? h)
attribute [local irreducible] CG NG SG aJ Der Row Blk av aA
theorem lS(w:World)(l:List Nat)(hb:∀x∈l,x<65536):oM Tryz.prog 59 acl 10 29 #[u4v l] w (acU l 4):=by
 refine aM Tryz.func29 rfl Tryz.ntmps29 rfl ?_
 repeat apply gst
 refine SG.box rfl rfl rfl (ag rfl) (fun b1 w1 hk1 hb1 hB1=>?_)
 have hB1:Blk w1 b1 (.cells (u4c l).toArray 24):=hB1
 have r1:Row w1 b1 0 (u4c l):=Row.all hB1 rfl
 have hlen:(u4c l).length=4:=rfl
 repeat (first|apply gst|(apply gsv;rfl;(first|apply qmv|apply qas|apply qla)<;>first|rfl|assumption|exact List.not_mem_nil))
 refine CG.loop (X:=Nat×Value) (fun q=>[(3,q.2),(6,.agg (u4c l).toArray),(7,.int .i64 (q.1:Int))])
  (fun q w'=>q.1≤4∧Kp [] w w'∧w'.ownsRow w.heap.size 59 10 q.2 q.1 (flt acl (acU l q.1)))
  (fun q=>4-q.1) (0,.slice none 0 0) ⟨by omega,hk1,cC⟩ (aW.of rfl) ?_
 rintro⟨i,v⟩ w3 ⟨hi,k3,ho3⟩
 simp only at hi ho3
 refine CG.to [(3,v),(6,.agg (u4c l).toArray),(7,.int .i64 (i:Int))] (aW.of rfl) ?_
 clear r1
 by_cases hlt:i<4
 ·have g1:(i:Int)<4:=by omega
  have hat:=BK l hlt
  have hu:=U4.lt hb i
  generalize hx:l.getD i 0=x at*
  repeat (first|apply gst|(apply gsv;rfl;apply qls<;>first|rfl|(apply dct;first|assumption|omega)))
  refine gct rfl ?_
  repeat (first|apply gst|(apply gsv;rfl;(first|apply qid|apply qi8|apply qmv|apply qas|apply qad)<;>first|rfl|(apply Ar.mk;omega)|assumption))
  have ei:(UInt8.ofNat ((i:Int)+1).toNat)=UInt8.ofNat (i+1):=by congr 1
  rw[ei]
  refine SG.val rfl rfl rfl rfl (ar rfl (bd1 _)) ?_
  repeat (apply gsv;rfl;(first|apply q16|apply qmv)<;>first|rfl|(apply Ar.mk;omega))
  refine SG.val rfl rfl rfl rfl (ar rfl (DG _ _)) ?_
  refine SG.buildSlice rfl rfl rfl rfl (DC _) (fun b7 w7 hk7 hb7 hB7=>?_)
  have s3:=k3.size
  have s7:=hk7.size
  have ho7:=vA (fP l i).symm (aI ho3 hk7)
  refine SG.pE (enc:=acl) (xs:=acU l i) (ys:=[⟨d1 (UInt8.ofNat (i+1)),(x:Int),0⟩]) (base:=w.heap.size) rfl rfl rfl (ag rfl) (ag rfl) rfl rfl rfl rfl az iw ho7 (jk (enc:=acl) (sz:=10) az hB7) (by rw[fP];simp only[maxLen,List.length_singleton];omega) (by rw[fP];show(i+1)*24≤_;omega) (by omega) (fun v8 w8 hk8 ho8 hv8=>?_)
  rw[←hx,←wY,fP] at ho8
  repeat (first|apply gst|(apply gsv;rfl;(first|apply qmv|apply qas|apply qad)<;>first|rfl|(apply Ar.mk;omega)))
  refine NG.round (i+1,v8) (aW.of rfl) ⟨hlt,(k3.trans hk7).ai hk8 (df ho7 (Nat.le_refl _)),ho8⟩ (by simp only;omega)
 ·have g1:¬(i:Int)<4:=by omega
  have e4:i=4:=by omega
  subst e4
  repeat (first|apply gst|(apply gsv;rfl;apply qls<;>first|rfl|(apply dcf;first|assumption|omega)))
  refine gcf rfl ?_
  repeat (first|apply gst|(apply gsv;rfl;(first|apply qmv|apply qas)<;>rfl))
  refine aN (Or.inl rfl) Tryz.results29 (aw.tmp rfl) ?_
  exact⟨v,rfl,by rw[fP];exact ho3,k3⟩
end
section
structure Wl where
 c:Cm
 nb:Nbk
 vN:Value
 pm:Nat
 vs:Value
 ss:List Tm
 vb:Value
 bs:List Bm
def wlc(q:Wl):List Value:=[.pointer (some ⟨q.c.cb,0,none⟩),.pointer (some ⟨q.c.vb,0,none⟩),q.vs,q.vb]
structure nv(w:World)(n:Nat)(tot:Int)(bw:Nat)(q:Wl):Prop where
 blk:Blk w bw (.cells (wlc q).toArray 44)
 ch:dw w n [q.c.tm,q.c.nm,q.pm] tot q.c
 nb:dQ w n q.c.vb q.pm q.vN q.nb
 sg:w.ownsRow n 52 13 q.vs q.ss.length (flt txc q.ss)
 si:∀x∈q.ss,x.In n w
 bl:w.ownsRow n 50 18 q.vb q.bs.length (flt bkc q.bs)
 bi:∀x∈q.bs,x.In n w
 sn:∀p∈q.c.ns,p.2.2.x.xs≠[]→∀b off,p.2.2.x.a=some ⟨b,off,none⟩→b∉aU q.vs
 sb:∀x∈q.bs,x.xs≠[]→∀b off,x.a=some ⟨b,off,none⟩→b∉aU q.vs
 pn:q.pm≠q.c.tm∧q.pm≠q.c.nm
 bn:n≤bw
theorem nv.kp0{w w':World}{n:Nat}{tot:Int}{bw:Nat}{q:Wl}(h:nv w n tot bw q)(hk:Kp [] w w'):nv w' n tot bw q:=
 ⟨h.blk.kp0 hk,h.ch.kp0 hk,h.nb.kp0 hk,aI h.sg hk,fun x hx=>(h.si x hx).kp0 hk,aI h.bl hk,fun x hx=>(h.bi x hx).kp0 hk,h.sn,h.sb,h.pn,h.bn⟩
theorem eF{w:World}{bw:Nat}{q:Wl}(h:Blk w bw (.cells (wlc q).toArray 44)):Row w bw 0 [.pointer (some ⟨q.c.cb,0,none⟩)]∧Row w bw 1 [.pointer (some ⟨q.c.vb,0,none⟩)]∧Row w bw 2 [q.vs]∧Row w bw 3 [q.vb]:=
 ⟨Row.of h [] [.pointer (some ⟨q.c.vb,0,none⟩),q.vs,q.vb] rfl rfl,Row.of h [.pointer (some ⟨q.c.cb,0,none⟩)] [q.vs,q.vb] rfl rfl,Row.of h [.pointer (some ⟨q.c.cb,0,none⟩),.pointer (some ⟨q.c.vb,0,none⟩)] [q.vb] rfl rfl,Row.of h [.pointer (some ⟨q.c.cb,0,none⟩),.pointer (some ⟨q.c.vb,0,none⟩),q.vs] [] rfl rfl⟩
theorem Bf{l:List Nat}(hb:∀x∈l,x<65536):j7 (acU l 4)=0∧0≤lC (acU l 4)∧lC (acU l 4)≤300000:=by
 have h0:=U4.lt hb 0
 have h1:=U4.lt hb 1
 have h2:=U4.lt hb 2
 have h3:=U4.lt hb 3
 have e:acU l 4=[⟨d1 1,((l.getD 0 0:Nat):Int),0⟩,⟨d1 2,((l.getD 1 0:Nat):Int),0⟩,⟨d1 3,((l.getD 2 0:Nat):Int),0⟩,⟨d1 4,((l.getD 3 0:Nat):Int),0⟩]:=rfl
 have es:lC (acU l 4)=((l.getD 0 0:Nat):Int)+(((l.getD 1 0:Nat):Int)+(((l.getD 2 0:Nat):Int)+(((l.getD 3 0:Nat):Int)+0))):=by
  rw[e]
  simp[lC]
 have hm:∀x∈acU l 4,¬rl x:=fun x hx=>by
  rw[e] at hx
  simp only[List.mem_cons,List.mem_nil_iff,or_false] at hx
  unfold rl
  rcases hx with rfl|rfl|rfl|rfl<;>simp only<;>omega
 refine⟨?_,by omega,by omega⟩
 unfold j7
 rw[fP,if_neg (by omega)]
 exact pc hm (by rw[e];show[d1 1,d1 2,d1 3,d1 4].Nodup;decide) (fun _ _ h=>by cases h) (by omega)
def Is:Nm:=⟨0,0,0,fun _=>pz,⟨0,zd⟩,none,0,[],bm0,none,0⟩
def Jd:Cm:=⟨0,0,0,0,0,0,undef,⟨0,0,0⟩,zd,Tr.new zd 0,[],[]⟩
def gCh(n:Nat)(b:Bd)(vb pm:Nat)(l:List Ac)(t:Tl):GD:=⟨Cm×Nat×Nm,(Jd,0,Is),fun x=> .tuple #[.pointer (some ⟨x.1.cb,0,none⟩),.int .i64 0],fun x w=>dw w n [x.1.tm,x.1.nm,pm] (lC l) x.1∧((x.1.bd=b∧x.1.vb=vb∧x.1.first=bj∧x.1.tr=Tr.new bj b.fork.toNat∧x.1.ps=[]∧x.1.pv= .slice none 0 0)∧x.1.ns=[(bj,x.2.1,x.2.2)]∧x.2.2.x=bB cp∧x.2.2.f=bal (kY [] l)∧x.2.2.t=t∧x.2.2.es=[])∧pm≠x.1.tm∧pm≠x.1.nm⟩
theorem wm{n:Nat}{b:Bd}{vb pm:Nat}{l:List Ac}{t:Tl}(x:(gCh n b vb pm l t).X):bU [] ((gCh n b vb pm l t).phi x):=fun w w' hk h=>⟨h.1.kp0 hk,h.2⟩
structure CE(b:Bd)(l:List Nat)(q:Wl)(y:Bm):Prop where
 bd:q.c.bd=b
 fst:q.c.first=bj
 tr:q.c.tr=Tr.new bj b.fork.toNat
 ps:q.c.ps=[]
 ns:∃z m,q.c.ns=[(bj,z,m)]∧m.x=bB cp∧m.f=bal (kY [] (acU l 4))∧m.t=⟨0,zd⟩∧m.es=[]
 nb:q.nb=[]
 ss:q.ss=[]
 bs:q.bs=[y]
 y:y.b=(bB cp).b
def t00:Tl:=⟨0,zd⟩
theorem zD(w:World):(Instr.build 76 #[]).run Tryz.prog w= .ok (.agg (tlc t00).toArray) w:=by kernel_rfl
theorem bwl(w:World)(cb vb:Nat)(a:Option Addr)(m cc:Nat):(Instr.build 44 #[(0,.pointer (some ⟨cb,0,none⟩)),(1,.pointer (some ⟨vb,0,none⟩)),(3,.slice a m cc)]).run Tryz.prog w= .ok (.agg #[.pointer (some ⟨cb,0,none⟩),.pointer (some ⟨vb,0,none⟩),.slice none 0 0,.slice a m cc]) w:=by kernel_rfl
theorem Jy(w:World)(a0 a1 a2 a3 a4 a5 a6 a7 b0 b1 b2 b3 b4 b5 b6 b7:UInt8)(h:Int)(a:Option Addr)(n c:Nat):(Instr.buildSlice 42 1 #[(0,.agg #[bv a0,bv a1,bv a2,bv a3,bv a4,bv a5,bv a6,bv a7,.int .i64 h,bv b0,bv b1,bv b2,bv b3,bv b4,bv b5,bv b6,bv b7,.slice a n c])]).run Tryz.prog w=
  .ok (.slice (some ⟨w.heap.size,0,none⟩) 1 1) {w with heap:=w.heap.push (.cells #[bv a0,bv a1,bv a2,bv a3,bv a4,bv a5,bv a6,bv a7,.int .i64 h,bv b0,bv b1,bv b2,bv b3,bv b4,bv b5,bv b6,bv b7,.slice a n c] 50)}:=by kernel_rfl
theorem bbl(y:Bm)(w:World):(Instr.buildSlice 42 1 #[(0,bkv y)]).run Tryz.prog w= .ok (.slice (some ⟨w.heap.size,0,none⟩) 1 1) {w with heap:=w.heap.push (.cells (bkc y).toArray 50)}:=by
 obtain⟨⟨la,ha⟩,h,⟨lb,hb⟩,a,c,xs⟩:=y
 match la,ha,lb,hb with
 |[a0,a1,a2,a3,a4,a5,a6,a7],_,[b0,b1,b2,b3,b4,b5,b6,b7],_=>exact Jy w a0 a1 a2 a3 a4 a5 a6 a7 b0 b1 b2 b3 b4 b5 b6 b7 h a xs.length c
attribute [local irreducible] CG NG SG aJ Der Row Blk av aA bh j7 bj
theorem og(w:World){b:Bd}(hb:bdz b=0)(hf:b.fork≤1000){l:List Nat}(hl:∀x∈l,x<65536):Calls Tryz.prog 12 #[bdv b,u4v l] w (fun e w'=>Kp [] w w'∧∃bw q y,e= .returned (.pointer (some ⟨bw,0,none⟩))∧nv w' w.heap.size (lC (acU l 4)) bw q∧CE b l q y):=by
 refine aT Tryz.func12 rfl Tryz.ntmps12 rfl ?_
 obtain⟨hz,he0,he1⟩:=Bf hl
 repeat apply gst
 refine SG.box rfl rfl rfl (ag rfl) (fun b2 w1 hk1 hb2 hB2=>?_)
 have hB2:Blk w1 b2 (.cells (bdL b).toArray 31):=hB2
 refine SG.box rfl rfl rfl (ag rfl) (fun b3 w2 hk2 hb3 hB3=>?_)
 have hB3:Blk w2 b3 (.cells (u4c l).toArray 24):=hB3
 have k2:=hk1.trans hk2
 repeat (first|apply gst|(apply gsv;rfl;apply qas<;>rfl))
 refine SG.call rfl rfl rfl (vs:=[]) True.intro ((iC w2).mono (fun e w3 hh=>?_))
 obtain⟨bb,pm,rfl,hN,hne,hk3⟩:=hh
 refine⟨_,rfl,?_⟩
 have k3:=k2.trans hk3
 repeat (first|apply gst|(apply gsv;rfl;(first|apply qep|apply qmv|apply qas)<;>rfl))
 refine gcf rfl ?_
 have r2:Row w3 b2 0 (bdL b):=Row.all ((hB2.kp0 hk2).kp0 hk3) rfl
 have r3:Row w3 b3 0 (u4c l):=Row.all (hB3.kp0 hk3) rfl
 have hu4:(u4c l).length=4:=rfl
 have hb3l:(bdL b).length=3:=rfl
 obtain⟨N,hNe⟩:∃N,N=w3.heap.size:=⟨_,rfl⟩
 repeat apply gst
 refine CG.free mixed 13 [0,1,2,3,5,6,7,4,8,9,10,11,12] [(6,gX () N 76 (fun _=>(tlc t00).toArray) (fun _ _=>True)),(4,gS N acl 10 (acU l 4)),(8,gCh w.heap.size b bb pm (acU l 4) t00)] (by kernel_rfl) ?_ ?_
 ·intro p hp
  simp only[List.mem_cons,List.mem_nil_iff,or_false] at hp
  rcases hp with rfl|rfl|rfl
  ·exact tv (fun _ _ _ _ h=>h)
  ·exact yM
  ·exact wm
 repeat (apply gxv;rfl;rfl;(first|apply o0|apply qmv|apply qla)<;>first|rfl|assumption|exact List.not_mem_nil)
 refine bh.val rfl rfl rfl rfl (ar rfl zD) ?_
 refine bh.DD (Y:=Unit) () rfl hNe rfl rfl rfl rfl rfl (fun _ _ _ _ h=>h) (fun _ _ _=>trivial) (fun q6=>?_)
 repeat (apply gxv;rfl;rfl;apply o0<;>rfl)
 refine bh.y8 (acU l 4) rfl rfl rfl rfl (vs:=[u4v l]) (Evs.of rfl) (Nat.le_of_eq hNe) (fun W hk _=>(lS W l hl).toS az) (fun a4 c4=>?_)
 refine bh.wH (vs:=[bdv b,.iface 40 (.pointer (some ⟨bb,0,none⟩)),.slice a4 (acU l 4).length c4,.iface 74 (.pointer (some ⟨q6.1,0,none⟩))]) (gCh w.heap.size b bb pm (acU l 4) t00) rfl rfl rfl rfl (Evs.of rfl) (fun W hk hF=>?_) (fun x=>?_)
 ·have h4:=hF _ (.head _) (by kernel_rfl)
  have h6:=hF _ (.tail _ (.head _)) (by kernel_rfl)
  have s3:=k3.size
  have sW:=hk.size
  refine(ni (n:=w.heap.size) (by omega) b h4.sl (by rw[fP];omega) h6.1.2).mono (fun e W' hh=>?_)
  obtain⟨hkW,hh⟩:=hh
  have hcz:ik b (acU l 4)=0:=by
   unfold ik
   rw[if_neg (fun g=>g hb),if_neg (by omega),hz]
  rcases hh with⟨g,-⟩|⟨-,c,z,m,he,hC,hP,hns,hx,hf',ht,hes,-,g1,g2⟩
  ·exact absurd hcz g
  ·have lpm:=hN.map.lt
   have hC:=hC [pm] (fun x hx=>by rw[List.mem_singleton] at hx;omega)
   exact⟨(c,z,m),he,⟨hC,⟨hP,hns,hx,hf',ht,hes⟩,by show pm≠c.tm;omega,by show pm≠c.nm;omega⟩,hkW⟩
 obtain⟨c,z,m⟩:=x
 repeat (apply gxv;rfl;rfl;(first|apply qmv|apply qas|apply qxt)<;>rfl)
 refine bh.tl (fun w4 hk4 hF=>?_)
 have hC:=hF _ (.head _)
 obtain⟨hC,⟨⟨p1,p2,p3,p4,p5,p6⟩,hns,hx,hf',ht,hes⟩,hp1,hp2⟩:=hC
 simp only at hC p1 p2 p3 p4 p5 p6 hns hx hf' ht hes hp1 hp2
 clear r2 r3
 have k4:=k3.trans hk4
 have hq:au c.ns c.tr.tip=some (z,m):=by
  rw[hns,p4]
  show(if bj=bj then some (z,m) else none)=_
  rw[if_pos rfl]
 repeat (first|apply gst|(apply gsv;rfl;(first|apply qep|apply qmv|apply qas|apply qpk|apply qni)<;>first|rfl|(apply dct;first|assumption|omega)))
 refine gcf rfl ?_
 repeat (first|apply gst|(apply gsv;rfl;apply qmv<;>rfl))
 refine SG.call rfl rfl rfl (vs:=[.pointer (some ⟨c.cb,0,none⟩)]) (Evs.of rfl) ((tS hC hq).mono (fun e w5 hh=>?_))
 obtain⟨y,hy,rfl,hY,hk5⟩:=hh
 refine⟨_,rfl,?_⟩
 refine SG.buildSlice rfl rfl rfl rfl (bbl y) (fun b33 w6 hk6 hb33 hB33=>?_)
 refine SG.val rfl rfl rfl rfl (ar rfl (fun W=>bwl W c.cb bb (some ⟨b33,0,none⟩) 1 1)) ?_
 refine SG.box rfl rfl rfl (ag rfl) (fun bw w7 hk7 hbw hBw=>?_)
 have hBw:Blk w7 bw (.cells #[.pointer (some ⟨c.cb,0,none⟩),.pointer (some ⟨bb,0,none⟩),.slice none 0 0,.slice (some ⟨b33,0,none⟩) 1 1] 44):=hBw
 repeat (first|apply gst|(apply gsv;rfl;apply qas<;>rfl))
 refine aN (Or.inl rfl) Tryz.results12 (aw.tmp rfl) ?_
 have k5:=k4.trans hk5
 have k67:=hk6.trans hk7
 have k7:=k5.trans k67
 have s2:=k2.size
 have s5:=k5.size
 have hN7:dQ w7 w.heap.size bb pm (.slice none 0 0) []:=⟨(hN.blk.kp0 hk4).kp0 (hk5.trans k67),bW (aI hN.own (hk4.trans (hk5.trans k67))) s2,(hN.map.kp0 hk4).kp0 (hk5.trans k67),Nat.le_trans s2 hN.bp,Nat.le_trans s2 hN.pp⟩
 have ho7:w7.ownsRow w.heap.size 50 18 (.slice (some ⟨b33,0,none⟩) 1 1) [y].length (flt bkc [y]):=by
  have h:=hB33.kp0 hk7
  exact vB aD (l:=[y]) (by rw[ij];exact h) (by omega) rfl (by simp[maxLen])
 refine⟨k7,bw,⟨c,[],.slice none 0 0,pm,.slice none 0 0,[],.slice (some ⟨b33,0,none⟩) 1 1,[y]⟩,y,rfl,?_,⟨p1,p3,p4,p5,⟨z,m,hns,hx,hf',ht,hes⟩,rfl,rfl,rfl,?_⟩⟩
 ·refine⟨?_,hC.kp0 (hk5.trans k67),?_,cC,fun x h=>(by cases h),ho7,fun x h=>?_,fun _ _ _ _ _ _ h=>(by cases h),fun _ _ _ _ _ _ h=>(by cases h),⟨hp1,hp2⟩,Nat.le_trans s5 (Nat.le_trans hk6.size hbw)⟩
  ·have e:wlc ⟨c,[],.slice none 0 0,pm,.slice none 0 0,[],.slice (some ⟨b33,0,none⟩) 1 1,[y]⟩=[.pointer (some ⟨c.cb,0,none⟩),.pointer (some ⟨c.vb,0,none⟩),.slice none 0 0,.slice (some ⟨b33,0,none⟩) 1 1]:=rfl
   rw[e,p2]
   exact hBw
  ·show dQ w7 w.heap.size c.vb pm (.slice none 0 0) []
   rw[p2]
   exact hN7
  ·rw[List.mem_singleton] at h
   subst h
   exact(hY.kp0 k67).mono (Nat.zero_le _)
 ·rw[hy]
  show m.x.b=_
  rw[hx]
end
section
section
variable {P:Program} {n:Nat} {ops:List Oper} {Q:Exit→Act→World→Prop} {S:List Nat×Nat} {w0:World} {L:Env} {G:List (Nat×GD)} {K:Env→List Fact→Prop} {Γ:List Fact} {i:Nat} {ord:List Nat} {ty:TypeId} {pos:String} {af:Array Edge} {g:Option (Nat×Bool)}
theorem bh.xk{m b:Nat}{T:TypeId}{inf:TypeInfo}[f:Inf P T inf]{a x:Operand}{l:List Value}(hg:cJ G i=some (gP m T))
  (ho:ops[i]?=some ⟨none,.store T a x,ty,pos,af,g⟩) (hw:want ops L ⟨none,.store T a x,ty,pos,af,g⟩=some true) (hk:(known L a&&known L x)=true) (ha:Γ.all (fun p=>anc ops i p.1)=true)
  (hpa:rho L a= .pointer (some ⟨b,0,none⟩)) (hx:rho L x= .agg l.toArray) (hn:l.length=inf.size) (hm:w0.heap.size≤m)
  (hF:∀w,Kp S.1 w0 w→dP ops i Γ w→(m≤b∧∃cs,Blk w b (.cells cs T)∧cs.size=inf.size)∧aS l=true)
  (hkeep:∀p∈G,p.1≠i→∀y w w' cs,m≤b→Blk w b (.cells cs T)→cs.size=inf.size→Kp [b] w w'→Blk w' b (.cells l.toArray T)→p.2.phi y w→p.2.phi y w')
  (h:bh P S w0 ops G K ord L ((i,fun w=>m≤b∧Blk w b (.cells l.toArray T))::Γ)):bh P S w0 ops G K (i::ord) L Γ:=by
 refine bh.Dz (gP m T) (b,l.toArray) hg ho hw (by simpa[Op.operands] using hk) ha (fun w h1 h2=>?_) h
 obtain⟨⟨g1,cs,g2,g3⟩,hone⟩:=hF w h1 h2
 unfold aR
 have hsp:(spl cs.toList 0 (Value.agg l.toArray).cells.toList)=l:=by
  simp only[Value.cells]
  exact rK (by simp;omega)
 have hrun:(execOp (rho L) ⟨none,.store T a x,ty,pos,af,g⟩).run P w= .ok .skip {w with heap:=w.heap.setIfInBounds b (.cells l.toArray T)}:=by
  have:=cL (P:=P) (f:=f) (off:=0) (v:= .agg l.toArray) g2 (by simpa[Value.cells] using hn) (by simp[Value.cells];omega) (by simpa[Value.cells] using hone)
  rw[hsp] at this
  simp only[execOp,hx,hpa,Sem.run_bind,this,Result.andThen,Sem.run_pure]
 rw[hrun]
 have hk':=Kp.set w (o':= .cells l.toArray T) g2 rfl rfl
 exact⟨rfl,⟨g1,g2.set _⟩,fun X hX=>hX.ai hk' (aV (by omega)),fun j y hj hp=>pr (q:=fun D=>∀y,D.phi y w→D.phi y _) (fun _ _=>trivial) (fun p hp hne y hy=>hkeep p hp hne y w _ cs g1 g2 g3 hk' (g2.set _) hy) j hj y hp⟩
end
section
variable {P:Program} {S:List Nat} {w0:World} {F:World→Prop} {L:Env} {d:Option Nat} {ty:TypeId} {pos:String} {af:Array Edge} {g:Option (Nat×Bool)}
end
end
section
structure Ax where
 dO:UInt8
 who:UInt8
 non:Int
 fee:Int
 kind:Int
 ba:Option Addr
 bc:Nat
 body:List UInt8
 bad:Bool
 wh:UInt8
 la:Option Addr
 lc:Nat
 lv:List UInt8
def axc(a:Ax):List Value:=[bv a.dO,bv a.who,.int .i64 a.non,.int .i64 a.fee,.int .i64 a.kind,.slice a.ba a.body.length a.bc,.bool a.bad,bv a.wh,.slice a.la a.lv.length a.lc]
def axv(a:Ax):Value:= .agg (axc a).toArray
structure Ax.In(a:Ax)(n:Nat)(w:World):Prop where
 b:Bs w a.ba a.bc a.body
 bn:a.body≠[]→∀b off,a.ba=some ⟨b,off,none⟩→b<n
 l:Bs w a.la a.lc a.lv
 ln:a.lv≠[]→∀b off,a.la=some ⟨b,off,none⟩→b<n
 lb:a.body.length≤a.bc
 ll:a.lv.length≤a.lc
 l2:a.lv.length≤10000000
def gSg(t:Tx)(z:Int)(n0 base bb pm:Nat)(v:Value)(nb:Nbk):GD:=⟨Tm×Value,(tm0,undef),fun x=> .tuple #[txv x.1,.int .i64 z],fun x w=>((x.1.t=t∧(x.1.t.body≠[]→∀b off,x.1.a1=some ⟨b,off,none⟩→b∉aU x.1.s))∧∀g,x.2.ownBlock=some g→v.ownBlock=some g∨n0≤g)∧x.1.In 0 w∧dQ w base bb pm x.2 nb∧w.ownsRow n0 5 1 x.1.s x.1.t.sig.length (flt by1 x.1.t.sig)⟩
theorem vZ{t:Tx}{z:Int}{n0 base bb pm:Nat}{v:Value}{nb:Nbk}(x:(gSg t z n0 base bb pm v nb).X):bU [] ((gSg t z n0 base bb pm v nb).phi x):=fun w w' hk h=>⟨h.1,h.2.1.kp0 hk,h.2.2.1.kp0 hk,aI h.2.2.2 hk⟩
theorem wi{t:Tx}{z:Int}{n0 base bb pm b:Nat}{v:Value}{nb:Nbk}{w w':World}{cs:Array Value}(hB:Blk w b (.cells cs 52))(hk:Kp [b] w w')(x:(gSg t z n0 base bb pm v nb).X)(h:(gSg t z n0 base bb pm v nb).phi x w):(gSg t z n0 base bb pm v nb).phi x w':=⟨h.1,h.2.1.kpO hk (xq hB (by decide)),h.2.2.1.kpb hk hB (by decide) (by decide),dg h.2.2.2 hk (bQ h.2.2.2 (by decide) hB)⟩
theorem Ca{m k:Nat}{T:TypeId}{S:List Nat}{w w':World}(hS:∀x∈S,x<m)(hk:Kp S w w')(x:(gV m T k).X)(h:(gV m T k).phi x w):(gV m T k).phi x w':=by
 obtain⟨h1,cs,h2,h3⟩:=h
 exact⟨h1,cs,h2.kp hk (fun hm=>by have:=hS _ hm;omega),h3⟩
theorem Cb{m:Nat}{T:TypeId}{S:List Nat}{w w':World}(hS:∀x∈S,x<m)(hk:Kp S w w')(x:(gP m T).X)(h:(gP m T).phi x w):(gP m T).phi x w':=⟨h.1,h.2.kp hk (fun hm=>by have h1:=hS _ hm;have h2:m≤x.1:=h.1;omega)⟩
def DI(m m':Nbk):Prop:=∀t,gQ m t=0→gQ m' t=0
def Kd(w:World)(n bb pm:Nat)(v:Value)(m:Nbk)(e:Ending)(w':World):Prop:=
 ∃(y:Tm) (v':Value) (nb':Nbk),e= .returned (txv y)∧y.In n w'∧dQ w' n bb pm v' nb'∧Kp (bb::pm::aU v) w w'∧(∀g,v'.ownBlock=some g→v.ownBlock=some g∨w.heap.size≤g)∧(nb'.length≤m.length+1∧DI m nb')
theorem dQ.nin{w:World}{base bb pm b:Nat}{v:Value}{m:Nbk}{cs:Array Value}{T:TypeId}(h:dQ w base bb pm v m)(hB:Blk w b (.cells cs T))(h1:T≠162)(h2:T≠341):b∉bb::pm::aU v:=fun hm=>by
 rcases List.mem_cons.1 hm with rfl|hm
 ·have:=Blk.uniq hB h.blk
  simp only[Obj.cells.injEq] at this
  exact h1 this.2.1
 rcases List.mem_cons.1 hm with rfl|hm
 ·exact cE hB h.map rfl
 ·exact bQ h.own h2 hB _ (aC hm) (List.mem_singleton.2 rfl)
attribute [local irreducible] CG NG SG aJ Der Row Blk av aA bh num bV bR bI bu orJ cA aL cz ofI cM c9 ny sgn
end
section
open Go.ChangeShapes Go.WideShapes Go.ChangeAt Go.RowKit
theorem own:ownKnob Tryz.prog.godebug=none:=by kernel_rfl
theorem laidOut:laidOutB Tryz.prog=true:=by kernel_rfl
theorem AR:Tryz.prog.cellsOf 3=1:=by kernel_rfl
structure SlB{H:Type}(en:TypeId×Value→H)(P:Program)(w:World)(e:TypeId)(a:Option Addr)(n B:Nat):Prop where
 row:∀i,i<n→∃b off cs fuel y,a=some ⟨b,off,none⟩∧Row w b (off+i*P.cellsOf e) cs∧DataW.trod en P w 0 (fun _=>true) true fuel e cs=some y∧Rows.uptoBulk y.1≤B
end
section
open Go.ChangeShapes Go.WideShapes Go.ChangeAt Go.RowKit
def vP:DataW Unit→Array Value
 | .agg l=>(l.map (fun d=>match d with| .lit (.int k n)=>Value.int k n|_=>undef)).toArray
 |_=> #[]
def lr(d:DataW Unit):Obj→Obj
 | .cells _ t frozen=> .cells (vP d) t frozen
 |o=>o
noncomputable def jA(os:Os):World:=
 {World.holding Tryz.prog os ⟨#[],#[],[]⟩ with heap:=(((World.holding Tryz.prog os ⟨#[],#[],[]⟩).heap.modify 1 (lr Rows.laid_internal_strconv_uint64pow10)).modify 2 (lr Rows.laid_math_bits_deBruijn32tab)).modify 3 (lr Rows.laid_math_bits_deBruijn64tab)}
def J6:Value:= .agg #[.int .u8 0,.int .u8 0,.int .u8 0]
def J2:Value:= .agg #[.int .u16 0,.int .u16 0,.int .u16 0,.int .u16 0]
end
section
def Mks(w:World)(n:Nat)(vs:Value)(e:Ending)(w':World):Prop:=
 ∃(y:Bm) (ok:Bool),e= .returned (.tuple #[bkv y,.bool ok])∧y.In n w'∧Kp [] w w'∧(y.xs≠[]→∀b off,y.a=some ⟨b,off,none⟩→b∉aU vs)
theorem Bm.In.up{m n:Nat}{x:Bm}{w:World}(h:x.In m w)(hn:m≤n):x.In n w:=⟨⟨h.tx.sl,h.tx.tg.imp id (fun g b off e=>Nat.lt_of_lt_of_le (g b off e) hn),fun y hy=>(h.tx.ins y hy).mono hn⟩,h.len⟩
theorem Bm.In.wr{n b:Nat}{x:Bm}{w w':World}{cs:Array Value}(h:x.In n w)(hk:Kp [b] w w')(hb:n≤b)(hB:Blk w b (.cells cs 50)):x.In n w':=⟨h.tx.kp hk (Oth.cons hb (Oth.cells hB (by decide)) Oth.nil) (NoT.cons hb (NoT.cells hB (by decide)) NoT.nil),h.len⟩
attribute [local irreducible] CG NG SG aJ Der Row Blk av aA bh aF aQ orZ
end
section
theorem xn{nb:Nbk}{h:Int}{mk:Dg}:∀(l:List Tx) {f:Fb} {t:Tl} {es:List Int},(gK nb h mk f t es l).2.2.1.n≤t.n+l.length
 |[],_,t,_=>Nat.le_refl _
 |x::l,f,t,es=>by
  unfold gK
  by_cases h1:gQ nb x≠0
  ·rw[if_pos h1];simp only[List.length_cons];omega
  ·rw[if_neg h1]
   by_cases h2:gl f x≠0
   ·rw[if_pos h2];simp only[List.length_cons];omega
   ·rw[if_neg h2]
    have h3:=xn l (nb:=nb) (h:=h) (mk:=mk) (f:=dof f mk x) (t:=dot t f h mk x) (es:=doa es f mk x)
    have h4:=yW t f h mk x
    simp only[List.length_cons]
    omega
theorem Be{nb:Nbk}{c:Cm}{b:Bl}(h:adZ nb c b=0):aQ b=0∧au c.ns (aF b)=none∧∃q,au c.ns b.par=some q∧nj b q.2.x.b=0∧c.tr.addE (aF b) b.par=0:=by
 by_cases h1:aQ b=0
 ·cases h2:au c.ns (aF b) with
  |some q=>rw[nt h1 h2] at h;cases h
  |none=>
   cases h3:au c.ns b.par with
   |none=>rw[um h1 h2 h3] at h;cases h
   |some q=>
    rw[uo h1 h2 h3] at h
    split at h
    ·rename_i g;exact absurd h g
    ·rename_i g
     split at h
     ·rename_i g2;exact absurd h g2
     ·exact⟨h1,rfl,q,rfl,Classical.byContradiction g,h⟩
 ·rw[nu h1] at h;exact absurd h h1
theorem pQ.sub{c:Cm}{H:Int}(h:pQ c H){pv:Value}{ps:List Em}{nb:Nbk}{q:Nm}{t:Tx}(e:ps.map Em.en=uV nb q (c.ps.map Em.en) t):pQ {c with pv:=pv,ps:=ps} H:=by
 refine⟨h.wf,h.dep,?_,h.has,h.nd⟩
 show eB 256 (ps.map Em.en)
 rw[e]
 unfold uV
 split
 ·exact pJ h.pool
 ·exact h.pool
theorem pQ.added{c:Cm}{H:Int}(h:pQ c H){nb:Nbk}{b:Bl}(hz:adZ nb c b=0){pv:Value}{ps:List Em}{z:Nat}{q:Nm}(hq:q.x.b=b)(hr:∃p,au c.ns b.par=some p∧gK nb b.ht b.mkr p.2.f p.2.t [] b.txs=(0,q.f,q.t,q.es))
  (hp:ps.map Em.en=(if(c.tr.add (aF b) b.par).tip=c.tr.tip then c.ps.map Em.en else swE (ca c.ns (aF b) (z,q)) (c.tr.add (aF b) b.par) (c.ps.map Em.en) c.tr.tip (c.tr.add (aF b) b.par).tip)):
  pQ {c with pv:=pv,ps:=ps,tr:=c.tr.add (aF b) b.par,ns:=ca c.ns (aF b) (z,q)} (H+1):=by
 obtain⟨h1,h2,p,h3,h4,h5⟩:=Be hz
 have h7:=xC h4
 obtain⟨a1,a2,-⟩:=lR h.wf (aF b) b.par
 obtain⟨p',hp1,hp2⟩:=hr
 rw[h3] at hp1
 obtain rfl:=Option.some.inj hp1
 obtain⟨g1,g2,g3⟩:=h.nd _ _ h3
 have eh:q.x.ht=b.ht:=by rw[←hq];rfl
 have ep:p.2.x.b.ht=p.2.x.ht:=rfl
 refine⟨a1,by show(c.tr.add (aF b) b.par).depth≤_;rw[a2];exact h.dep,?_,fun d=>?_,fun d x hx=>?_⟩
 ·show eB 256 (ps.map Em.en)
  rw[hp]
  split
  ·exact h.pool
  ·exact lG (iZ h.pool _) _
 ·show(c.tr.add (aF b) b.par).has d=(au (ca c.ns (aF b) (z,q)) d).isSome
  unfold Tr.add
  rw[if_pos h5]
  show(au (ca c.tr.nodes (aF b) _) d).isSome=_
  by_cases e:aF b=d
  ·subst e
   rw[aZ,aZ]
   simp
  ·have:=h.has d
   unfold Tr.has at this
   rw[aZ,aZ]
   simp[e,this]
 ·have hx:au (ca c.ns (aF b) (z,q)) d=some x:=hx
  rw[aZ] at hx
  by_cases e:aF b=d
  ·simp[e] at hx
   subst hx
   have h8:=xn b.txs (nb:=nb) (h:=b.ht) (mk:=b.mkr) (f:=p.2.f) (t:=p.2.t) (es:=[])
   rw[hp2] at h8
   have h9:=jq h1
   show 0≤q.x.ht∧q.x.ht≤H+1∧(q.t.n:Int)≤64*q.x.ht
   have h8:q.t.n≤p.2.t.n+b.txs.length:=h8
   omega
  ·simp[e] at hx
   obtain⟨k1,k2,k3⟩:=h.nd d x hx
   exact⟨k1,by omega,k3⟩
end
section
theorem Bm.In.Jc{n:Nat}{Ts:List TypeId}{A S:List Nat}{w w':World}{x:Bm}(h:x.In n w)(hk:Kp S w w')(hS:Cnd n Ts A w S)(hT:5∉Ts)(hx:x.xs≠[]→∀b off,x.a=some ⟨b,off,none⟩→b∉S):x.In n w':=by
 refine⟨⟨?_,h.tx.tg.elim (fun g=>Or.inl (g.kp hk hx)) Or.inr,fun y hy=>(h.tx.ins y hy).cnd hk hS hT⟩,h.len⟩
 by_cases e:x.xs=[]
 ·rw[e];exact Sl.nil
 ·exact h.tx.sl.kp hk (hx e)
theorem Bm.In.lt{n:Nat}{w:World}{x:Bm}(h:x.In n w)(hne:x.xs≠[]){b off:Nat}(e:x.a=some ⟨b,off,none⟩):b<w.heap.size:=by
 have h0:0<x.xs.length:=List.length_pos_iff.2 hne
 obtain⟨ba,o,e',hr⟩:=h.tx.sl.at h0
 rw[e] at e'
 cases e'
 exact hr.lt
theorem dQ.cnd{w w':World}{n base bb pm:Nat}{v:Value}{m:Nbk}{Ts:List TypeId}{A S:List Nat}(h:dQ w base bb pm v m)(hb:n≤base)(hk:Kp S w w')(hS:Cnd n Ts A w S)(h1:162∉Ts)(h2:341∉Ts)(hA:pm∉A):dQ w' base bb pm v m:=
 ⟨hS.blk hk h.blk h1,dg h.own hk (cZ h.own (hS.not h2)),hS.yz hk h.map hA,h.bp,h.pp⟩
theorem nv.chn{w w':World}{n bw:Nat}{tot:Int}{q:Wl}{S:List Nat}(h:nv w n tot bw q)(hk:Kp S w w')(hS:Cnd n CT [q.c.tm,q.c.nm] w S){c':Cm}(hC:dw w' n [q.c.tm,q.c.nm,q.pm] tot c')(e:c'.cb=q.c.cb∧c'.vb=q.c.vb∧c'.tm=q.c.tm∧c'.nm=q.c.nm)
  (hns:∀p∈c'.ns,p∈q.c.ns∨∀b off,p.2.2.x.a=some ⟨b,off,none⟩→w.heap.size≤b):nv w' n tot bw {q with c:=c'}:=by
 obtain⟨e1,e2,e3,e4⟩:=e
 refine⟨?_,?_,?_,dg h.sg hk (cZ h.sg (hS.not (by decide))),fun x hx=>(h.si x hx).cnd hk hS (by decide),dg h.bl hk (cZ h.bl (hS.not (by decide))),fun x hx=>(h.bi x hx).uR hk hS (by decide) (by decide),fun p hp hne b off e hm=>?_,h.sb,?_,h.bn⟩
 ·have e:wlc {q with c:=c'}=wlc q:=by unfold wlc;rw[e1,e2]
  rw[e]
  exact hS.blk hk h.blk (by decide)
 ·show dw w' n [c'.tm,c'.nm,q.pm] tot c'
  rw[e3,e4]
  exact hC
 ·show dQ w' n c'.vb q.pm q.vN q.nb
  rw[e2]
  exact h.nb.cnd (Nat.le_refl _) hk hS (by decide) (by decide) (fun hm=>by
   rcases List.mem_cons.1 hm with e|hm
   ·exact h.pn.1 e
   ·exact h.pn.2 (List.mem_singleton.1 hm))
 ·rcases hns p hp with g|g
  ·exact h.sn p g hne b off e hm
  ·have h1:=cm h.sg b (aC hm)
   have h2:=g b off e
   omega
 ·show q.pm≠c'.tm∧q.pm≠c'.nm
  rw[e3,e4]
  exact h.pn
theorem nv.sgn{w w':World}{n bw:Nat}{tot:Int}{q:Wl}(h:nv w n tot bw q){v':Value}{nb':Nbk}(hk:Kp (q.c.vb::q.pm::aU q.vN) w w')(hN:dQ w' n q.c.vb q.pm v' nb'):nv w' n tot bw {q with vN:=v',nb:=nb'}:=by
 have hS:Cnd n [162,341] [q.pm] w (q.c.vb::q.pm::aU q.vN):=(Cnd.cells h.nb.bp h.nb.blk (by decide)).cons ((Cnd.map h.nb.pp h.nb.map (by simp)).cons (Cnd.own h.nb.own (Nat.le_refl _) (by decide)))
 exact⟨hS.blk hk h.blk (by decide),h.ch.kpA hk hS (fun z hz=>by rw[List.mem_singleton] at hz;subst hz;exact⟨by simp,h.pn.1,h.pn.2⟩) (by decide) (fun p hp=>(h.ch.nd p hp).x.uR hk hS (by decide) (by decide)),hN,dg h.sg hk (cZ h.sg (hS.not (by decide))),fun x hx=>(h.si x hx).cnd hk hS (by decide),dg h.bl hk (cZ h.bl (hS.not (by decide))),fun x hx=>(h.bi x hx).uR hk hS (by decide) (by decide),h.sn,h.sb,h.pn,h.bn⟩
theorem nv.put{w w1 w2:World}{n bw:Nat}{tot:Int}{q:Wl}(h:nv w n tot bw q){v':Value}{y:Tm}(k1:Kp (aU q.vs) w w1)(ho:w1.ownsRow n 52 13 v' (q.ss++[y]).length (flt txc (q.ss++[y])))(hv:∀g,v'.ownBlock=some g→q.vs.ownBlock=some g∨w.heap.size≤g)(hy:y.In n w)(k2:Kp [bw] w1 w2)(hB:Blk w2 bw (.cells (wlc {q with vs:=v',ss:=q.ss++[y]}).toArray 44)):nv w2 n tot bw {q with vs:=v',ss:=q.ss++[y]}:=by
 have hS:Cnd n [52] [] w (aU q.vs):=Cnd.own h.sg (Nat.le_refl _) (by decide)
 have hb1:=hS.blk k1 h.blk (by decide)
 have hS2:Cnd n [44] [] w1 [bw]:=Cnd.cells h.bn hb1 (by decide)
 have hbl:=dg h.bl k1 (cZ h.bl (hS.not (by decide)))
 have t2:∀{x:Bm},x.In n w→(x.xs≠[]→∀b off,x.a=some ⟨b,off,none⟩→b∉aU q.vs)→x.In n w1:=fun hx g=>hx.Jc k1 hS (by decide) g
 have hC1:=h.ch.kpL k1 hS (by decide) (fun p hp=>t2 (h.ch.nd p hp).x (h.sn p hp))
 have key:∀{x:Bm},x.In n w→x.xs≠[]→∀b off,x.a=some ⟨b,off,none⟩→b∉aU q.vs→b∉aU v':=fun hx hne b off e g hm=>by
  rcases hv b (aC hm) with g2|g2
  ·exact g (fH g2)
  ·have:=hx.lt hne e;omega
 refine⟨hB,hC1.kpL k2 hS2 (by decide) (fun p hp=>(hC1.nd p hp).x.uR k2 hS2 (by decide) (by decide)),(h.nb.cnd (Nat.le_refl _) k1 hS (by decide) (by decide) (by simp)).cnd (Nat.le_refl _) k2 hS2 (by decide) (by decide) (by simp),dg ho k2 (cZ ho (hS2.not (by decide))),fun x hx=>?_,dg hbl k2 (cZ hbl (hS2.not (by decide))),fun x hx=>(t2 (h.bi x hx) (h.sb x hx)).uR k2 hS2 (by decide) (by decide),fun p hp hne b off e=>key (h.ch.nd p hp).x hne b off e (h.sn p hp hne b off e),fun x hx hne b off e=>key (h.bi x hx) hne b off e (h.sb x hx hne b off e),h.pn,h.bn⟩
 have hx:x.In n w:=(List.mem_append.1 hx).elim (h.si x) (fun e=>by rw[List.mem_singleton] at e;rw[e];exact hy)
 exact(hx.cnd k1 hS (by decide)).cnd k2 hS2 (by decide)
theorem dw.DA{w:World}{n:Nat}{A:List Nat}{tot:Int}{c:Cm}(h:dw w n A tot c):Cnd n CT [c.tm,c.nm] w (chS c):=
 (Cnd.cells h.bn h.tree.blk (by decide)).cons ((Cnd.map h.tn h.tree.map (by simp)).cons ((Cnd.map h.nn h.map (by simp)).cons h.pool.cnd))
def wlS(bw:Nat)(q:Wl):List Nat:=bw::q.c.vb::q.pm::(aU q.vN++(chS q.c++(aU q.vs++aU q.vb)))
structure WlK(w w':World)(bw:Nat)(q q':Wl):Prop where
 kp:Kp (wlS bw q) w w'
 sub:∀x∈wlS bw q',x∈wlS bw q∨w.heap.size≤x
structure DH(q:Wl)(H:Int):Prop where
 ch:pQ q.c H
 bs:∀x∈q.bs,∃p,au q.c.ns (aF x.b)=some p∧p.2.x.b=x.b
 ne:0<q.bs.length
 nl:(q.nb.length:Int)≤100+H
 sl:(q.ss.length:Int)≤100+H
 bl:(q.bs.length:Int)≤100+H
end
section
def JC(nb:Nbk)(c c':Cm):Prop:=(c'.bd=c.bd∧c'.first=c.first∧c'.cb=c.cb∧c'.vb=c.vb)∧((c'.tr=c.tr∧c'.ns=c.ns)∨
 ∃b z qn,adZ nb c b=0∧c'.tr=c.tr.add (aF b) b.par∧c'.ns=ca c.ns (aF b) (z,qn)∧qn.x.b=b∧∃p,au c.ns b.par=some p∧gK nb b.ht b.mkr p.2.f p.2.t [] b.txs=(0,qn.f,qn.t,qn.es))
def NoC(c c':Cm):Prop:=c'.ps.map Em.en=c.ps.map Em.en∧c'.tr=c.tr∧c'.ns=c.ns
def Ke(w:World)(n:Nat)(tot:Int)(bw:Nat)(q:Wl)(H:Int)(e:Ending)(w':World):Prop:=
 ∃(q':Wl) (z:Int),e= .returned (.int .i64 z)∧nv w' n tot bw q'∧DH q' (H+1)∧JC q.nb q.c q'.c∧(z≠0→NoC q.c q'.c)∧DI q.nb q'.nb∧WlK w w' bw q q'
theorem pD{κ ν:Type}[DecidableEq κ]{k:κ}{v:ν}:∀{m:List (κ×ν)} {p:κ×ν},p∈ca m k v→p=(k,v)∨p∈m
 |[],p,h=>by
  simp only[ca,List.mem_singleton] at h
  exact Or.inl h
 |(a,b)::m,p,h=>by
  simp only[ca] at h
  split at h
  ·rename_i e
   rcases List.mem_cons.1 h with h|h
   ·exact Or.inl (by rw[h,e])
   ·exact Or.inr (List.mem_cons_of_mem _ h)
  ·rcases List.mem_cons.1 h with h|h
   ·exact Or.inr (h▸List.mem_cons_self)
   ·rcases pD h with h|h
    ·exact Or.inl h
    ·exact Or.inr (List.mem_cons_of_mem _ h)
def gMk(n:Nat)(vs:Value):GD:=⟨Bm×Bool,(bm0,false),fun x=> .tuple #[bkv x.1,.bool x.2],fun x w=>x.1.In n w∧(x.1.xs≠[]→∀b off,x.1.a=some ⟨b,off,none⟩→b∉aU vs)⟩
attribute [local irreducible] CG NG SG aJ Der Row Blk av aA bh aF aQ
end
section
def kU(n:Int):Tx:=⟨zd,n,1,0,ny (d1 9) 7,[]⟩
def kT(n:Int):Tx:=⟨d1 1,n,1,0,ny (d1 9) 7,[]⟩
def kS:Nat→Tx
 |0=>⟨d1 1,0,1,0,ny (d1 9) 7,km 0⟩
 |_=>⟨d1 1,1,1,0,ny (d1 9) 7,km 1⟩
def kN:Nat→Nbk
 |0=>[]
 |1=>[((d1 1,c9 (kT 0)),0)]
 |_=>[((d1 1,c9 (kT 0)),0),((d1 1,c9 (kT 1)),1)]
def kP:Nat→List En
 |0=>[]
 |1=>[⟨kS 0,0⟩]
 |_=>[⟨kS 0,0⟩,⟨kS 1,0⟩]
def kf0:Fb:=bal (kY [] (acU [10,0,0,0] 4))
def kf1:Fb:=dof kf0 (d1 8) (kS 0)
def kf2:Fb:=dof kf1 (d1 8) (kS 1)
def kt0:Tl:=⟨0,zd⟩
def kB:Bl:=⟨bj,1,d1 8,[kS 0,kS 1]⟩
theorem An:cT (ny (d1 9) 7)=0:=by kernel_rfl
theorem xv:(ny (d1 9) 7).length=2:=by kernel_rfl
theorem Ay:(c9 (kT 0)==c9 (kT 1))=false:=by kernel_rfl
theorem Aq:(aK (kS 0)==aK (kS 1))=false:=by kernel_rfl
theorem yF:(aF kB==bj)=false:=by kernel_rfl
theorem oh{t:Tx}(h1:0≤t.non∧t.non≤1)(h2:t.fee=1)(h3:t.kind=0)(h4:t.body=ny (d1 9) 7)(h5:t.sig.length≤2):aL t=0:=by
 have:TxR t:=⟨h1.1,by omega,by omega,by omega,by omega,by omega,by rw[h4,xv];decide,by omega⟩
 unfold aL
 rw[if_pos this,if_pos h3,h4]
 exact An
theorem Bx:∀i,aL (kS i)=0
 |0=>oh ⟨by decide,by decide⟩ rfl rfl rfl (by decide)
 |_+1=>oh ⟨show(0:Int)≤1 by decide,show(1:Int)≤1 by decide⟩ rfl rfl rfl (show(km 1).length≤2 by decide)
theorem Iv{i:Nat}(hi:i<2):aL (rj (kU (i:Int)) (d1 1))=0:=oh ⟨by show 0≤(i:Int);omega,by show(i:Int)≤1;omega⟩ rfl rfl rfl (Nat.zero_le _)
theorem xw:au (kN 1) (d1 1,c9 (kT 1))=none:=by
 have:=Ay
 simp only[beq_eq_false_iff_ne,ne_eq] at this
 simp[kN,au,this]
theorem Al{i:Nat}(hi:i<2):sgn (kN i) (kU (i:Int)) (d1 1)=(0,kS i,kN (i+1)):=by
 unfold sgn
 rw[if_neg (fun h=>h (Iv hi))]
 match i,hi with
 |0,_=>rfl
 |1,_=>
  have e:fY (kN 1) (d1 1) (c9 (rj (kU ((1:Nat):Int)) (d1 1)))=some 1:=by
   show fY (kN 1) (d1 1) (c9 (kT 1))=some 1
   unfold fY
   rw[xw]
   rfl
  have e2:gY (kN 1) (d1 1) (c9 (rj (kU ((1:Nat):Int)) (d1 1)))=kN 2:=by
   show gY (kN 1) (d1 1) (c9 (kT 1))=kN 2
   unfold gY
   rw[xw]
   rfl
  rw[e,e2]
  rfl
theorem yE:∀{i j:Nat},i<j→j≤2→gQ (kN j) (kS i)=0:=by
 intro i j h1 h2
 have hne:=Ay
 simp only[beq_eq_false_iff_ne,ne_eq] at hne
 unfold gQ
 rw[if_neg (fun h=>h (Bx i)),if_pos]
 rcases(by omega:(i=0∧j=1)∨(i=0∧j=2)∨(i=1∧j=2)) with⟨rfl,rfl⟩|⟨rfl,rfl⟩|⟨rfl,rfl⟩
 ·simp[pT,kN,au,show c9 (kS 0)=c9 (kT 0) from rfl,show(kS 0).frm=d1 1 from rfl,show(kS 0).sig=[0,0] from rfl]
 ·simp[pT,kN,au,show c9 (kS 0)=c9 (kT 0) from rfl,show(kS 0).frm=d1 1 from rfl,show(kS 0).sig=[0,0] from rfl]
 ·simp[pT,kN,au,hne,show c9 (kS 1)=c9 (kT 1) from rfl,show(kS 1).frm=d1 1 from rfl,show(kS 1).sig=[1,0] from rfl]
theorem Az:∀{i:Nat},i<2→fu 256 (kP i) 0 (kS i)=0:=by
 intro i hi
 unfold fu
 rw[if_neg (by decide),if_neg (fun h=>h (Bx i))]
 match i,hi with
 |0,_=>rfl
 |1,_=>rfl
theorem B9:∀{i:Nat},i<2→Bc (kP i) 0 (kS i)=kP (i+1)
 |0,_=>rfl
 |1,_=>rfl
theorem B5:(kf0 (d1 1)).nonce=0:=by kernel_rfl
theorem B4{i:Nat}(hi:i<2){m:Nm}(hx:m.x=bB cp)(hf:m.f=kf0):nQ (kN (i+1)) m (kP i) (kS i)=0∧uV (kN (i+1)) m (kP i) (kS i)=kP (i+1):=by
 have h1:nQ (kN (i+1)) m (kP i) (kS i)=0:=by
  unfold nQ
  rw[if_neg (fun h=>h (yE (Nat.lt_succ_self i) hi)),hf,hx,if_neg]
  ·exact Az hi
  ·have e:(kS i).frm=d1 1:=by
    match i,hi with
    |0,_=>rfl
    |1,_=>rfl
   rw[e,B5]
   match i,hi with
   |0,_=>decide
   |1,_=>decide
 refine⟨h1,?_⟩
 unfold uV
 rw[if_pos h1]
 unfold rn
 have e:m.x.ht=0:=by rw[hx];rfl
 rw[e,if_pos (Az hi)]
 exact B9 hi
theorem te:aQ kB=0:=by
 unfold aQ
 rw[if_neg (by decide),if_neg (by decide),if_neg,if_pos]
 ·kernel_rfl
 ·intro h
  apply h
  show fy [kS 0,kS 1] []=0
  unfold fy
  rw[if_neg (fun h=>h (Bx 0)),if_neg (by simp)]
  unfold fy
  rw[if_neg (fun h=>h (Bx 1)),if_neg]
  ·rfl
  ·intro h
   simp only[List.mem_singleton,Prod.mk.injEq] at h
   exact absurd h.2 (by decide)
theorem th:aQ (bB cp).b=0:=by
 unfold aQ
 rw[if_neg (by decide),if_neg (by decide),if_neg (fun h=>h rfl)]
 exact if_pos rfl
theorem B6:nj kB (bB cp).b=0:=by
 unfold nj
 rw[if_neg (fun h=>h te),if_neg]
 rintro(h|h|h)
 ·exact h th
 ·exact h rfl
 ·exact h rfl
theorem po:gl kf0 (kS 0)=0:=by kernel_rfl
theorem pk:gl kf1 (kS 1)=0:=by kernel_rfl
theorem Aw:oJ (lf kf0 (d1 8) (kS 0)) (kS 0)=0:=by kernel_rfl
theorem Av:oJ (lf kf1 (d1 8) (kS 1)) (kS 1)=21:=by kernel_rfl
theorem Am:gK (kN 2) 1 (d1 8) kf0 kt0 [] [kS 0,kS 1]=(0,kf2,kt0,[0,21]):=by
 unfold gK
 rw[if_neg (fun h=>h (yE (i:=0) (j:=2) (by decide) (by decide))),if_neg (fun h=>h po)]
 unfold gK
 have e1:dot kt0 kf0 1 (d1 8) (kS 0)=kt0:=by unfold dot rm;rw[if_pos po];exact if_pos rfl
 have e2:doa [] kf0 (d1 8) (kS 0)=[0]:=by unfold doa;rw[if_pos po,Aw];rfl
 rw[e1,e2,if_neg (fun h=>h (yE (i:=1) (j:=2) (by decide) (by decide))),if_neg (fun h=>h pk)]
 unfold gK
 have e3:dot kt0 kf1 1 (d1 8) (kS 1)=kt0:=by unfold dot rm;rw[if_pos pk];exact if_pos rfl
 have e4:doa [0] kf1 (d1 8) (kS 1)=[0,21]:=by unfold doa;rw[if_pos pk,Av];rfl
 show(0,dof kf1 (d1 8) (kS 1),dot kt0 kf1 1 (d1 8) (kS 1),doa [0] kf1 (d1 8) (kS 1))=_
 rw[e3,e4]
 rfl
theorem IA:(kf2 (d1 1)).money=1:=by kernel_rfl
theorem Iz:(kf2 (d1 8)).money=2:=by kernel_rfl
theorem yH:jP kf0 (kS 0)=true:=by kernel_rfl
theorem yG:jP kf1 (kS 1)=true:=by kernel_rfl
theorem Iy:mkL (d1 8) kf0 [] [kS 0,kS 1]=[kS 0,kS 1]:=by
 rw[lp (by decide) yH,if_pos po]
 show mkL (d1 8) kf1 [kS 0] [kS 1]=_
 rw[lp (by decide) yG,if_pos pk]
 rfl
theorem Ao:Ord En.key En.non En.fee (kP 2) [⟨kS 0,0⟩,⟨kS 1,0⟩]:=by
 refine Ord.step [] (⟨kS 0,0⟩:En) [(⟨kS 1,0⟩:En)] _ ⟨fun o ho _=>?_,fun e he h=>?_,fun e he=>by cases he⟩ (Ord.step [] (⟨kS 1,0⟩:En) [] _ ⟨fun o ho _=>?_,fun e he h=>?_,fun e he=>by cases he⟩ Ord.nil)
 ·simp only[List.nil_append,List.mem_cons,List.mem_nil_iff,or_false] at ho
  rcases ho with rfl|rfl<;>decide
 ·simp only[List.nil_append,List.mem_cons,List.mem_nil_iff,or_false] at he
  rcases he with rfl|rfl<;>decide
 ·simp only[List.nil_append,List.mem_cons,List.mem_nil_iff,or_false] at ho
  rw[ho]
  exact Int.le_refl _
 ·simp only[List.nil_append,List.mem_cons,List.mem_nil_iff,or_false] at he
  rw[he]
  exact Int.le_refl _
theorem Ap:sF (kP 2)=[⟨kS 0,0⟩,⟨kS 1,0⟩]:=Ao.eq
theorem Iw:tkL (kP 2) []=[kS 0,kS 1]:=by
 unfold tkL
 rw[Ap]
 rfl
theorem ti:aF kB≠bj:=fun e=>by
 have h:=yF
 rw[e] at h
 simp at h
attribute [local irreducible] aF aK bj
theorem xx:(Tr.new bj 0).addE (aF kB) kB.par=0:=by
 have hh:(Tr.new bj 0).has (aF kB)=false:=by
  unfold Tr.has
  show(au [(bj,kd0)] (aF kB)).isSome=false
  rw[show au [(bj,kd0)] (aF kB)=none from by show(if _ then _ else _)=_;rw[if_neg (fun e=>ti e.symm)];rfl]
  rfl
 have hp:(Tr.new bj 0).has kB.par=true:=by
  unfold Tr.has
  show(au [(bj,kd0)] bj).isSome=true
  rw[show au [(bj,kd0)] bj=some kd0 from if_pos rfl]
  rfl
 unfold Tr.addE
 rw[hh,hp]
 have hl:¬4096≤(Tr.new bj 0).nodes.length:=Nat.not_le.2 (by simp[Tr.new])
 have hd:¬(Tr.new bj 0).deep kB.par=true:=?_
 ·rw[if_neg (fun h=>Bool.noConfusion h),if_neg (fun h=>Bool.noConfusion h),if_neg hl,if_neg hd]
 have h0:(Tr.new bj 0).ht (Tr.new bj 0).tip=0:=(mK bj 0).h0
 unfold Tr.deep
 rw[h0]
 exact fun h=>absurd (of_decide_eq_true h) (Nat.not_lt_zero _)
theorem B8{c:Cm}{z:Nat}{m:Nm}(h1:c.ns=[(bj,z,m)])(h2:c.tr=Tr.new bj 0)(hx:m.x=bB cp)(hf:m.f=kf0)(ht:m.t=kt0):adZ (kN 2) c kB=0:=by
 have l1:au c.ns (aF kB)=none:=by
  rw[h1]
  show(if _ then _ else _)=_
  rw[if_neg (fun e=>ti e.symm)]
  rfl
 have l2:au c.ns kB.par=some (z,m):=by rw[h1];exact if_pos rfl
 have hr:(gK (kN 2) kB.ht kB.mkr m.f m.t [] kB.txs).1=0:=by
  rw[hf,ht]
  show(gK (kN 2) 1 (d1 8) kf0 kt0 [] [kS 0,kS 1]).1=0
  rw[Am]
 rw[uo te l1 l2]
 show(if nj kB m.x.b≠0 then _ else _)=_
 rw[hx,if_neg (fun h=>h B6),if_neg (fun h=>h hr),h2]
 exact xx
theorem CR:(Tr.new bj 0).add (aF kB) kB.par=(Tr.new bj 0).put (aF kB) bj:=by
 unfold Tr.add
 exact if_pos xx
theorem Ak:((Tr.new bj 0).put (aF kB) bj).tip=aF kB:=by
 have h0:(Tr.new bj 0).ht (Tr.new bj 0).tip=0:=(mK bj 0).h0
 have h1:(Tr.new bj 0).ht bj=0:=(mK bj 0).h0
 unfold Tr.put
 show(if(Tr.new bj 0).ht (Tr.new bj 0).tip<(Tr.new bj 0).ht bj+1 then aF kB else(Tr.new bj 0).tip)=_
 rw[h0,h1]
 exact if_pos (Nat.lt_succ_self 0)
theorem tf:((Tr.new bj 0).put (aF kB) bj).line ((Tr.new bj 0).put (aF kB) bj).tip=[bj,aF kB]:=by
 have wf:((Tr.new bj 0).put (aF kB) bj).WF:=by rw[←CR];exact(lR (mK bj 0) _ _).1
 have hx:=wf.tip
 rw[Ak] at hx⊢
 rw[wf.yA hx ti,fE]
 show((Tr.new bj 0).put (aF kB) bj).line ((Tr.new bj 0).put (aF kB) bj).first++_=_
 rw[wf.qz]
 rfl
theorem Au{ns:List (Dg×Nat×Nm)}{z z2:Nat}{m q2:Nm}(h1:ns=ca [(bj,z,m)] (aF kB) (z2,q2))(hx:m.x=bB cp)(hq:q2.x.b=kB)(he:q2.es=[0,21]):iJ ns (aK (kS 1)) [bj,aF kB]=some (1,21):=by
 have l1:au ns bj=some (z,m):=by
  rw[h1,aZ,if_neg ti]
  exact if_pos rfl
 have l2:au ns (aF kB)=some (z2,q2):=by
  rw[h1,aZ,if_pos rfl]
 have n1:m.nms=[]:=by unfold Nm.nms;rw[hx];rfl
 have n2:q2.nms=[aK (kS 0),aK (kS 1)]:=by
  have:q2.x.b.txs=kB.txs:=by rw[hq]
  have:q2.x.xs.map (·.t)=[kS 0,kS 1]:=this
  unfold Nm.nms
  have e:q2.x.xs.map (fun x=>aK x.t)=(q2.x.xs.map (·.t)).map aK:=by rw[List.map_map];rfl
  rw[e,this]
  rfl
 have hh:q2.x.ht=1:=by
  have:q2.x.b.ht=kB.ht:=by rw[hq]
  exact this
 have hn:aK (kS 0)≠aK (kS 1):=fun e=>by
  have h:=Aq
  rw[e] at h
  simp at h
 have i1:ixZ m.nms (aK (kS 1))= -1:=by rw[n1];rfl
 have i2:ixZ q2.nms (aK (kS 1))=1:=by
  rw[n2]
  unfold ixZ
  have:[aK (kS 0),aK (kS 1)].findIdx (fun x=>decide (x=aK (kS 1)))=1:=by
   simp[List.findIdx_cons,hn]
  rw[this]
  rfl
 unfold iJ
 rw[l1]
 show(if 0≤ixZ m.nms (aK (kS 1)) then _ else _)=_
 rw[i1,if_neg (by decide)]
 unfold iJ
 rw[l2]
 show(if 0≤ixZ q2.nms (aK (kS 1)) then some (q2.x.ht,q2.es.getD (ixZ q2.nms (aK (kS 1))).toNat 0) else _)=_
 rw[i2,hh,he]
 exact if_pos (by decide)
end
section
theorem Jh(w:World)(a b:Int)(p:Option Addr)(m cc:Nat):(Instr.build 52 #[(1,.int .i64 a),(2,.int .i64 b),(4,.slice p m cc)]).run Tryz.prog w= .ok (.agg (dc zd++[Value.int .i64 a,Value.int .i64 b,Value.int .i64 0,Value.slice p m cc,Value.slice none 0 0]).toArray) w:=by kernel_rfl
theorem JA(w:World):(Instr.build 31 #[]).run Tryz.prog w= .ok (bdv ⟨0,0,0⟩) w:=by kernel_rfl
theorem Jg(w:World):(Instr.build 24 #[(0,.int .u16 10)]).run Tryz.prog w= .ok (u4v [10,0,0,0]) w:=by kernel_rfl
theorem B7:bdz ⟨0,0,0⟩=0:=by kernel_rfl
theorem B3:lC (acU [10,0,0,0] 4)=10:=by kernel_rfl
structure KSt(i:Nat)(q:Wl)(y:Bm)(z:Nat)(m:Nm):Prop where
 tr:q.c.tr=Tr.new bj 0
 ns:q.c.ns=[(bj,z,m)]
 ps:q.c.ps.map Em.en=kP i
 nb:q.nb=kN i
 ss:q.ss.map (·.t)=[kS 0,kS 1].take i
 bs:q.bs=[y]
 yb:y.b=(bB cp).b
 mx:m.x=bB cp
 mf:m.f=kf0
 mt:m.t=kt0
 ok:pQ q.c 0
theorem KSt.tip{i:Nat}{q:Wl}{y:Bm}{z:Nat}{m:Nm}(h:KSt i q y z m):au q.c.ns q.c.tr.tip=some (z,m):=by
 rw[h.ns,h.tr]
 exact if_pos rfl
theorem vu:eB 256 []:=yI (by decide)
theorem AA:∀i,(kN i).length≤10
 |0=>by decide
 |1=>show 1≤10 by decide
 |_+2=>show 2≤10 by decide
theorem xJ{y:Bm}(h:y.b=(bB cp).b):aF y.b=bj:=by rw[h];rfl
theorem A6{b:Bd}{l:List Nat}{q:Wl}{y:Bm}(h:CE b l q y)(hf:b.fork≤1000):DH q 0:=by
 obtain⟨z,m,hns,hmx,hmf,hmt,hme⟩:=h.ns
 have hl:∀d,au q.c.ns d=if bj=d then some (z,m) else none:=fun d=>by
  rw[hns]
  rfl
 refine⟨⟨by rw[h.tr];exact mK _ _,by rw[h.tr];show b.fork.toNat≤1000;omega,by rw[h.ps];exact vu,fun d=>?_,fun d x hx=>?_⟩,fun x hx=>?_,by rw[h.bs];exact Nat.zero_lt_succ _,by rw[h.nb];decide,by rw[h.ss];decide,by rw[h.bs,List.length_singleton];decide⟩
 ·rw[hl,h.tr]
  show(if bj=d then some kd0 else none).isSome=_
  by_cases e:bj=d
  ·rw[if_pos e,if_pos e];rfl
  ·rw[if_neg e,if_neg e];rfl
 ·rw[hl] at hx
  by_cases e:bj=d
  ·rw[if_pos e] at hx
   obtain rfl:=Option.some.inj hx
   show 0≤m.x.ht∧m.x.ht≤0∧(m.t.n:Int)≤64*m.x.ht
   rw[hmx,hmt]
   exact⟨Int.le_refl _,Int.le_refl _,Int.le_refl _⟩
  ·rw[if_neg e] at hx;cases hx
 ·rw[h.bs,List.mem_singleton] at hx
  subst hx
  refine⟨(z,m),?_,?_⟩
  ·rw[hl,xJ h.y,if_pos rfl]
  ·rw[h.y]
   show m.x.b=_
   rw[hmx]
theorem Iu{q:Wl}{y:Bm}(h:CE ⟨0,0,0⟩ [10,0,0,0] q y):∃z m,KSt 0 q y z m:=by
 obtain⟨z,m,hns,hmx,hmf,hmt,hme⟩:=h.ns
 exact⟨z,m,h.tr,hns,by rw[h.ps];rfl,h.nb,by rw[h.ss];rfl,h.bs,h.y,hmx,hmf,hmt,(A6 h (by decide)).ch⟩
def gMb:GD:=⟨Bm,bm0,fun x=> .tuple #[bkv x,.int .i64 0],fun x w=>x.b=kB∧x.In 0 w⟩
theorem wk(x:gMb.X):bU [] (gMb.phi x):=fun w w' hk h=>⟨h.1,h.2.kp0 hk⟩
theorem As{m:Nm}(hx:m.x=bB cp)(hf:m.f=kf0){l:List En}(hl:l=kP 2):(⟨bj,m.x.ht+1,d1 8,mkL (d1 8) m.f [] (tkL l [])⟩:Bl)=kB:=by
 rw[hl,Iw,hf,Iy,hx]
 rfl
theorem Ix{q:Wl}{y:Bm}{z:Nat}{m qn:Nm}(h:KSt 2 q y z m)(hr:∃p,au q.c.ns kB.par=some p∧gK q.nb kB.ht kB.mkr p.2.f p.2.t [] kB.txs=(0,qn.f,qn.t,qn.es)):qn.f=kf2∧qn.es=[0,21]:=by
 obtain⟨p,h1,h2⟩:=hr
 rw[h.ns] at h1
 have h1:some (z,m)=some p:=by rw[←h1];exact(if_pos rfl).symm
 obtain rfl:=Option.some.inj h1
 have h2:gK q.nb 1 (d1 8) m.f m.t [] [kS 0,kS 1]=(0,qn.f,qn.t,qn.es):=h2
 rw[h.nb,h.mf,h.mt,Am] at h2
 simp only[Prod.mk.injEq] at h2
 exact⟨h2.2.1.symm,h2.2.2.2.symm⟩
theorem B2{l:List Tm}(h:l.map (·.t)=[kS 0,kS 1]):∃a b,l=[a,b]∧b.t=kS 1:=by
 have hl:l.length=2:=by
  have:=congrArg List.length h
  rw[List.length_map] at this
  exact this
 match l,hl with
 |[a,b],_=>
  simp only[List.map_cons,List.map_nil,List.cons.injEq,and_true] at h
  exact⟨a,b,rfl,h.2⟩
theorem CY{w:World}{L:Env}{d:Option Nat}{ty:TypeId}{pos:String}{af:Array Edge}{g:Option (Nat×Bool)}{S:List Nat}{F:World→Prop}{x:Operand}{k:Dg}{p:Pu}(hx:rho L x=acv (rf k p)):aJ Tryz.prog S w F L ⟨d,.field 59 x 1,ty,pos,af,g⟩ (.int .i64 p.money):=
 dd (dc k) [.int .i64 p.nonce] hx rfl (by simp[acl,rf]) (by simp[ah])
attribute [local irreducible] CG NG SG aJ Der Row Blk av aA bh aF aQ bj kf0 kf2 ny aK sgn gQ nQ uV adZ
theorem oc{w:World}{n bw:Nat}{tot:Int}{q:Wl}(h:nv w n tot bw q){y:Bm}{l:List Bm}(hb:q.bs=y::l)(hr:aQ y.b=0):Ret Tryz.prog 52 #[.pointer (some ⟨bw,0,none⟩)] w (dv (aF y.b)):=by
 refine aM Tryz.func52 rfl Tryz.ntmps52 rfl ?_
 repeat apply gst
 refine SG.alloc rfl rfl rfl (fun b2 w1 hk1 hb2 hB2=>?_)
 have h1:=h.kp0 hk1
 obtain⟨a,c,ev,hc,hS⟩:=Sl.own aD h1.bl rfl
 have hl:0<q.bs.length:=by rw[hb];exact Nat.zero_lt_succ _
 obtain⟨ba,off,rfl,hrow⟩:=hS.at hl
 have e0:q.bs[0]=y:=by simp[hb]
 rw[e0] at hrow
 have hrow:Row w1 ba (off+(0:Int).toNat*18) (bkc y):=hrow
 obtain⟨-,-,-,z3⟩:=eF h1.blk
 rw[ev] at z3
 repeat (first|apply gst|(apply gsv;rfl;(first|apply qnc|apply qmv|apply qlc|apply qla|apply qfa|apply qic)<;>first|rfl|(apply Ar.mk;omega)|assumption|exact List.not_mem_nil|apply aD))
 have hnm:=dN (h1.bi y (by rw[hb];exact List.mem_cons_self))
 rw[show orZ y.b (aF y.b)= .tuple #[dv (aF y.b),.int .i64 0] from if_pos hr] at hnm
 refine SG.ret rfl rfl rfl (vs:=[bkv y]) (Evs.of rfl) hnm (fun w2 hk2=>?_)
 clear z3 hrow
 repeat (apply gsv;rfl;(first|apply qmv|apply qxt)<;>rfl)
 refine SG.alloc rfl rfl rfl (fun b3 w3 hk3 hb3 hB3=>?_)
 refine SG.aB (l:=dc (aF y.b)) rfl rfl (ag rfl) (ag rfl) hB3 (ah _) rfl (aO _) (fun w4 hk4 hB3=>?_)
 have k24:=hk2.trans (hk3.ai hk4 (aV hb3))
 have r3:Row w4 b3 0 (dc (aF y.b)):=Row.all hB3 rfl
 repeat (first|apply gst|(apply gsv;rfl;(first|apply qas|apply qla)<;>first|rfl|assumption|exact List.not_mem_nil|apply ah))
 refine SG.aB (l:=dc (aF y.b)) rfl rfl (ag rfl) (ag rfl) (hB2.kp0 k24) (ah _) rfl (aO _) (fun w5 hk5 hB5=>?_)
 have hr:Row w5 b2 0 (dc (aF y.b)):=Row.all hB5 rfl
 clear r3
 repeat apply gst
 refine aN (Or.inl rfl) Tryz.results52 (aw.agg rfl rfl hr (ah _)) ?_
 exact⟨rfl,(hk1.trans k24).ai hk5 (aV hb2)⟩
theorem qF(w:World):Ret Tryz.prog 10 #[] w (.bool true):=by
 refine tH Tryz.func10 rfl Tryz.ntmps10 ?_
 repeat (first|apply gst|(apply gsv;rfl;apply qas<;>rfl))
 refine SG.val rfl rfl rfl rfl (ar rfl JA) ?_
 refine SG.val rfl rfl rfl rfl (ar rfl Jg) ?_
 refine SG.call rfl rfl rfl (vs:=[bdv ⟨0,0,0⟩,u4v [10,0,0,0]]) (Evs.of rfl) ((og w B7 (by decide) (l:=[10,0,0,0]) (by decide)).mono (fun e w1 hh=>?_))
 obtain⟨hk1,bw,q,y,rfl,h1,hB⟩:=hh
 refine⟨_,rfl,?_⟩
 rw[B3] at h1
 obtain⟨z,m,hK⟩:=Iu hB
 repeat (first|apply gst|(apply gsv;rfl;(first|apply qep|apply qmv|apply qas)<;>rfl))
 refine gcf rfl ?_
 obtain⟨n,hn⟩:∃n,w.heap.size=n:=⟨_,rfl⟩
 rw[hn] at h1
 clear hB
 repeat (first|apply gst|(apply gsv;rfl;apply qmv<;>rfl))
 refine CG.loop (X:=Nat×Wl) (fun p=>[(0,.bool false),(1,.pointer (some ⟨bw,0,none⟩)),(15,.int .i64 (p.1:Int))])
  (fun p w'=>p.1≤2∧Kp [] w w'∧nv w' n 10 bw p.2∧KSt p.1 p.2 y z m) (fun p=>2-p.1) (0,q) ⟨Nat.zero_le _,hk1,h1,hK⟩ (aW.of rfl) ?_
 clear hK h1 hk1
 rintro⟨i,q⟩ w1 ⟨hi,hk1,h1,hK⟩
 simp only at hi h1 hK
 refine CG.to [(0,.bool false),(1,.pointer (some ⟨bw,0,none⟩)),(15,.int .i64 (i:Int))] (aW.of rfl) ?_
 by_cases hlt:i<2
 ·have g1:(i:Int)<2:=by omega
  obtain⟨-,z1,-,-⟩:=eF h1.blk
  have hNb:=h1.nb
  have niw:=hNb.nin h1.blk (by decide) (by decide)
  have hS:∀x∈q.c.vb::q.pm::aU q.vN,x<w1.heap.size:=fun x hx=>by
   rcases List.mem_cons.1 hx with rfl|hx
   ·exact hNb.blk.lt
   rcases List.mem_cons.1 hx with rfl|hx
   ·exact hNb.map.lt
   exact cm hNb.own x (aC hx)
  repeat (first|apply gst|(apply gsv;rfl;apply qls<;>first|rfl|(apply dct;first|assumption|omega)))
  refine gct rfl ?_
  repeat (first|apply gst|(apply gsv;rfl;(first|apply qmv|apply qas)<;>rfl))
  refine CG.AG mixed (q.c.vb::q.pm::aU q.vN,10) 16 [0,1,4,5,6,7,8,9,2,3,10,11,12,13,14,15] [(2,gOP w1.heap.size 5 by1 1 (ny (d1 9) 7) (fun v=>v)),(10,gSg (sgn q.nb (kU (i:Int)) (d1 1)).2.1 (sgn q.nb (kU (i:Int)) (d1 1)).1 w1.heap.size n q.c.vb q.pm q.vN (sgn q.nb (kU (i:Int)) (d1 1)).2.2),(14,gV w1.heap.size 52 13),(15,gP w1.heap.size 52)] (by kernel_rfl) ?_ ?_
  ·intro p hp
   simp only[List.mem_cons,List.mem_nil_iff,or_false] at hp
   rcases hp with rfl|rfl|rfl|rfl
   ·exact wj
   ·exact vZ
   ·exact tw
   ·exact tB
  have hwn:n≤w1.heap.size:=h1.ch.w0
  have hnl:q.nb.length≤10:=by rw[hK.nb];exact AA i
  repeat (apply gxv;rfl;rfl;apply qmv<;>rfl)
  refine bh.val rfl rfl rfl rfl (ar rfl (fun W=>bd1 9 W)) ?_
  repeat (apply gxv;rfl;rfl;(first|apply qnc|apply qmv|apply qlc|apply qfa)<;>first|rfl|assumption)
  refine bh.val rfl rfl rfl rfl (ar rfl (fun W=>bd1 1 W)) ?_
  skip
  refine bh.call rfl rfl rfl rfl (vs:=[.pointer (some ⟨q.c.vb,0,none⟩),dv (d1 1)]) (Evs.of rfl) (fun W _ _=>nR q.c.vb (d1 1) W) ?_
  refine bh.wH (vs:=[dv (d1 9),.int .i64 7]) (gOP w1.heap.size 5 by1 1 (ny (d1 9) 7) (fun v=>v)) rfl rfl rfl rfl (Evs.of rfl) (fun W hk hF=>(ql (d1 9) 7 W).mono (fun e W' hh=>?_)) (fun v=>?_)
  ·obtain⟨v,he,ho,hk'⟩:=hh
   obtain⟨a,c,rfl,-⟩:=Bs.own ho
   exact⟨(a,c),he,bW ho hk.size,hk'⟩
  refine bh.val rfl rfl rfl rfl (ar rfl (fun W=>Jh W _ _ v.1 _ v.2)) ?_
  refine bh.Cg (vs:=[txv ⟨kU (i:Int),v.1,v.2,none,0⟩,.iface 197 (wrv q.c.vb (d1 1))]) (gSg (sgn q.nb (kU (i:Int)) (d1 1)).2.1 (sgn q.nb (kU (i:Int)) (d1 1)).1 w1.heap.size n q.c.vb q.pm q.vN (sgn q.nb (kU (i:Int)) (d1 1)).2.2) rfl rfl rfl rfl rfl (Evs.of rfl) (fun W hk hF=>?_) ?_ (fun y2=>?_)
  ·have ho:W.ownsRow w1.heap.size 5 1 (.slice v.1 (ny (d1 9) 7).length v.2) (ny (d1 9) 7).length (flt by1 (ny (d1 9) 7)):=hF _ (.head _) (by kernel_rfl)
   obtain⟨a',c',e,hB⟩:=Bs.own ho
   simp only[Value.slice.injEq,true_and] at e
   obtain⟨e1,e2⟩:=e
   rw[←e1,←e2] at hB
   have hx:Tm.In ⟨kU (i:Int),v.1,v.2,none,0⟩ 0 W:=⟨hB,Bs.nil,Or.inl (Ty.own ho),Or.inl (fun h=>absurd rfl h),by show(ny (d1 9) 7).length≤_;rw[xv];decide,by show 0≤_;exact Nat.zero_le _⟩
   refine(pX (hNb.kp0 hk) (Nat.le_trans hwn hk.size) (by omega) hx (d1 1)).mono (fun e W2 hh=>?_)
   obtain⟨y,v',he,h1,h2,h3,h4,h5,h6,h7⟩:=hh
   exact⟨(y,v'),he,⟨⟨⟨h1,h7⟩,fun g hg=>(h5 g hg).elim Or.inl (fun h=>Or.inr (Nat.le_trans hk.size h))⟩,h2,h3,bW h6 hk.size⟩,h4⟩
  ·intro j hj W1 W2 y hk hp
   refine pr (q:=fun D=>∀y,D.phi y W1→D.phi y W2) (fun _ _=>trivial) (fun p hp hne y hy=>?_) j hj y hp
   simp only[List.mem_cons,List.mem_nil_iff,or_false] at hp
   rcases hp with rfl|rfl|rfl|rfl
   ·exact dg hy hk (fun b hb hm=>by have h1:=bF hy b hb;have h2:=hS b hm;omega)
   ·exact absurd rfl hne
   ·exact Ca hS hk y hy
   ·exact Cb hS hk y hy
  repeat (apply gxv;rfl;rfl;(first|apply qmv|apply qxt)<;>rfl)
  refine bh.xM rfl rfl rfl rfl rfl (Nat.le_refl _) (fun b3=>?_)
  refine bh.xk (l:=txc y2.1) rfl rfl rfl rfl (by kernel_rfl) (ag rfl) (ag rfl) (aj _) (Nat.le_refl _) (fun W hk hF=>⟨hF _ (.head _) (by kernel_rfl),bJ _⟩) ?_ ?_
  ·intro p hp hne y w w' cs g0 g1 g2 g3 g4 g5
   simp only[List.mem_cons,List.not_mem_nil,or_false] at hp
   rcases hp with rfl|rfl|rfl|rfl
   ·exact dg g5 g3 (bQ g5 (by decide) g1)
   ·exact wi g1 g3 y g5
   ·exact tz (aj _) g3 g4 g5
   ·exact absurd rfl hne
  refine bh.tl (fun w2 hk2 hF=>?_)
  obtain⟨lb3,hB3⟩:w1.heap.size≤b3∧Blk w2 b3 (.cells (txc y2.1).toArray 52):=hF _ (.head _)
  obtain⟨⟨⟨hy,-⟩,-⟩,hyI,hN2,-⟩:((y2.1.t=(sgn q.nb (kU (i:Int)) (d1 1)).2.1∧(y2.1.t.body≠[]→∀b off,y2.1.a1=some ⟨b,off,none⟩→b∉aU y2.1.s))∧∀g,y2.2.ownBlock=some g→q.vN.ownBlock=some g∨w1.heap.size≤g)∧y2.1.In 0 w2∧dQ w2 n q.c.vb q.pm y2.2 (sgn q.nb (kU (i:Int)) (d1 1)).2.2∧w2.ownsRow w1.heap.size 5 1 y2.1.s y2.1.t.sig.length (flt by1 y2.1.t.sig):=hF _ (.tail _ (.tail _ (.head _)))
  obtain⟨y2,v2⟩:=y2
  simp only at hB3 hy hyI hN2
  clear hF z1
  rw[hK.nb,Al hlt] at hy hN2
  simp only at hy hN2
  rw[show(gSg (sgn q.nb (kU (i:Int)) (d1 1)).2.1 (sgn q.nb (kU (i:Int)) (d1 1)).1 w1.heap.size n q.c.vb q.pm q.vN (sgn q.nb (kU (i:Int)) (d1 1)).2.2).val (y2,v2)= .tuple #[txv y2,.int .i64 (sgn q.nb (kU (i:Int)) (d1 1)).1] from rfl]
  rw[hK.nb,Al hlt]
  have h2:=h1.sgn hk2 hN2
  obtain⟨q2,hq2⟩:∃q2,({q with vN:=v2,nb:=kN (i+1)}:Wl)=q2:=⟨_,rfl⟩
  have e1:q2.c=q.c:=by rw[←hq2]
  have e2:q2.ss=q.ss:=by rw[←hq2]
  have e3:q2.bs=q.bs:=by rw[←hq2]
  have e4:q2.nb=kN (i+1):=by rw[←hq2]
  have e5:q2.vs=q.vs:=by rw[←hq2]
  rw[hq2] at h2
  obtain⟨z0,-,-,-⟩:=eF h2.blk
  have r3:Row w2 b3 0 (txc y2):=Row.all hB3 rfl
  repeat (first|apply gst|(apply gsv;rfl;apply qas<;>rfl))
  refine CG.tail mixed 8 [0,1,2,3,4,5,6,7] (by kernel_rfl) ?_
  repeat (apply gdv;rfl;rfl;(first|apply qnc|apply qmv|apply qlc|apply qla|apply qfa|apply qni)<;>first|rfl|assumption|(apply dct;first|assumption|omega)|exact List.not_mem_nil|apply aj)
  refine Der.tl (fun w3 hk3 _ _=>?_)
  have h3:=h2.kp0 hk3
  have hq:au q2.c.ns q2.c.tr.tip=some (z,m):=by rw[e1];exact hK.tip
  have hpool:eB 256 (q2.c.ps.map Em.en):=by rw[e1];exact hK.ok.pool
  have hps:q2.c.ps.map Em.en=kP i:=by rw[e1];exact hK.ps
  have hy3:y2.In n w3:=(hyI.mono (Nat.zero_le n)).kp0 hk3
  obtain⟨k1,k2⟩:=B4 hlt hK.mx hK.mf
  clear z0 r3
  refine SG.call rfl rfl rfl (vs:=[.pointer (some ⟨q2.c.cb,0,none⟩),txv y2]) (Evs.of rfl) ((nP h3.ch h3.nb hpool hy3 hq).mono (fun e w4 hh=>?_))
  obtain⟨rfl,pv',ps',hC4,eps,hk4,-⟩:=hh
  have okq2:pQ q2.c 0:=by rw[e1];exact hK.ok
  have ok4:=okq2.sub (pv:=pv') eps
  rw[hps,e4,hy] at eps
  rw[hps,e4,hy]
  have eps:ps'.map Em.en=kP (i+1):=by rw[eps];exact k2
  have k1:nQ (kN (i+1)) (z,m).2 (kP i) (kS i)=0:=k1
  rw[k1]
  refine⟨_,rfl,?_⟩
  have hcnd:Cnd n CT [q2.c.tm,q2.c.nm] w3 (q2.c.pb::aU q2.c.pv):=h3.ch.pool.cnd
  have h4:=h3.chn hk4 hcnd hC4 ⟨rfl,rfl,rfl,rfl⟩ (fun p hp=>Or.inl hp)
  have hy4:y2.In n w4:=hy3.cnd hk4 hcnd (by decide)
  have hB34:Blk w4 b3 (.cells (txc y2).toArray 52):=hcnd.blk hk4 (hB3.kp0 hk3) (by decide)
  obtain⟨q4,hq4⟩:∃q4,({q2 with c:={q2.c with pv:=pv',ps:=ps'}}:Wl)=q4:=⟨_,rfl⟩
  have f1:q4.c={q2.c with pv:=pv',ps:=ps'}:=by rw[←hq4]
  have f2:q4.ss=q.ss:=by rw[←hq4];exact e2
  have f3:q4.bs=q.bs:=by rw[←hq4];exact e3
  have f4:q4.nb=kN (i+1):=by rw[←hq4];exact e4
  have f5:q4.vs=q.vs:=by rw[←hq4];exact e5
  rw[hq4] at h4
  repeat (first|apply gst|(apply gsv;rfl;(first|apply qpk|apply qni)<;>first|rfl|(apply dct;first|assumption|omega)))
  refine gcf rfl ?_
  obtain⟨-,-,z2,-⟩:=eF h4.blk
  have r5:Row w4 b3 0 (txc y2):=Row.all hB34 rfl
  have hSl:∀z∈aU q4.vs,z<w4.heap.size:=fun z hz=>cm h4.sg z (aC hz)
  have s12:=hk2.size
  have n3:b3∉aU q4.vs:=fun hm=>by
   rw[f5] at hm
   have h1:=cm h1.sg b3 (aC hm)
   omega
  have nw:bw∉aU q4.vs:=fun hm=>bQ h4.sg (by decide) h4.blk bw (aC hm) (List.mem_singleton.2 rfl)
  have hsl2:q4.ss.length≤10:=by
   rw[f2]
   have:=congrArg List.length hK.ss
   rw[List.length_map] at this
   rw[this,List.length_take]
   exact Nat.le_trans (Nat.min_le_left _ _) (by omega)
  have hn4:=h4.ch.w0
  repeat apply gst
  refine CG.dH mixed 8 [0,1,2,3,4,5,6,7] [6,7] (aU q4.vs) (fun W=>W.ownsRow n 52 13 q4.vs q4.ss.length (flt txc q4.ss)) (by kernel_rfl) h4.sg (fun _ _ hk h=>aI h hk) ?_
  repeat (apply gdv;rfl;rfl;(first|apply qnc|apply qmv|apply qlc|apply qla|apply qfa)<;>first|rfl|assumption|apply aj)
  refine Der.nk (cs:=(txc y2).toArray) (E:=52) rfl rfl rfl rfl rfl (fun W=>BB y2 W) hSl (fun W W' hk h=>trivial) (fun _ _ hk h=>aI h hk) (fun bn=>?_)
  apply Der.lQ (P:=Tryz.prog) (t:=41) (base:=n) (e:=52) (i:=Tryz.t52) (f:=ty.i52) (v:=q4.vs) (nn:=q4.ss.length) (xs:=flt txc q4.ss) (b:=bn) (off:=0) (m:=1) (c:=1) (news:=txc y2)
  iterate 4 exact rfl
  iterate 2 exact ag rfl
  iterate 3 exact rfl
  ·exact fun W hk hF=>Row.all hF.2.2 rfl
  ·rw[aj];rfl
  ·exact bJ _
  ·simp only[maxLen];omega
  ·show(q4.ss.length+1)*80≤_;omega
  ·omega
  ·exact fun _ h=>h
  ·exact fun W W' hk hF=>⟨trivial,hF.2.1,hF.2.2.kp hk (fun hm=>by have:=hSl _ hm;have:=hF.2.1;omega)⟩
  intro v7
  refine Der.tl (fun w5 hk5 hF ho7=>?_)
  obtain⟨-,hv7⟩:=hF
  have ho7:w5.ownsRow n 52 13 v7 (q4.ss++[y2]).length (flt txc (q4.ss++[y2])):=by
   rw[cu,ij,List.length_append]
   exact ho7
  obtain⟨a7,c7,rfl⟩:=jr ho7
  have hbw5:=h4.blk.kp hk5 nw
  clear z2 r5
  repeat (apply gsv;rfl;(first|apply qnc|apply qfa)<;>rfl)
  refine SG.bH [.pointer (some ⟨q4.c.cb,0,none⟩),.pointer (some ⟨q4.c.vb,0,none⟩)] [q4.vs] [q4.vb] rfl rfl (ag rfl) (ag rfl) hbw5 rfl rfl rfl rfl rfl (fun w6 hk6 hB6=>?_)
  have h6:=h4.put hk5 ho7 hv7 hy4 hk6 hB6
  repeat (first|apply gst|(apply gsv;rfl;(first|apply qmv|apply qad)<;>first|rfl|(apply Ar.mk;omega)))
  refine NG.round (i+1,{q4 with vs:= .slice a7 (q4.ss++[y2]).length c7,ss:=q4.ss++[y2]}) (aW.of rfl) ⟨hlt,?_,h6,?_⟩ (by simp only;omega)
  ·have hz:∀z∈q.c.vb::q.pm::aU q.vN,z∈([]:List Nat)∨w.heap.size≤z:=fun x hx=>by
    rw[hn]
    rcases List.mem_cons.1 hx with rfl|hx
    ·exact Or.inr hNb.bp
    rcases List.mem_cons.1 hx with rfl|hx
    ·exact Or.inr hNb.pp
    exact Or.inr (bF hNb.own x (aC hx))
   refine(((((hk1.ai hk2 hz).trans hk3).ai hk4 (fun x hx=>Or.inr (by rw[hn];exact(hcnd x hx).1))).ai hk5 (fun x hx=>Or.inr (by rw[hn];exact bF h4.sg x (aC hx)))).ai hk6 (aV (by rw[hn];exact h4.bn)))
  ·refine⟨?_,?_,?_,?_,?_,?_,hK.yb,hK.mx,hK.mf,hK.mt,?_⟩
   ·show q4.c.tr=_
    rw[f1]
    show q2.c.tr=_
    rw[e1]
    exact hK.tr
   ·show q4.c.ns=_
    rw[f1]
    show q2.c.ns=_
    rw[e1]
    exact hK.ns
   ·show q4.c.ps.map Em.en=_
    rw[f1]
    exact eps
   ·show q4.nb=_
    exact f4
   ·show(q4.ss++[y2]).map (·.t)=_
    rw[f2,List.map_append,hK.ss]
    show _++[y2.t]=_
    rw[hy]
    match i,hlt with
    |0,_=>rfl
    |1,_=>rfl
   ·show q4.bs=_
    rw[f3]
    exact hK.bs
   ·show pQ q4.c 0
    rw[f1]
    exact ok4
 ·have g1:¬(i:Int)<2:=by omega
  have e2:i=2:=by omega
  subst e2
  repeat (first|apply gst|(apply gsv;rfl;apply qls<;>first|rfl|(apply dcf;first|assumption|omega)))
  refine gcf rfl ?_
  obtain⟨z0,-,-,-⟩:=eF h1.blk
  have hfst:aF y.b=bj:=xJ hK.yb
  have hrt:aQ y.b=0:=by rw[hK.yb];exact th
  have hxh:m.x.ht=0:=by rw[hK.mx];rfl
  have htn:m.t.n=0:=by rw[hK.mt];rfl
  have hkm:=As hK.mx hK.mf hK.ps
  have hwn:=h1.ch.w0
  repeat apply gst
  refine CG.free mixed 13 [0,1,2,3,4,5,6,7,8,9,10,11,12] [(7,gMb),(11,gV w1.heap.size 50 18),(12,gP w1.heap.size 50)] (by kernel_rfl) ?_ ?_
  ·intro p hp
   simp only[List.mem_cons,List.mem_nil_iff,or_false] at hp
   rcases hp with rfl|rfl|rfl
   ·exact wk
   ·exact tw
   ·exact tB
  repeat (apply gxv;rfl;rfl;(first|apply qnc|apply qmv|apply qlc|apply qfa)<;>first|rfl|assumption|exact List.not_mem_nil)
  refine bh.call rfl rfl rfl rfl (vs:=[.pointer (some ⟨bw,0,none⟩)]) (v:=dv bj) (Evs.of rfl) (fun W hk _=>by
   have:=oc (h1.kp0 hk) hK.bs hrt
   rw[hfst] at this
   exact this) ?_
  refine bh.val rfl rfl rfl rfl (ar rfl (fun W=>bd1 8 W)) ?_
  refine bh.wH (vs:=[.pointer (some ⟨q.c.cb,0,none⟩),dv bj,dv (d1 8),.slice none 0 0]) gMb rfl rfl rfl rfl (Evs.of rfl) (fun W hk hF=>(sQ (h1.kp0 hk).ch (by decide) hK.ok.pool bj (d1 8) (q:=(z,m)) (by rw[hK.ns];exact if_pos rfl) ⟨by rw[hxh];decide,by rw[hxh];decide⟩ (by rw[htn];decide) (a0:=none) (c0:=0) (ls:=[]) Sl.nil (Nat.zero_le _)).mono (fun e W' hh=>?_)) (fun y3=>?_)
  ·obtain⟨y3,he,hb,hyI,-,hk'⟩:=hh
   exact⟨y3,he,⟨hb.trans hkm,hyI⟩,hk'⟩
  repeat (apply gxv;rfl;rfl;(first|apply qmv|apply qxt)<;>rfl)
  refine bh.xM rfl rfl rfl rfl rfl (Nat.le_refl _) (fun b5=>?_)
  refine bh.xk (l:=bkc y3) rfl rfl rfl rfl (by kernel_rfl) (ag rfl) (ag rfl) (aD _) (Nat.le_refl _) (fun W hk hF=>⟨hF _ (.head _) (by kernel_rfl),dD _⟩) ?_ ?_
  ·intro p hp hne y w w' cs g0 g1 g2 g3 g4 g5
   simp only[List.mem_cons,List.not_mem_nil,or_false] at hp
   rcases hp with rfl|rfl|rfl
   ·exact⟨g5.1,g5.2.wr g3 (Nat.zero_le _) g1⟩
   ·exact tz (aD _) g3 g4 g5
   ·exact absurd rfl hne
  refine bh.tl (fun w2 hk2 hF=>?_)
  obtain⟨lb5,hB5⟩:w1.heap.size≤b5∧Blk w2 b5 (.cells (bkc y3).toArray 50):=hF _ (.head _)
  obtain⟨hyb,hyI⟩:Bm.b y3=kB∧Bm.In y3 0 w2:=hF _ (.tail _ (.tail _ (.head _)))
  clear hF z0
  have h2:=h1.kp0 hk2
  obtain⟨z0,-,-,-⟩:=eF h2.blk
  have r5:Row w2 b5 0 (bkc y3):=Row.all hB5 rfl
  repeat (first|apply gst|(apply gsv;rfl;apply qas<;>rfl))
  refine CG.tail mixed 8 [0,1,2,3,4,5,6,7] (by kernel_rfl) ?_
  repeat (apply gdv;rfl;rfl;(first|apply qnc|apply qmv|apply qlc|apply qla|apply qfa|apply qni)<;>first|rfl|assumption|(apply dct;first|assumption|omega)|exact List.not_mem_nil|apply aD)
  refine Der.tl (fun w3 hk3 _ _=>?_)
  have h3:=h2.kp0 hk3
  have l1:=h3.ch.tree.map.lt
  have l2:=h3.ch.map.lt
  have l3:=h3.nb.map.lt
  have hy3:Bm.In y3 n w3:=(Bm.In.up hyI (Nat.zero_le n)).kp0 hk3
  have haz:adZ q.nb q.c (Bm.b y3)=0:=by rw[hyb,hK.nb];exact B8 hK.ns hK.tr hK.mx hK.mf hK.mt
  clear z0 r5
  refine SG.call rfl rfl rfl (vs:=[.pointer (some ⟨q.c.cb,0,none⟩),bkv y3]) (Evs.of rfl) ((tV h3.ch hK.ok (by decide) (by decide) (fun z hz=>by
   simp only[List.mem_cons,List.mem_nil_iff,or_false] at hz
   rcases hz with rfl|rfl|rfl
   ·exact l1
   ·exact l2
   ·exact l3) h3.nb hy3).mono (fun e w4 hh=>?_))
  obtain⟨rfl,hh⟩:=hh
  refine⟨_,rfl,?_⟩
  obtain⟨-,hA⟩:=hh.elim (fun g=>absurd haz g.1) id
  obtain⟨pv',ps',z2,qn,hC4,hqb,hr,hps,hk4,-,hfr⟩:=hA
  have h4:=h3.chn hk4 h3.ch.DA hC4 ⟨rfl,rfl,rfl,rfl⟩ (fun p hp=>(pD hp).elim (fun e=>Or.inr (by rw[e];exact hfr)) Or.inl)
  have ok4:=hK.ok.added haz (pv:=pv') hqb hr hps
  rw[haz]
  repeat (first|apply gst|(apply gsv;rfl;(first|apply qpk|apply qni)<;>first|rfl|(apply dct;first|assumption|omega)))
  refine gcf rfl ?_
  rw[hyb] at hr hqb h4 ok4
  obtain⟨kqf,kqe⟩:=Ix hK hr
  rw[hK.ns,hK.tr,CR] at h4 ok4
  obtain⟨c4,hc4⟩:∃c4,({q.c with pv:=pv',ps:=ps',tr:=(Tr.new bj 0).put (aF kB) bj,ns:=ca [(bj,z,m)] (aF kB) (z2,qn)}:Cm)=c4:=⟨_,rfl⟩
  have g1:c4.tr=(Tr.new bj 0).put (aF kB) bj:=by rw[←hc4]
  have g2:c4.ns=ca [(bj,z,m)] (aF kB) (z2,qn):=by rw[←hc4]
  have h4:nv w4 n 10 bw {q with c:=c4}:=by rw[←hc4];exact h4
  have ok4:pQ c4 (0+1):=by rw[←hc4];exact ok4
  obtain⟨q4,hq4⟩:∃q4,({q with c:=c4}:Wl)=q4:=⟨_,rfl⟩
  have f1:q4.c=c4:=by rw[←hq4]
  have f2:q4.ss=q.ss:=by rw[←hq4]
  rw[hq4] at h4
  obtain⟨xa,xb,hss,hxb⟩:=B2 (l:=q4.ss) (by rw[f2];exact hK.ss)
  have hmm:au q4.c.ns q4.c.tr.tip=some (z2,qn):=by rw[f1,g1,g2,Ak,aZ,if_pos rfl]
  have hfind:iJ q4.c.ns (aK xb.t) (q4.c.tr.line q4.c.tr.tip)=some (1,21):=by
   rw[f1,g1,tf,hxb]
   exact Au g2 hK.mx hqb kqe
  have hln:∀d∈q4.c.tr.line q4.c.tr.tip,∃q,au q4.c.ns d=some q:=fun d hd=>by
   rw[f1,g1,tf] at hd
   rw[f1,g2]
   simp only[List.mem_cons,List.mem_nil_iff,or_false] at hd
   rcases hd with rfl|rfl
   ·exact⟨(z,m),by rw[aZ,if_neg ti];exact if_pos rfl⟩
   ·exact⟨(z2,qn),by rw[aZ,if_pos rfl]⟩
  have hll:(q4.c.tr.line q4.c.tr.tip).length≤100000:=by
   rw[f1,g1,tf]
   decide
  have wf4:q4.c.tr.WF:=by rw[f1];exact ok4.wf
  clear hr hqb hps hfr hc4 g1 g2 ok4 hB5
  obtain⟨as4,cs4,ev4,hcs4,hS4⟩:=Sl.own aj h4.sg rfl
  have l2s:1<q4.ss.length:=by rw[hss];exact Nat.lt_succ_self 1
  obtain⟨ba,off,rfl,hrow⟩:=hS4.at l2s
  have e1:q4.ss[1]=xb:=by simp only[hss];rfl
  rw[e1] at hrow
  have hrow:Row w4 ba (off+(1:Int).toNat*13) (txc xb):=hrow
  have hl2:q4.ss.length=2:=by rw[hss];rfl
  obtain⟨z0,-,z2',-⟩:=eF h4.blk
  rw[ev4,hl2] at z2'
  have hxI:xb.In n w4:=h4.si xb (by rw[hss];simp)
  repeat apply gst
  refine CG.iK mixed [0,1,2,3,4,5,6,7,8,9,10,11,12,13,14,17] [(15,16,7,.tmp 89)] (by kernel_rfl) (by kernel_rfl) ?_
  repeat (apply gdv;rfl;rfl;(first|apply qnc|apply qmv|apply qlc|apply qla|apply qfa|apply qic)<;>first|rfl|(apply Ar.mk;omega)|assumption|exact List.not_mem_nil|apply aj)
  refine Der.call rfl rfl rfl (vs:=[txv xb]) (Evs.of rfl) (fun W hk _=>gq (hxI.kp0 hk)) ?_
  refine Der.call rfl rfl rfl (v:= .tuple #[.agg (dnc (1,21)).toArray,.bool true]) (vs:=[.pointer (some ⟨q4.c.cb,0,none⟩),dv (aK xb.t)]) (Evs.of rfl) (fun W hk _=>by
   have:=qT (h4.kp0 hk).ch wf4 hll hln (aK xb.t)
   rw[hfind] at this
   exact this) ?_
  repeat (apply gdv;rfl;rfl;(first|apply qmv|apply qas|apply qxt)<;>rfl)
  refine Der.one (iN.of (by rfl) rfl rfl rfl (ag rfl) (by rfl) (by rfl) (by rfl)) (fun b7 w5 hk5 hb7 hB7=>?_)
  have h5:=h4.kp0 hk5
  clear z0 z2' hrow
  obtain⟨z0,-,-,-⟩:=eF h5.blk
  repeat (first|apply gst|(apply gsv;rfl;(first|apply qnc|apply qmv|apply qlc|apply qfa)<;>first|rfl|assumption|exact List.not_mem_nil))
  refine SG.call rfl rfl rfl (vs:=[.pointer (some ⟨q4.c.cb,0,none⟩)]) (Evs.of rfl) ((oE h5.ch hmm).mono (fun e w6 hh=>?_))
  obtain⟨bt,bm,mk,rfl,hbk,hbi,-,-,hk6⟩:=hh
  refine⟨_,rfl,?_⟩
  clear z0
  have hB76:=hB7.kp0 hk6
  have r0:Row w6 b7 0 [.int .i64 1]:=Row.of hB76 [] [.int .i64 21] rfl rfl
  have r1:Row w6 b7 1 [.int .i64 21]:=Row.of hB76 [.int .i64 1] [] rfl rfl
  have hbf:bal mk=kf2:=hbi.eq.trans kqf
  have b1:∀{W:World},Kp [] w6 W→Ret Tryz.prog 19 #[.pointer (some ⟨bt,0,none⟩),dv (d1 1)] W (acv (rf (d1 1) (kf2 (d1 1)))):=fun hk=>by
   have:=iY (hbk.kp0 hk) (d1 1)
   rw[hbf] at this
   exact this
  have b8:∀{W:World},Kp [] w6 W→Ret Tryz.prog 19 #[.pointer (some ⟨bt,0,none⟩),dv (d1 8)] W (acv (rf (d1 8) (kf2 (d1 8)))):=fun hk=>by
   have:=iY (hbk.kp0 hk) (d1 8)
   rw[hbf] at this
   exact this
  repeat (first|apply gst|(apply gsv;rfl;(first|apply qnp|apply qmv|apply qas|apply qlc|apply qfa|apply qpk|apply qei)<;>first|rfl|assumption|(apply dct;first|assumption|omega)|exact List.not_mem_nil))
  refine SG.val rfl rfl rfl rfl (ar rfl (fun W=>bd1 1 W)) ?_
  refine SG.ret rfl rfl rfl (vs:=[.pointer (some ⟨bt,0,none⟩),dv (d1 1)]) (Evs.of rfl) (b1 (Kp.refl _ _)) (fun w7 hk7=>?_)
  refine SG.val rfl rfl rfl rfl (CY rfl) ?_
  rw[IA]
  repeat (apply gsv;rfl;(first|apply qmv|apply qpk|apply qei)<;>first|rfl|(apply dct;first|assumption|omega))
  refine SG.val rfl rfl rfl rfl (ar rfl (fun W=>bd1 8 W)) ?_
  refine SG.ret rfl rfl rfl (vs:=[.pointer (some ⟨bt,0,none⟩),dv (d1 8)]) (Evs.of rfl) (b8 hk7) (fun w8 hk8=>?_)
  refine SG.val rfl rfl rfl rfl (CY rfl) ?_
  rw[Iz]
  repeat (first|apply gst|(apply gsv;rfl;(first|apply qas|apply qpk|apply qei)<;>first|rfl|(apply dct;first|assumption|omega)))
  refine aN (Or.inl rfl) Tryz.results10 (aw.tmp rfl) ?_
  have hcn:Cnd n CT [q.c.tm,q.c.nm] w3 (chS q.c):=h3.ch.DA
  exact⟨rfl,(((((((hk1.trans hk2).trans hk3).ai hk4 (fun x hx=>Or.inr (by rw[hn];exact(hcn x hx).1))).trans hk5).trans hk6).trans hk7).trans hk8)⟩
end
section
attribute [local irreducible] CG NG SG aJ Der Row Blk av aA aK
theorem ej(w:World):Ret Tryz.prog 22 #[.pointer none] w (.int .i64 0):=by
 refine aM Tryz.func22 rfl Tryz.ntmps22 rfl ?_
 repeat (first|apply gst|(apply gsv;rfl;(first|apply qep|apply qmv|apply qas)<;>rfl))
 refine gct rfl ?_
 repeat (first|apply gst|(apply gsv;rfl;apply qas<;>rfl))
 refine aN (Or.inl rfl) Tryz.results22 (aw.tmp rfl) ?_
 exact⟨rfl,Kp.refl _ _⟩
theorem fg(w:World):Ret Tryz.prog 15 #[.pointer none] w (.pointer none):=by
 refine aM Tryz.func15 rfl Tryz.ntmps15 rfl ?_
 repeat (first|apply gst|(apply gsv;rfl;(first|apply qep|apply qmv|apply qas)<;>rfl))
 refine gct rfl ?_
 repeat (first|apply gst|(apply gsv;rfl;apply qas<;>rfl))
 refine aN (Or.inl rfl) Tryz.results15 (aw.tmp rfl) ?_
 exact⟨rfl,Kp.refl _ _⟩
theorem iW(w:World):Ret Tryz.prog 31 #[.pointer none] w (.nilIface):=by
 refine aM Tryz.func31 rfl Tryz.ntmps31 rfl ?_
 repeat (first|apply gst|(apply gsv;rfl;(first|apply qep|apply qmv|apply qas)<;>rfl))
 refine gct rfl ?_
 repeat (first|apply gst|(apply gsv;rfl;apply qas<;>rfl))
 refine aN (Or.inl rfl) Tryz.results31 (aw.tmp rfl) ?_
 exact⟨rfl,Kp.refl _ _⟩
theorem fi(w:World)(i:Int):Ret Tryz.prog 24 #[.pointer none,.int .i64 i] w (.bool false):=by
 refine aT Tryz.func24 rfl Tryz.ntmps24 rfl ?_
 repeat (first|apply gst|(apply gsv;rfl;(first|apply qep|apply qmv|apply qas)<;>rfl))
 refine gct rfl ?_
 repeat (first|apply gst|(apply gsv;rfl;apply qas<;>rfl))
 refine aN (Or.inl rfl) Tryz.results24 (aw.tmp rfl) ?_
 exact⟨rfl,Kp.refl _ _⟩
theorem fe(w:World):Ret Tryz.prog 39 #[.pointer none] w (.slice none 0 0):=by
 refine aM Tryz.func39 rfl Tryz.ntmps39 rfl ?_
 repeat (first|apply gst|(apply gsv;rfl;(first|apply qep|apply qmv|apply qas)<;>rfl))
 refine gct rfl ?_
 repeat (first|apply gst|(apply gsv;rfl;apply qas<;>rfl))
 refine aN (Or.inl rfl) Tryz.results39 (aw.tmp rfl) ?_
 exact⟨rfl,Kp.refl _ _⟩
theorem gx(w:World):Ret Tryz.prog 40 #[.pointer none] w (.slice none 0 0):=by
 refine aM Tryz.func40 rfl Tryz.ntmps40 rfl ?_
 repeat (first|apply gst|(apply gsv;rfl;(first|apply qep|apply qmv|apply qas)<;>rfl))
 refine gct rfl ?_
 repeat (first|apply gst|(apply gsv;rfl;apply qas<;>rfl))
 refine aN (Or.inl rfl) Tryz.results40 (aw.tmp rfl) ?_
 exact⟨rfl,Kp.refl _ _⟩
theorem gD(w:World):Ret Tryz.prog 16 #[.pointer none] w (.slice none 0 0):=by
 refine aM Tryz.func16 rfl Tryz.ntmps16 rfl ?_
 repeat (first|apply gst|(apply gsv;rfl;(first|apply qep|apply qmv|apply qas)<;>rfl))
 refine gct rfl ?_
 repeat (first|apply gst|(apply gsv;rfl;apply qas<;>rfl))
 refine aN (Or.inl rfl) Tryz.results16 (aw.tmp rfl) ?_
 exact⟨rfl,Kp.refl _ _⟩
theorem fj(w:World):Ret Tryz.prog 25 #[.pointer none] w (.pointer none):=by
 refine aM Tryz.func25 rfl Tryz.ntmps25 rfl ?_
 repeat (first|apply gst|(apply gsv;rfl;(first|apply qep|apply qmv|apply qas)<;>rfl))
 refine gct rfl ?_
 repeat (first|apply gst|(apply gsv;rfl;apply qas<;>rfl))
 refine aN (Or.inl rfl) Tryz.results25 (aw.tmp rfl) ?_
 exact⟨rfl,Kp.refl _ _⟩
theorem dZ(w:World):Ret Tryz.prog 38 #[.pointer none,txv tm0] w (.int .i64 1):=by
 refine aT Tryz.func38 rfl Tryz.ntmps38 rfl ?_
 repeat apply gst
 refine SG.box rfl rfl rfl (ag rfl) (fun b3 w1 hk1 hb3 hB3=>?_)
 repeat (first|apply gst|(apply gsv;rfl;(first|apply qep|apply qmv|apply qas)<;>rfl))
 refine gct rfl ?_
 repeat (first|apply gst|(apply gsv;rfl;apply qas<;>rfl))
 refine aN (Or.inl rfl) Tryz.results38 (aw.tmp rfl) ?_
 exact⟨rfl,hk1⟩
theorem iX(w:World):Ret Tryz.prog 27 #[.pointer none,bkv bm0] w (.int .i64 1):=by
 refine aT Tryz.func27 rfl Tryz.ntmps27 rfl ?_
 repeat apply gst
 refine SG.box rfl rfl rfl (ag rfl) (fun b3 w1 hk1 hb3 hB3=>?_)
 repeat (first|apply gst|(apply gsv;rfl;(first|apply qep|apply qmv|apply qas)<;>rfl))
 refine gct rfl ?_
 repeat (first|apply gst|(apply gsv;rfl;apply qas<;>rfl))
 refine aN (Or.inl rfl) Tryz.results27 (aw.tmp rfl) ?_
 exact⟨rfl,hk1⟩
theorem ff(w:World)(d:Dg):Ret Tryz.prog 37 #[.pointer none,dv d] w (.tuple #[.int .i64 0,.bool false]):=by
 refine aT Tryz.func37 rfl Tryz.ntmps37 rfl ?_
 repeat apply gst
 refine SG.box rfl rfl rfl (ag rfl) (fun b3 w1 hk1 hb3 hB3=>?_)
 repeat (first|apply gst|(apply gsv;rfl;(first|apply qep|apply qmv|apply qas)<;>rfl))
 refine gct rfl ?_
 repeat (first|apply gst|(apply gsv;rfl;apply qas<;>rfl))
 refine dC (Or.inl rfl) Tryz.results37 (aw.tmp rfl) (aw.tmp rfl) ?_
 exact⟨rfl,hk1⟩
theorem gF(w:World)(d:Dg):Ret Tryz.prog 17 #[.pointer none,dv d] w (.tuple #[.agg (dnc (0,0)).toArray,.bool false]):=by
 refine aT Tryz.func17 rfl Tryz.ntmps17 rfl ?_
 repeat apply gst
 refine SG.box rfl rfl rfl (ag rfl) (fun b3 w1 hk1 hb3 hB3=>?_)
 refine SG.alloc rfl rfl rfl (fun b4 w2 hk2 hb4 hB4=>?_)
 repeat (first|apply gst|(apply gsv;rfl;(first|apply qep|apply qmv|apply qas)<;>rfl))
 refine gct rfl ?_
 repeat apply gst
 refine SG.val rfl rfl rfl rfl (ar rfl DE) ?_
 refine SG.aB (l:=dnc (0,0)) rfl rfl (ag rfl) (ag rfl) hB4 rfl rfl rfl (fun w3 hk3 hB4=>?_)
 have hr:Row w3 b4 0 (dnc (0,0)):=Row.all hB4 rfl
 repeat (first|apply gst|(apply gsv;rfl;apply qas<;>rfl))
 refine dC (Or.inl rfl) Tryz.results17 (aw.agg rfl rfl hr rfl) (aw.tmp rfl) ?_
 exact⟨rfl,hk1.trans (hk2.ai hk3 (aV hb4))⟩
theorem gy(w:World)(p m:Dg):Ret Tryz.prog 36 #[.pointer none,dv p,dv m,.slice none 0 0] w (.tuple #[bkv bm0,.int .i64 24]):=by
 refine iG Tryz.func36 rfl Tryz.ntmps36 rfl ?_
 repeat apply gst
 refine SG.box rfl rfl rfl (ag rfl) (fun b3 w1 hk1 hb3 hB3=>?_)
 refine SG.box rfl rfl rfl (ag rfl) (fun b5 w2 hk2 hb5 hB5=>?_)
 refine SG.alloc rfl rfl rfl (fun b4 w3 hk3 hb4 hB4=>?_)
 repeat (first|apply gst|(apply gsv;rfl;(first|apply qep|apply qmv|apply qas)<;>rfl))
 refine gct rfl ?_
 repeat apply gst
 refine SG.val rfl rfl rfl rfl (ar rfl A5) ?_
 refine SG.aB (l:=bkc bm0) rfl rfl (ag rfl) (ag rfl) hB4 (aD _) rfl (dD _) (fun w4 hk4 hB4=>?_)
 have hr:Row w4 b4 0 (bkc bm0):=Row.all hB4 rfl
 repeat (first|apply gst|(apply gsv;rfl;apply qas<;>rfl))
 refine dC (Or.inl rfl) Tryz.results36 (aw.agg rfl rfl hr (aD _)) (aw.tmp rfl) ?_
 exact⟨rfl,(hk1.trans hk2).trans (hk3.ai hk4 (aV hb4))⟩
theorem iV(w:World):Ret Tryz.prog 26 #[.pointer none,.pointer none] w (.bool true):=by
 refine aT Tryz.func26 rfl Tryz.ntmps26 rfl ?_
 repeat (first|apply gst|(apply gsv;rfl;(first|apply qep|apply qmv|apply qas|apply qpk)<;>rfl)|refine SG.skip rfl rfl ?_)
 refine gct rfl ?_
 repeat (first|apply gst|(apply gsv;rfl;(first|apply qep|apply qmv|apply qas|apply qpk)<;>rfl))
 refine aN (Or.inl rfl) Tryz.results26 (aw.tmp rfl) ?_
 exact⟨rfl,Kp.refl _ _⟩
theorem wC(w:World)(b:Nat):Ret Tryz.prog 26 #[.pointer none,.pointer (some ⟨b,0,none⟩)] w (.bool false):=by
 refine aT Tryz.func26 rfl Tryz.ntmps26 rfl ?_
 repeat (first|apply gst|(apply gsv;rfl;(first|apply qep|apply qmv|apply qas|apply qpk)<;>rfl)|refine SG.skip rfl rfl ?_)
 refine gct rfl ?_
 repeat (first|apply gst|(apply gsv;rfl;(first|apply qep|apply qmv|apply qas|apply qpk)<;>rfl))
 refine aN (Or.inl rfl) Tryz.results26 (aw.tmp rfl) ?_
 exact⟨rfl,Kp.refl _ _⟩
theorem lL(w:World)(b:Bd)(x:Value)(t:TypeId)(v:Value):Ret Tryz.prog 28 #[bdv b,.nilIface,x,.iface t v] w (.tuple #[.pointer none,.int .i64 1]):=by
 refine iG Tryz.func28 rfl Tryz.ntmps28 rfl ?_
 repeat apply gst
 refine SG.box rfl rfl rfl (ag rfl) (fun b4 w1 hk1 hb4 hB4=>?_)
 repeat (first|apply gst|(apply gsv;rfl;first|apply zw<;>rfl|((first|apply qmv|apply qas|apply qpk)<;>rfl))|refine SG.skip rfl rfl ?_)
 refine gct rfl ?_
 repeat (first|apply gst|(apply gsv;rfl;apply qas<;>rfl))
 refine dC (Or.inl rfl) Tryz.results28 (aw.tmp rfl) (aw.tmp rfl) ?_
 exact⟨rfl,hk1⟩
theorem lM(w:World)(b:Bd)(x:Value)(t:TypeId)(v:Value):Ret Tryz.prog 28 #[bdv b,.iface t v,x,.nilIface] w (.tuple #[.pointer none,.int .i64 1]):=by
 refine iG Tryz.func28 rfl Tryz.ntmps28 rfl ?_
 repeat apply gst
 refine SG.box rfl rfl rfl (ag rfl) (fun b4 w1 hk1 hb4 hB4=>?_)
 repeat (first|apply gst|(apply gsv;rfl;first|apply zw<;>rfl|((first|apply Bt|apply qmv|apply qas|apply qpk)<;>rfl)))
 refine gct rfl ?_
 repeat (first|apply gst|(apply gsv;rfl;apply qas<;>rfl))
 refine dC (Or.inl rfl) Tryz.results28 (aw.tmp rfl) (aw.tmp rfl) ?_
 exact⟨rfl,hk1⟩
def z4c(l:List Int):List Value:=[.int .i64 (l.getD 0 0),.int .i64 (l.getD 1 0),.int .i64 (l.getD 2 0),.int .i64 (l.getD 3 0)]
def z4v(l:List Int):Value:= .agg (z4c l).toArray
theorem BG(l:List Int){j:Nat}(h:j<4):(z4c l)[j]?=some (.int .i64 (l.getD j 0)):=by
 match j,h with
 |0,_=>rfl
 |1,_=>rfl
 |2,_=>rfl
 |3,_=>rfl
def acZ(l:List Int)(n:Nat):List Ac:=(List.range n).map (fun j=>⟨d1 (UInt8.ofNat j),l.getD j 0,0⟩)
theorem wX(l:List Int)(n:Nat):acZ l (n+1)=acZ l n++[⟨d1 (UInt8.ofNat n),l.getD n 0,0⟩]:=by simp[acZ,List.range_succ]
theorem jU(l:List Int)(n:Nat):(acZ l n).length=n:=by simp[acZ]
attribute [local irreducible] bh j7
set_option maxRecDepth 20000 in
theorem sI(w:World)(fk lv slp:Int)(m4:List Int):Calls Tryz.prog 8 #[.int .i64 fk,.int .i64 lv,.int .i64 slp,z4v m4] w (fun e w'=>e= .returned (.bool true)∧Kp [] w w'):=by
 refine iG Tryz.func8 rfl Tryz.ntmps8 rfl ?_
 repeat apply gst
 refine SG.box rfl rfl rfl (ag rfl) (fun b7 w1 hk1 hb7 hB7=>?_)
 have hB7:Blk w1 b7 (.cells (z4c m4).toArray 83):=hB7
 repeat (first|apply gst|(apply gsv;rfl;apply qas<;>rfl))
 refine SG.ret rfl rfl rfl (vs:=[]) (Evs.of rfl) (qF w1) (fun w2 hk2=>?_)
 have k2:=hk1.trans hk2
 repeat (first|apply gst|(apply gsv;rfl;apply qnt<;>rfl))
 refine gcf rfl ?_
 repeat (first|apply gst|(apply gsv;rfl;apply qmv<;>rfl))
 refine SG.val rfl rfl rfl rfl (ar rfl (bbd fk lv slp)) ?_
 obtain⟨B,hBe⟩:∃B:Bd,(⟨fk,lv,slp⟩:Bd)=B:=⟨_,rfl⟩
 have hBf:fk=B.fork:=by rw[←hBe]
 rw[hBe]
 refine SG.alloc rfl rfl rfl (fun b9 w3 hk3 hb9 hB9=>?_)
 refine SG.aB (l:=bdL B) rfl rfl (ag rfl) (ag rfl) hB9 rfl rfl rfl (fun w4 hk4 hB9=>?_)
 have k24:=hk3.ai hk4 (aV hb9)
 have k4:=k2.trans k24
 have hB9:Blk w4 b9 (.cells (bdL B).toArray 31):=hB9
 have hl3:(bdL B).length=3:=rfl
 have hl4:(z4c m4).length=4:=rfl
 have r7:Row w4 b7 0 (z4c m4):=Row.all (hB7.kp0 (hk2.trans k24)) rfl
 repeat (first|apply gst|(apply gsv;rfl;(first|apply qmv|apply qas|apply qla)<;>first|rfl|assumption|exact List.not_mem_nil))
 refine CG.loop (X:=Nat×Value) (fun q=>[(0,.int .i64 fk),(8,.bool false),(9,.pointer (some ⟨b9,0,none⟩)),(10,q.2),(36,.agg (z4c m4).toArray),(37,.int .i64 (q.1:Int))])
  (fun q w'=>q.1≤4∧Kp [] w4 w'∧w'.ownsRow w4.heap.size 59 10 q.2 q.1 (flt acl (acZ m4 q.1))) (fun q=>4-q.1) (0,.slice none 0 0) ⟨by omega,Kp.refl _ _,cC⟩ (aW.of rfl) ?_
 rintro⟨i,v⟩ w5 ⟨hi,k45,ho5⟩
 simp only at hi ho5
 refine CG.to [(0,.int .i64 fk),(8,.bool false),(9,.pointer (some ⟨b9,0,none⟩)),(10,v),(36,.agg (z4c m4).toArray),(37,.int .i64 (i:Int))] (aW.of rfl) ?_
 clear r7
 by_cases hlt:i<4
 ·have g1:(i:Int)<4:=by omega
  have hat:=BG m4 hlt
  generalize hx:m4.getD i 0=x at*
  repeat (first|apply gst|(apply gsv;rfl;apply qls<;>first|rfl|(apply dct;first|assumption|omega)))
  refine gct rfl ?_
  repeat (first|apply gst|(apply gsv;rfl;(first|apply qi8|apply qid|apply qmv|apply qas)<;>first|rfl|(apply Ar.mk;omega)|assumption))
  have ei:(UInt8.ofNat ((i:Int)).toNat)=UInt8.ofNat i:=by congr 1
  rw[ei]
  refine SG.val rfl rfl rfl rfl (ar rfl (bd1 _)) ?_
  repeat (apply gsv;rfl;apply qmv<;>rfl)
  refine SG.val rfl rfl rfl rfl (ar rfl (DG _ _)) ?_
  refine SG.buildSlice rfl rfl rfl rfl (DC _) (fun b8 w6 hk6 hb8 hB8=>?_)
  have s3:=k45.size
  have s7:=hk6.size
  have ho6:=vA (jU m4 i).symm (aI ho5 hk6)
  refine SG.pE (enc:=acl) (xs:=acZ m4 i) (ys:=[⟨d1 (UInt8.ofNat i),x,0⟩]) (base:=w4.heap.size) rfl rfl rfl (ag rfl) (ag rfl) rfl rfl rfl rfl az iw ho6 (jk (enc:=acl) (sz:=10) az hB8) (by rw[jU];simp only[maxLen,List.length_singleton];omega) (by rw[jU];show(i+1)*24≤_;omega) (by omega) (fun v8 w8 hk8 ho8 hv8=>?_)
  rw[←hx,←wX,jU] at ho8
  repeat (first|apply gst|(apply gsv;rfl;(first|apply qmv|apply qas|apply qad)<;>first|rfl|(apply Ar.mk;omega)))
  refine NG.round (i+1,v8) (aW.of rfl) ⟨hlt,(k45.trans hk6).ai hk8 (df ho6 (Nat.le_refl _)),ho8⟩ (by simp only;omega)
 have g1:¬(i:Int)<4:=by omega
 have e4:i=4:=by omega
 subst e4
 obtain⟨l,hle⟩:∃l,acZ m4 4=l:=⟨_,rfl⟩
 have hll:l.length=4:=by rw[←hle,jU]
 have ho5:w5.ownsRow w4.heap.size 59 10 v l.length (flt acl l):=by rw[hll,←hle];exact ho5
 obtain⟨a5,c5,rfl,-,hS5⟩:=Sl.own az ho5 rfl
 clear hle
 have k5:=k4.trans k45
 repeat (first|apply gst|(apply gsv;rfl;apply qls<;>first|rfl|(apply dcf;first|assumption|omega)))
 refine gcf rfl ?_
 repeat apply gst
 refine SG.call rfl rfl rfl (vs:=[]) True.intro ((iC w5).mono (fun e w6 hh=>?_))
 obtain⟨bb,pm,rfl,hN,hne,hk6⟩:=hh
 refine⟨_,rfl,?_⟩
 have k46:=k45.trans hk6
 have r9:Row w6 b9 0 (bdL B):=Row.all (hB9.kp0 k46) rfl
 repeat (first|apply gst|(apply gsv;rfl;(first|apply o0|apply qmv|apply qas|apply qla)<;>first|rfl|assumption|exact List.not_mem_nil))
 refine SG.val rfl rfl rfl rfl (ar rfl zD) ?_
 refine SG.box rfl rfl rfl (ag rfl) (fun b57 w7 hk7 hb57 hB57=>?_)
 have hS7:=(hS5.kp0 hk6).kp0 hk7
 have hT7:j9 w7 b57 t00:=hB57
 have r9:=r9.kp0 hk7
 repeat (apply gsv;rfl;apply o0<;>rfl)
 refine SG.call rfl rfl rfl (vs:=[bdv B,.iface 40 (.pointer (some ⟨bb,0,none⟩)),.slice a5 l.length c5,.iface 74 (.pointer (some ⟨b57,0,none⟩))]) (Evs.of rfl) ((ni (n:=w7.heap.size) (Nat.le_refl _) B hS7 (by omega) hT7).mono (fun e w8 hh=>?_))
 obtain⟨hk8,hh⟩:=hh
 have hcv:∃cv,e= .returned (.tuple #[cv,.int .i64 (ik B l)])∧(cv= .pointer none∧ik B l≠0∨(∃cb,cv= .pointer (some ⟨cb,0,none⟩))∧ik B l=0):=by
  rcases hh with⟨h0,he⟩|⟨h0,c,z,q,he,-⟩
  ·exact⟨_,he,Or.inl ⟨rfl,h0⟩⟩
  ·exact⟨_,by rw[h0];exact he,Or.inr ⟨⟨_,rfl⟩,h0⟩⟩
 obtain⟨cv,rfl,hcv⟩:=hcv
 clear hh
 refine⟨_,rfl,?_⟩
 have r9:=r9.kp0 hk8
 repeat (first|apply gst|(apply gsv;rfl;(first|apply qmv|apply qas|apply qxt)<;>rfl))
 refine SG.call rfl rfl rfl (vs:=[.slice a5 l.length c5]) (Evs.of rfl) ((kE c5 (hS7.kp0 hk8) (by omega)).mono (fun e w9 hh=>?_))
 obtain⟨hk9,hh⟩:=hh
 have hpv:∃pv,e= .returned (.tuple #[pv,.int .i64 (j7 l)]):=by
  rcases hh with⟨h0,he⟩|⟨h0,bt,bm,he,-⟩
  ·exact⟨_,he⟩
  ·exact⟨_,by rw[h0];exact he⟩
 obtain⟨pv,rfl⟩:=hpv
 clear hh
 refine⟨_,rfl,?_⟩
 have r9:=r9.kp0 hk9
 have hS9:=(hS7.kp0 hk8).kp0 hk9
 repeat (first|apply gst|(apply gsv;rfl;(first|apply qmv|apply qas|apply qla|apply qxt)<;>first|rfl|assumption|exact List.not_mem_nil))
 refine SG.ret rfl rfl rfl (vs:=[bdv B]) (Evs.of rfl) (kF B w9) (fun w10 hk10=>?_)
 have k510:=((((hk6.trans hk7).trans hk8).trans hk9).trans hk10)
 clear r9
 obtain⟨z,hz⟩:∃z,ik B l=z:=⟨_,rfl⟩
 have hzd:z=if bdz B≠0 then bdz B else if 1000<B.fork then 2 else j7 l:=by rw[←hz];rfl
 rw[hz] at hcv⊢
 obtain⟨e1,he1⟩:∃e1,j7 l=e1:=⟨_,rfl⟩
 obtain⟨e2,he2⟩:∃e2,bdz B=e2:=⟨_,rfl⟩
 rw[he1,he2,←hBf] at hzd
 rw[he1,he2]
 have r9:Row w10 b9 0 (bdL B):=Row.all (hB9.kp0 (k45.trans k510)) rfl
 have key:(e2≠0∧z=e2)∨(e2=0∧1000<fk∧z=2)∨(e2=0∧¬1000<fk∧z=e1):=by
  by_cases h1:e2=0
  ·rw[if_neg (fun h=>h h1)] at hzd
   by_cases h2:1000<fk
   ·rw[if_pos h2] at hzd
    exact Or.inr (Or.inl ⟨h1,h2,hzd⟩)
   ·rw[if_neg h2] at hzd
    exact Or.inr (Or.inr ⟨h1,h2,hzd⟩)
  ·rw[if_pos h1] at hzd
   exact Or.inl ⟨h1,hzd⟩
 clear hzd hz he1 he2
 rcases hcv with⟨rfl,hz0⟩|⟨⟨cb,rfl⟩,hz0⟩
 ·rcases key with⟨h1,h2⟩|⟨h1,h2,h3⟩|⟨h1,h2,h3⟩
  ·subst h2
   repeat (first|apply gst|(apply gsv;rfl;(first|apply qmv|apply qas|apply qpk|apply qei)<;>first|rfl|(apply dcf;first|assumption|omega))|refine SG.skip rfl rfl ?_)
   refine gcf rfl ?_
   repeat (first|apply gst|(apply gsv;rfl;(first|apply qmv|apply qei)<;>first|rfl|(apply dcf;first|assumption|omega)))
   refine gcf rfl ?_
   repeat (first|apply gst|(apply gsv;rfl;(first|apply qnp|apply qmv|apply qpk|apply qei|apply qni|apply qnb)<;>first|rfl|(apply dct;first|assumption|omega)|(apply dcf;first|assumption|omega)))
   refine gcf rfl ?_
   repeat (first|apply gst|(apply gsv;rfl;(first|apply qmv|apply qla)<;>first|rfl|assumption|exact List.not_mem_nil))
   refine SG.val rfl rfl rfl rfl (ar rfl zD) ?_
   refine SG.box rfl rfl rfl (ag rfl) (fun b92 w11 hk11 hb92 hB92=>?_)
   repeat (apply gsv;rfl;apply o0<;>rfl)
   refine SG.ret rfl rfl rfl (vs:=[bdv B,.nilIface,.slice a5 l.length c5,.iface 74 (.pointer (some ⟨b92,0,none⟩))]) (Evs.of rfl) (lL w11 B _ _ _) (fun w12 hk12=>?_)
   have r9:=(r9.kp0 hk11).kp0 hk12
   repeat (first|apply gst|(apply gsv;rfl;(first|apply o0|apply qmv|apply qas|apply qla|apply qxt)<;>first|rfl|assumption|exact List.not_mem_nil))
   refine SG.ret rfl rfl rfl (vs:=[bdv B,.iface 40 (.pointer (some ⟨bb,0,none⟩)),.slice a5 l.length c5,.nilIface]) (Evs.of rfl) (lM w12 B _ _ _) (fun w13 hk13=>?_)
   clear r9
   repeat (first|apply gst|(apply gsv;rfl;(first|apply qmv|apply qas|apply qxt)<;>rfl))
   refine SG.val rfl rfl rfl rfl (ar rfl bzd) ?_
   refine SG.val rfl rfl rfl rfl (ar rfl bzd) ?_
   refine SG.ret rfl rfl rfl (vs:=[.pointer none,dv zd,dv zd,.slice none 0 0]) (Evs.of rfl) (gy w13 zd zd) (fun w14 hk14=>?_)
   repeat (apply gsv;rfl;(first|apply qmv|apply qxt)<;>rfl)
   refine SG.alloc rfl rfl rfl (fun b24 w15 hk15 hb24 hB24=>?_)
   refine SG.aB (l:=bkc bm0) rfl rfl (ag rfl) (ag rfl) hB24 (aD _) rfl (dD _) (fun w16 hk16 hB24=>?_)
   repeat (first|apply gst|(apply gsv;rfl;(first|apply qmv|apply qas)<;>rfl))
   refine SG.val rfl rfl rfl rfl (ar rfl bzd) ?_
   refine SG.ret rfl rfl rfl (vs:=[.pointer none,dv zd]) (Evs.of rfl) (gF w16 zd) (fun w17 hk17=>?_)
   repeat (apply gsv;rfl;(first|apply qmv|apply qxt)<;>rfl)
   refine SG.alloc rfl rfl rfl (fun b26 w18 hk18 hb26 hB26=>?_)
   refine SG.aB (l:=dnc (0,0)) rfl rfl (ag rfl) (ag rfl) hB26 rfl rfl rfl (fun w19 hk19 hB26=>?_)
   repeat (first|apply gst|(apply gsv;rfl;(first|apply qmv|apply qas)<;>rfl))
   refine SG.val rfl rfl rfl rfl (ar rfl bzd) ?_
   refine SG.ret rfl rfl rfl (vs:=[.pointer none,dv zd]) (Evs.of rfl) (ff w19 zd) (fun w20 hk20=>?_)
   repeat (first|apply gst|(apply gsv;rfl;(first|apply qmv|apply qas|apply qpk|apply qei|apply qxt)<;>first|rfl|(apply dct;first|assumption|omega)))
   refine SG.val rfl rfl rfl rfl (ar rfl zC) ?_
   refine SG.ret rfl rfl rfl (vs:=[.pointer none,txv tm0]) (Evs.of rfl) (dZ w20) (fun w21 hk21=>?_)
   repeat (apply gsv;rfl;(first|apply qmv|apply qpk|apply qei)<;>first|rfl|(apply dct;first|assumption|omega))
   refine SG.val rfl rfl rfl rfl (ar rfl A5) ?_
   refine SG.ret rfl rfl rfl (vs:=[.pointer none,bkv bm0]) (Evs.of rfl) (iX w21) (fun w22 hk22=>?_)
   repeat (apply gsv;rfl;(first|apply qmv|apply qpk|apply qei|apply qnt)<;>first|rfl|(apply dct;first|assumption|omega))
   refine SG.ret rfl rfl rfl (vs:=[.pointer none]) (Evs.of rfl) (ej w22) (fun w23 hk23=>?_)
   repeat (apply gsv;rfl;(first|apply qmv|apply qpk|apply qei)<;>first|rfl|(apply dct;first|assumption|omega))
   refine SG.ret rfl rfl rfl (vs:=[.pointer none]) (Evs.of rfl) (fg w23) (fun w24 hk24=>?_)
   repeat (apply gsv;rfl;(first|apply qep|apply qmv|apply qpk)<;>rfl)
   refine SG.ret rfl rfl rfl (vs:=[.pointer none]) (Evs.of rfl) (iW w24) (fun w25 hk25=>?_)
   repeat (apply gsv;rfl;first|apply zw<;>rfl|((first|apply qmv|apply qpk)<;>rfl))
   refine SG.ret rfl rfl rfl (vs:=[.pointer none,.int .i64 0]) (Evs.of rfl) (fi w25 0) (fun w26 hk26=>?_)
   repeat (apply gsv;rfl;(first|apply qmv|apply qpk|apply qnt)<;>rfl)
   refine SG.ret rfl rfl rfl (vs:=[.pointer none]) (Evs.of rfl) (fe w26) (fun w27 hk27=>?_)
   repeat (apply gsv;rfl;(first|apply qmv|apply qpk|apply qei|apply qln)<;>first|rfl|(apply dct;first|assumption|omega))
   refine SG.ret rfl rfl rfl (vs:=[.pointer none]) (Evs.of rfl) (gx w27) (fun w28 hk28=>?_)
   repeat (apply gsv;rfl;(first|apply qmv|apply qpk|apply qei|apply qln)<;>first|rfl|(apply dct;first|assumption|omega))
   refine SG.ret rfl rfl rfl (vs:=[.pointer none]) (Evs.of rfl) (gD w28) (fun w29 hk29=>?_)
   repeat (apply gsv;rfl;(first|apply qmv|apply qpk|apply qei|apply qln)<;>first|rfl|(apply dct;first|assumption|omega))
   refine SG.ret rfl rfl rfl (vs:=[.pointer none]) (Evs.of rfl) (fj w29) (fun w30 hk30=>?_)
   repeat (apply gsv;rfl;(first|apply qep|apply qmv|apply qpk)<;>rfl)
   refine SG.ret rfl rfl rfl (vs:=[.pointer none,.pointer none]) (Evs.of rfl) (iV w30) (fun w31 hk31=>?_)
   repeat (first|apply gst|(apply gsv;rfl;(first|apply qep|apply qmv|apply qas|apply qpk)<;>rfl)|refine SG.skip rfl rfl ?_)
   refine aN (Or.inl rfl) Tryz.results8 (aw.tmp rfl) ?_
   exact⟨rfl,((((((((((((((((((((k5.trans k510).trans hk11).trans hk12).trans hk13).trans hk14).trans (hk15.ai hk16 (aV hb24))).trans hk17).trans (hk18.ai hk19 (aV hb26))).trans hk20).trans hk21).trans hk22).trans hk23).trans hk24).trans hk25).trans hk26).trans hk27).trans hk28).trans hk29).trans hk30).trans hk31)⟩
  ·subst h1 h3
   repeat (first|apply gst|(apply gsv;rfl;(first|apply qmv|apply qas|apply qpk|apply qei|apply qgt)<;>first|rfl|(apply dct;first|assumption|omega)))
   refine gct rfl ?_
   repeat (first|apply gst|(apply gsv;rfl;(first|apply qmv|apply qas|apply qei)<;>first|rfl|(apply dcf;first|assumption|omega)))
   refine gcf rfl ?_
   repeat (first|apply gst|(apply gsv;rfl;(first|apply qnp|apply qmv|apply qpk|apply qei|apply qni|apply qnb)<;>first|rfl|(apply dct;first|assumption|omega)|(apply dcf;first|assumption|omega)))
   refine gcf rfl ?_
   repeat (first|apply gst|(apply gsv;rfl;(first|apply qmv|apply qla)<;>first|rfl|assumption|exact List.not_mem_nil))
   refine SG.val rfl rfl rfl rfl (ar rfl zD) ?_
   refine SG.box rfl rfl rfl (ag rfl) (fun b92 w11 hk11 hb92 hB92=>?_)
   repeat (apply gsv;rfl;apply o0<;>rfl)
   refine SG.ret rfl rfl rfl (vs:=[bdv B,.nilIface,.slice a5 l.length c5,.iface 74 (.pointer (some ⟨b92,0,none⟩))]) (Evs.of rfl) (lL w11 B _ _ _) (fun w12 hk12=>?_)
   have r9:=(r9.kp0 hk11).kp0 hk12
   repeat (first|apply gst|(apply gsv;rfl;(first|apply o0|apply qmv|apply qas|apply qla|apply qxt)<;>first|rfl|assumption|exact List.not_mem_nil))
   refine SG.ret rfl rfl rfl (vs:=[bdv B,.iface 40 (.pointer (some ⟨bb,0,none⟩)),.slice a5 l.length c5,.nilIface]) (Evs.of rfl) (lM w12 B _ _ _) (fun w13 hk13=>?_)
   clear r9
   repeat (first|apply gst|(apply gsv;rfl;(first|apply qmv|apply qas|apply qxt)<;>rfl))
   refine SG.val rfl rfl rfl rfl (ar rfl bzd) ?_
   refine SG.val rfl rfl rfl rfl (ar rfl bzd) ?_
   refine SG.ret rfl rfl rfl (vs:=[.pointer none,dv zd,dv zd,.slice none 0 0]) (Evs.of rfl) (gy w13 zd zd) (fun w14 hk14=>?_)
   repeat (apply gsv;rfl;(first|apply qmv|apply qxt)<;>rfl)
   refine SG.alloc rfl rfl rfl (fun b24 w15 hk15 hb24 hB24=>?_)
   refine SG.aB (l:=bkc bm0) rfl rfl (ag rfl) (ag rfl) hB24 (aD _) rfl (dD _) (fun w16 hk16 hB24=>?_)
   repeat (first|apply gst|(apply gsv;rfl;(first|apply qmv|apply qas)<;>rfl))
   refine SG.val rfl rfl rfl rfl (ar rfl bzd) ?_
   refine SG.ret rfl rfl rfl (vs:=[.pointer none,dv zd]) (Evs.of rfl) (gF w16 zd) (fun w17 hk17=>?_)
   repeat (apply gsv;rfl;(first|apply qmv|apply qxt)<;>rfl)
   refine SG.alloc rfl rfl rfl (fun b26 w18 hk18 hb26 hB26=>?_)
   refine SG.aB (l:=dnc (0,0)) rfl rfl (ag rfl) (ag rfl) hB26 rfl rfl rfl (fun w19 hk19 hB26=>?_)
   repeat (first|apply gst|(apply gsv;rfl;(first|apply qmv|apply qas)<;>rfl))
   refine SG.val rfl rfl rfl rfl (ar rfl bzd) ?_
   refine SG.ret rfl rfl rfl (vs:=[.pointer none,dv zd]) (Evs.of rfl) (ff w19 zd) (fun w20 hk20=>?_)
   repeat (first|apply gst|(apply gsv;rfl;(first|apply qmv|apply qas|apply qpk|apply qei|apply qxt)<;>first|rfl|(apply dct;first|assumption|omega)))
   refine SG.val rfl rfl rfl rfl (ar rfl zC) ?_
   refine SG.ret rfl rfl rfl (vs:=[.pointer none,txv tm0]) (Evs.of rfl) (dZ w20) (fun w21 hk21=>?_)
   repeat (apply gsv;rfl;(first|apply qmv|apply qpk|apply qei)<;>first|rfl|(apply dct;first|assumption|omega))
   refine SG.val rfl rfl rfl rfl (ar rfl A5) ?_
   refine SG.ret rfl rfl rfl (vs:=[.pointer none,bkv bm0]) (Evs.of rfl) (iX w21) (fun w22 hk22=>?_)
   repeat (apply gsv;rfl;(first|apply qmv|apply qpk|apply qei|apply qnt)<;>first|rfl|(apply dct;first|assumption|omega))
   refine SG.ret rfl rfl rfl (vs:=[.pointer none]) (Evs.of rfl) (ej w22) (fun w23 hk23=>?_)
   repeat (apply gsv;rfl;(first|apply qmv|apply qpk|apply qei)<;>first|rfl|(apply dct;first|assumption|omega))
   refine SG.ret rfl rfl rfl (vs:=[.pointer none]) (Evs.of rfl) (fg w23) (fun w24 hk24=>?_)
   repeat (apply gsv;rfl;(first|apply qep|apply qmv|apply qpk)<;>rfl)
   refine SG.ret rfl rfl rfl (vs:=[.pointer none]) (Evs.of rfl) (iW w24) (fun w25 hk25=>?_)
   repeat (apply gsv;rfl;first|apply zw<;>rfl|((first|apply qmv|apply qpk)<;>rfl))
   refine SG.ret rfl rfl rfl (vs:=[.pointer none,.int .i64 0]) (Evs.of rfl) (fi w25 0) (fun w26 hk26=>?_)
   repeat (apply gsv;rfl;(first|apply qmv|apply qpk|apply qnt)<;>rfl)
   refine SG.ret rfl rfl rfl (vs:=[.pointer none]) (Evs.of rfl) (fe w26) (fun w27 hk27=>?_)
   repeat (apply gsv;rfl;(first|apply qmv|apply qpk|apply qei|apply qln)<;>first|rfl|(apply dct;first|assumption|omega))
   refine SG.ret rfl rfl rfl (vs:=[.pointer none]) (Evs.of rfl) (gx w27) (fun w28 hk28=>?_)
   repeat (apply gsv;rfl;(first|apply qmv|apply qpk|apply qei|apply qln)<;>first|rfl|(apply dct;first|assumption|omega))
   refine SG.ret rfl rfl rfl (vs:=[.pointer none]) (Evs.of rfl) (gD w28) (fun w29 hk29=>?_)
   repeat (apply gsv;rfl;(first|apply qmv|apply qpk|apply qei|apply qln)<;>first|rfl|(apply dct;first|assumption|omega))
   refine SG.ret rfl rfl rfl (vs:=[.pointer none]) (Evs.of rfl) (fj w29) (fun w30 hk30=>?_)
   repeat (apply gsv;rfl;(first|apply qep|apply qmv|apply qpk)<;>rfl)
   refine SG.ret rfl rfl rfl (vs:=[.pointer none,.pointer none]) (Evs.of rfl) (iV w30) (fun w31 hk31=>?_)
   repeat (first|apply gst|(apply gsv;rfl;(first|apply qep|apply qmv|apply qas|apply qpk)<;>rfl)|refine SG.skip rfl rfl ?_)
   refine aN (Or.inl rfl) Tryz.results8 (aw.tmp rfl) ?_
   exact⟨rfl,((((((((((((((((((((k5.trans k510).trans hk11).trans hk12).trans hk13).trans hk14).trans (hk15.ai hk16 (aV hb24))).trans hk17).trans (hk18.ai hk19 (aV hb26))).trans hk20).trans hk21).trans hk22).trans hk23).trans hk24).trans hk25).trans hk26).trans hk27).trans hk28).trans hk29).trans hk30).trans hk31)⟩
  ·subst h1 h3
   repeat (first|apply gst|(apply gsv;rfl;(first|apply qmv|apply qas|apply qpk|apply qei|apply qgt)<;>first|rfl|(apply dct;first|assumption|omega)|(apply dcf;first|assumption|omega)))
   refine gcf rfl ?_
   repeat (first|apply gst|(apply gsv;rfl;(first|apply qmv|apply qei)<;>first|rfl|(apply dct;first|assumption|omega)))
   refine gct rfl ?_
   repeat (first|apply gst|(apply gsv;rfl;(first|apply qnp|apply qmv|apply qas|apply qpk|apply qei|apply qni|apply qnb)<;>first|rfl|(apply dct;first|assumption|omega)|(apply dcf;first|assumption|omega)))
   refine gcf rfl ?_
   repeat (first|apply gst|(apply gsv;rfl;(first|apply qmv|apply qla)<;>first|rfl|assumption|exact List.not_mem_nil))
   refine SG.val rfl rfl rfl rfl (ar rfl zD) ?_
   refine SG.box rfl rfl rfl (ag rfl) (fun b92 w11 hk11 hb92 hB92=>?_)
   repeat (apply gsv;rfl;apply o0<;>rfl)
   refine SG.ret rfl rfl rfl (vs:=[bdv B,.nilIface,.slice a5 l.length c5,.iface 74 (.pointer (some ⟨b92,0,none⟩))]) (Evs.of rfl) (lL w11 B _ _ _) (fun w12 hk12=>?_)
   have r9:=(r9.kp0 hk11).kp0 hk12
   repeat (first|apply gst|(apply gsv;rfl;(first|apply o0|apply qmv|apply qas|apply qla|apply qxt)<;>first|rfl|assumption|exact List.not_mem_nil))
   refine SG.ret rfl rfl rfl (vs:=[bdv B,.iface 40 (.pointer (some ⟨bb,0,none⟩)),.slice a5 l.length c5,.nilIface]) (Evs.of rfl) (lM w12 B _ _ _) (fun w13 hk13=>?_)
   clear r9
   repeat (first|apply gst|(apply gsv;rfl;(first|apply qmv|apply qas|apply qxt)<;>rfl))
   refine SG.val rfl rfl rfl rfl (ar rfl bzd) ?_
   refine SG.val rfl rfl rfl rfl (ar rfl bzd) ?_
   refine SG.ret rfl rfl rfl (vs:=[.pointer none,dv zd,dv zd,.slice none 0 0]) (Evs.of rfl) (gy w13 zd zd) (fun w14 hk14=>?_)
   repeat (apply gsv;rfl;(first|apply qmv|apply qxt)<;>rfl)
   refine SG.alloc rfl rfl rfl (fun b24 w15 hk15 hb24 hB24=>?_)
   refine SG.aB (l:=bkc bm0) rfl rfl (ag rfl) (ag rfl) hB24 (aD _) rfl (dD _) (fun w16 hk16 hB24=>?_)
   repeat (first|apply gst|(apply gsv;rfl;(first|apply qmv|apply qas)<;>rfl))
   refine SG.val rfl rfl rfl rfl (ar rfl bzd) ?_
   refine SG.ret rfl rfl rfl (vs:=[.pointer none,dv zd]) (Evs.of rfl) (gF w16 zd) (fun w17 hk17=>?_)
   repeat (apply gsv;rfl;(first|apply qmv|apply qxt)<;>rfl)
   refine SG.alloc rfl rfl rfl (fun b26 w18 hk18 hb26 hB26=>?_)
   refine SG.aB (l:=dnc (0,0)) rfl rfl (ag rfl) (ag rfl) hB26 rfl rfl rfl (fun w19 hk19 hB26=>?_)
   repeat (first|apply gst|(apply gsv;rfl;(first|apply qmv|apply qas)<;>rfl))
   refine SG.val rfl rfl rfl rfl (ar rfl bzd) ?_
   refine SG.ret rfl rfl rfl (vs:=[.pointer none,dv zd]) (Evs.of rfl) (ff w19 zd) (fun w20 hk20=>?_)
   repeat (first|apply gst|(apply gsv;rfl;(first|apply qmv|apply qas|apply qpk|apply qei|apply qxt)<;>first|rfl|(apply dct;first|assumption|omega)))
   refine SG.val rfl rfl rfl rfl (ar rfl zC) ?_
   refine SG.ret rfl rfl rfl (vs:=[.pointer none,txv tm0]) (Evs.of rfl) (dZ w20) (fun w21 hk21=>?_)
   repeat (apply gsv;rfl;(first|apply qmv|apply qpk|apply qei)<;>first|rfl|(apply dct;first|assumption|omega))
   refine SG.val rfl rfl rfl rfl (ar rfl A5) ?_
   refine SG.ret rfl rfl rfl (vs:=[.pointer none,bkv bm0]) (Evs.of rfl) (iX w21) (fun w22 hk22=>?_)
   repeat (apply gsv;rfl;(first|apply qmv|apply qpk|apply qei|apply qnt)<;>first|rfl|(apply dct;first|assumption|omega))
   refine SG.ret rfl rfl rfl (vs:=[.pointer none]) (Evs.of rfl) (ej w22) (fun w23 hk23=>?_)
   repeat (apply gsv;rfl;(first|apply qmv|apply qpk|apply qei)<;>first|rfl|(apply dct;first|assumption|omega))
   refine SG.ret rfl rfl rfl (vs:=[.pointer none]) (Evs.of rfl) (fg w23) (fun w24 hk24=>?_)
   repeat (apply gsv;rfl;(first|apply qep|apply qmv|apply qpk)<;>rfl)
   refine SG.ret rfl rfl rfl (vs:=[.pointer none]) (Evs.of rfl) (iW w24) (fun w25 hk25=>?_)
   repeat (apply gsv;rfl;first|apply zw<;>rfl|((first|apply qmv|apply qpk)<;>rfl))
   refine SG.ret rfl rfl rfl (vs:=[.pointer none,.int .i64 0]) (Evs.of rfl) (fi w25 0) (fun w26 hk26=>?_)
   repeat (apply gsv;rfl;(first|apply qmv|apply qpk|apply qnt)<;>rfl)
   refine SG.ret rfl rfl rfl (vs:=[.pointer none]) (Evs.of rfl) (fe w26) (fun w27 hk27=>?_)
   repeat (apply gsv;rfl;(first|apply qmv|apply qpk|apply qei|apply qln)<;>first|rfl|(apply dct;first|assumption|omega))
   refine SG.ret rfl rfl rfl (vs:=[.pointer none]) (Evs.of rfl) (gx w27) (fun w28 hk28=>?_)
   repeat (apply gsv;rfl;(first|apply qmv|apply qpk|apply qei|apply qln)<;>first|rfl|(apply dct;first|assumption|omega))
   refine SG.ret rfl rfl rfl (vs:=[.pointer none]) (Evs.of rfl) (gD w28) (fun w29 hk29=>?_)
   repeat (apply gsv;rfl;(first|apply qmv|apply qpk|apply qei|apply qln)<;>first|rfl|(apply dct;first|assumption|omega))
   refine SG.ret rfl rfl rfl (vs:=[.pointer none]) (Evs.of rfl) (fj w29) (fun w30 hk30=>?_)
   repeat (apply gsv;rfl;(first|apply qep|apply qmv|apply qpk)<;>rfl)
   refine SG.ret rfl rfl rfl (vs:=[.pointer none,.pointer none]) (Evs.of rfl) (iV w30) (fun w31 hk31=>?_)
   repeat (first|apply gst|(apply gsv;rfl;(first|apply qep|apply qmv|apply qas|apply qpk)<;>rfl)|refine SG.skip rfl rfl ?_)
   refine aN (Or.inl rfl) Tryz.results8 (aw.tmp rfl) ?_
   exact⟨rfl,((((((((((((((((((((k5.trans k510).trans hk11).trans hk12).trans hk13).trans hk14).trans (hk15.ai hk16 (aV hb24))).trans hk17).trans (hk18.ai hk19 (aV hb26))).trans hk20).trans hk21).trans hk22).trans hk23).trans hk24).trans hk25).trans hk26).trans hk27).trans hk28).trans hk29).trans hk30).trans hk31)⟩
 ·rcases key with⟨h1,h2⟩|⟨h1,h2,h3⟩|⟨h1,h2,h3⟩
  ·exact absurd (h2.symm.trans hz0) h1
  ·rw[h3] at hz0
   cases hz0
  ·subst h1 h3 hz0
   repeat (first|apply gst|(apply gsv;rfl;(first|apply qmv|apply qas|apply qpk|apply qei|apply qgt)<;>first|rfl|(apply dct;first|assumption|omega)|(apply dcf;first|assumption|omega)))
   refine gcf rfl ?_
   repeat (first|apply gst|(apply gsv;rfl;(first|apply qmv|apply qei)<;>first|rfl|(apply dct;first|assumption|omega)))
   refine gct rfl ?_
   repeat (first|apply gst|(apply gsv;rfl;(first|apply qnp|apply qmv|apply qas|apply qpk|apply qei|apply qni|apply qnb)<;>first|rfl|(apply dct;first|assumption|omega)))
   refine gcf rfl ?_
   repeat (first|apply gst|(apply gsv;rfl;(first|apply qmv|apply qla)<;>first|rfl|assumption|exact List.not_mem_nil))
   refine SG.val rfl rfl rfl rfl (ar rfl zD) ?_
   refine SG.box rfl rfl rfl (ag rfl) (fun b92 w11 hk11 hb92 hB92=>?_)
   repeat (apply gsv;rfl;apply o0<;>rfl)
   refine SG.ret rfl rfl rfl (vs:=[bdv B,.nilIface,.slice a5 l.length c5,.iface 74 (.pointer (some ⟨b92,0,none⟩))]) (Evs.of rfl) (lL w11 B _ _ _) (fun w12 hk12=>?_)
   have r9:=(r9.kp0 hk11).kp0 hk12
   repeat (first|apply gst|(apply gsv;rfl;(first|apply o0|apply qmv|apply qas|apply qla|apply qxt)<;>first|rfl|assumption|exact List.not_mem_nil))
   refine SG.ret rfl rfl rfl (vs:=[bdv B,.iface 40 (.pointer (some ⟨bb,0,none⟩)),.slice a5 l.length c5,.nilIface]) (Evs.of rfl) (lM w12 B _ _ _) (fun w13 hk13=>?_)
   clear r9
   repeat (first|apply gst|(apply gsv;rfl;(first|apply qmv|apply qas|apply qxt)<;>rfl))
   refine SG.val rfl rfl rfl rfl (ar rfl bzd) ?_
   refine SG.val rfl rfl rfl rfl (ar rfl bzd) ?_
   refine SG.ret rfl rfl rfl (vs:=[.pointer none,dv zd,dv zd,.slice none 0 0]) (Evs.of rfl) (gy w13 zd zd) (fun w14 hk14=>?_)
   repeat (apply gsv;rfl;(first|apply qmv|apply qxt)<;>rfl)
   refine SG.alloc rfl rfl rfl (fun b24 w15 hk15 hb24 hB24=>?_)
   refine SG.aB (l:=bkc bm0) rfl rfl (ag rfl) (ag rfl) hB24 (aD _) rfl (dD _) (fun w16 hk16 hB24=>?_)
   repeat (first|apply gst|(apply gsv;rfl;(first|apply qmv|apply qas)<;>rfl))
   refine SG.val rfl rfl rfl rfl (ar rfl bzd) ?_
   refine SG.ret rfl rfl rfl (vs:=[.pointer none,dv zd]) (Evs.of rfl) (gF w16 zd) (fun w17 hk17=>?_)
   repeat (apply gsv;rfl;(first|apply qmv|apply qxt)<;>rfl)
   refine SG.alloc rfl rfl rfl (fun b26 w18 hk18 hb26 hB26=>?_)
   refine SG.aB (l:=dnc (0,0)) rfl rfl (ag rfl) (ag rfl) hB26 rfl rfl rfl (fun w19 hk19 hB26=>?_)
   repeat (first|apply gst|(apply gsv;rfl;(first|apply qmv|apply qas)<;>rfl))
   refine SG.val rfl rfl rfl rfl (ar rfl bzd) ?_
   refine SG.ret rfl rfl rfl (vs:=[.pointer none,dv zd]) (Evs.of rfl) (ff w19 zd) (fun w20 hk20=>?_)
   repeat (first|apply gst|(apply gsv;rfl;(first|apply qmv|apply qas|apply qpk|apply qei|apply qxt)<;>first|rfl|(apply dct;first|assumption|omega)))
   refine SG.val rfl rfl rfl rfl (ar rfl zC) ?_
   refine SG.ret rfl rfl rfl (vs:=[.pointer none,txv tm0]) (Evs.of rfl) (dZ w20) (fun w21 hk21=>?_)
   repeat (apply gsv;rfl;(first|apply qmv|apply qpk|apply qei)<;>first|rfl|(apply dct;first|assumption|omega))
   refine SG.val rfl rfl rfl rfl (ar rfl A5) ?_
   refine SG.ret rfl rfl rfl (vs:=[.pointer none,bkv bm0]) (Evs.of rfl) (iX w21) (fun w22 hk22=>?_)
   repeat (apply gsv;rfl;(first|apply qmv|apply qpk|apply qei|apply qnt)<;>first|rfl|(apply dct;first|assumption|omega))
   refine SG.ret rfl rfl rfl (vs:=[.pointer none]) (Evs.of rfl) (ej w22) (fun w23 hk23=>?_)
   repeat (apply gsv;rfl;(first|apply qmv|apply qpk|apply qei)<;>first|rfl|(apply dct;first|assumption|omega))
   refine SG.ret rfl rfl rfl (vs:=[.pointer none]) (Evs.of rfl) (fg w23) (fun w24 hk24=>?_)
   repeat (apply gsv;rfl;(first|apply qep|apply qmv|apply qpk)<;>rfl)
   refine SG.ret rfl rfl rfl (vs:=[.pointer none]) (Evs.of rfl) (iW w24) (fun w25 hk25=>?_)
   repeat (apply gsv;rfl;first|apply zw<;>rfl|((first|apply qmv|apply qpk)<;>rfl))
   refine SG.ret rfl rfl rfl (vs:=[.pointer none,.int .i64 0]) (Evs.of rfl) (fi w25 0) (fun w26 hk26=>?_)
   repeat (apply gsv;rfl;(first|apply qmv|apply qpk|apply qnt)<;>rfl)
   refine SG.ret rfl rfl rfl (vs:=[.pointer none]) (Evs.of rfl) (fe w26) (fun w27 hk27=>?_)
   repeat (apply gsv;rfl;(first|apply qmv|apply qpk|apply qei|apply qln)<;>first|rfl|(apply dct;first|assumption|omega))
   refine SG.ret rfl rfl rfl (vs:=[.pointer none]) (Evs.of rfl) (gx w27) (fun w28 hk28=>?_)
   repeat (apply gsv;rfl;(first|apply qmv|apply qpk|apply qei|apply qln)<;>first|rfl|(apply dct;first|assumption|omega))
   refine SG.ret rfl rfl rfl (vs:=[.pointer none]) (Evs.of rfl) (gD w28) (fun w29 hk29=>?_)
   repeat (apply gsv;rfl;(first|apply qmv|apply qpk|apply qei|apply qln)<;>first|rfl|(apply dct;first|assumption|omega))
   refine SG.ret rfl rfl rfl (vs:=[.pointer none]) (Evs.of rfl) (fj w29) (fun w30 hk30=>?_)
   repeat (apply gsv;rfl;(first|apply qep|apply qmv|apply qpk)<;>rfl)
   refine SG.ret rfl rfl rfl (vs:=[.pointer none,.pointer none]) (Evs.of rfl) (iV w30) (fun w31 hk31=>?_)
   repeat (apply gsv;rfl;(first|apply qep|apply qmv|apply qpk)<;>rfl)
   refine SG.ret rfl rfl rfl (vs:=[.pointer none,.pointer (some ⟨cb,0,none⟩)]) (Evs.of rfl) (wC w31 cb) (fun w32 hk32=>?_)
   repeat (first|apply gst|(apply gsv;rfl;(first|apply qas|apply qpk|apply qnt)<;>rfl))
   refine aN (Or.inl rfl) Tryz.results8 (aw.tmp rfl) ?_
   exact⟨rfl,(((((((((((((((((((((k5.trans k510).trans hk11).trans hk12).trans hk13).trans hk14).trans (hk15.ai hk16 (aV hb24))).trans hk17).trans (hk18.ai hk19 (aV hb26))).trans hk20).trans hk21).trans hk22).trans hk23).trans hk24).trans hk25).trans hk26).trans hk27).trans hk28).trans hk29).trans hk30).trans hk31).trans hk32)⟩
end
section
open Go.ChangeShapes Go.WideShapes Go.ChangeAt Go.RowKit
def BC:Value:= .agg #[.int .i64 0,.int .i64 0,.int .i64 0,.int .i64 0]
theorem yY:Tryz.prog.cellsOf 83=4:=by kernel_rfl
set_option maxRecDepth 100000 in
theorem BF{H:Type}{enc:TypeId×Value→H}{w:World}{v:Value}{d:DataW H}{ps:List MemPlace}{b0:Nat}(hval:Value.okWide Tryz.prog w .any b0 83 v)(h:DataW.Trod enc Tryz.prog w 0 (fun _=>true) true 83 v d ps):∃l:List Int,v=z4v l:=by
 simp only[Value.okWide,Tryz.underlying83] at hval
 obtain⟨xs,rfl,_⟩:=hval
 obtain⟨fuel,hf⟩:=h
 obtain⟨ys,m,_,_,hl,hxl,hat⟩:=DataW.trod_array Tryz.underlying83 hf
 rw[yY] at hl
 have hl:xs.toList.length=4:=hl
 obtain⟨cs,hcs⟩:∃cs,(Value.agg xs).cells.toList=cs:=⟨_,rfl⟩
 have hxs:xs.toList=cs:=hcs
 rw[hxs] at hl
 rw[hcs] at hat
 match cs,hl with
 |[c0,c1,c2,c3],_=>
  have k:∀i (hi:i<4),∃n:Int,[c0,c1,c2,c3][i]?=some (.int .i64 n):=fun i hi=>by
   have h:=hat i hi
   rw[AR] at h
   rw[List.getElem?_eq_getElem (by rw[hxl];exact hi)] at h
   obtain⟨z,e,_,wf⟩:=DataW.trod_int Tryz.underlying3 h
   refine⟨z,?_⟩
   have e:([c0,c1,c2,c3].drop (i*1)).take 1=[.int .i64 z]:=e
   rw[Nat.mul_one] at e
   have e2:(([c0,c1,c2,c3].drop i).take 1)[0]?=some (.int .i64 z):=by rw[e];rfl
   rw[List.getElem?_take,if_pos (by omega),List.getElem?_drop,Nat.add_zero] at e2
   exact e2
  obtain⟨n0,e0⟩:=k 0 (by omega)
  obtain⟨n1,e1⟩:=k 1 (by omega)
  obtain⟨n2,e2⟩:=k 2 (by omega)
  obtain⟨n3,e3⟩:=k 3 (by omega)
  refine⟨[n0,n1,n2,n3],?_⟩
  obtain rfl:c0= .int .i64 n0:=Option.some.inj e0
  obtain rfl:c1= .int .i64 n1:=Option.some.inj e1
  obtain rfl:c2= .int .i64 n2:=Option.some.inj e2
  obtain rfl:c3= .int .i64 n3:=Option.some.inj e3
  have e:xs=(z4c [n0,n1,n2,n3]).toArray:=Array.toList_inj.1 (by rw[hxs];rfl)
  rw[e]
  rfl
theorem vU(os:Os):laidMet Tryz.prog Rows.chainNoneRow.laid ((jA os).forCall (fun _ _=>0) ⟨#[],#[.int .i64 0,.int .i64 0,.int .i64 0,BC],[]⟩).memory:=
 laidMet_of_run' 8 (by kernel_rfl) (by kernel_rfl)
theorem reads(os:Os){H:Type}(enc:TypeId×Value→H):∃places,DataW.whole enc Tryz.prog ((jA os).forCall (fun _ _=>0) ⟨#[],#[.int .i64 0,.int .i64 0,.int .i64 0,BC],[]⟩).memory Tryz.f8.params.toList Rows.chainNoneSpec.vars false #[.int .i64 0,.int .i64 0,.int .i64 0,BC].toList 8=some ([.lit (.int .i64 0),.lit (.int .i64 0),.lit (.int .i64 0),.agg [.lit (.int .i64 0),.lit (.int .i64 0),.lit (.int .i64 0),.lit (.int .i64 0)]],[],places):=
 ⟨[],by kernel_rfl⟩
set_option maxRecDepth 100000 in
theorem iL(os:Os)(started:os.Started)(H:Type)(enc:TypeId×Value→H)(F:Stop.Interp):
  ReturnsInHanded {} Tryz.checked os 8 .any ((OpenSpec.ofChange Rows.chainNoneSpec).preRow enc Tryz.prog Tryz.f8 Rows.chainNoneRow.domain false Rows.chainNoneRow.laid) (((OpenSpec.ofChange Rows.chainNoneSpec).at F).post enc Tryz.prog Tryz.f8 false true false false):=by
 obtain⟨places,hx⟩:=reads os enc
 refine returnsInHanded_of_row (C:=Tryz.checked) (s:=OpenSpec.ofChange Rows.chainNoneSpec) own started (by kernel_rfl) Tryz.func8
  (witness_row_at (enc:=enc) (C:=Tryz.checked) false (jA os) #[.int .i64 0,.int .i64 0,.int .i64 0,BC] rfl (by kernel_rfl) (by kernel_rfl) (by kernel_rfl)
   (OpenSpec.preRow_of_cond 8 hx (by kernel_rfl) (fun k hk=>by cases hk) (by kernel_rfl) (vU os))) ?_
 intro W base args ds gs before hval0 hW0 _ hcond _ _ _ _
 have hval:∀(j:Nat) t v,Tryz.f8.params[j]?=some t→args[j]?=some v→Value.okWide Tryz.prog W .any base t v:=hval0
 have hW':DataW.Whole enc Tryz.prog Tryz.f8.params.toList Rows.chainNoneSpec.vars false W args.toList ds gs before:=hW0
 have hW:=hW'
 obtain⟨p,q,hA0,hV,rfl,hfz,hnd⟩:=hW
 have hA:DataW.TrodAll enc Tryz.prog W 0 (fun _=>true) true Tryz.f8.params.toList args.toList ds p:=hA0
 rw[Tryz.params8] at hA hval
 obtain⟨v0,v1,v2,v3,d0,d1,d2,d3,p0,p1,p2,p3,rfl,rfl,rfl,h0,h1,h2,h3⟩:=trodAll_four hA
 obtain⟨x0,rfl,hd0,_,wf0⟩:=open_int Tryz.underlying3 (hval 0 3 v0 rfl rfl) h0
 obtain⟨x1,rfl,hd1,_,wf1⟩:=open_int Tryz.underlying3 (hval 1 3 v1 rfl rfl) h1
 obtain⟨x2,rfl,hd2,_,wf2⟩:=open_int Tryz.underlying3 (hval 2 3 v2 rfl rfl) h2
 obtain⟨m4,rfl⟩:=BF (hval 3 83 v3 rfl rfl) h3
 refine(sI W x0 x1 x2 m4).mono fun e W' ⟨he,hk⟩=>⟨_,he,?_⟩
 exact vT laidOut (by rw[Tryz.params8];exact of_decide_eq_true (by kernel_rfl)) rfl hW' rfl (by kernel_rfl) Tryz.underlying4 hk
theorem j8:Rows.ChainNoneSaid:=
 OpenClaim.holds_of_cond 8 Tryz.f8 rfl rfl rfl rfl rfl rfl rfl ⟨rfl,rfl,rfl,rfl,rfl⟩ rfl rfl rfl rfl rfl (by kernel_rfl) Tryz.func8 (by kernel_rfl)
  (of_decide_eq_true (by kernel_rfl)) (by unfold Func.isWrapper;first|(rw[if_pos (by decide+kernel)];kernel_rfl)|(rw[if_neg (by decide+kernel)];exact⟨rfl,rfl⟩))
  (fun os started H enc _ F=>by rw[OpenClaim.pre_eq_preRow];exact iL os started H enc F)
theorem jK(f:FuncId)(fn:Func)(hf:Tryz.pinned.checked.prog.funcNamed "baize/baizelaw30.ChainNone"=some f)(hfn:Tryz.pinned.checked.prog.funcs[f]?=some fn):
  true=Tryz.pinned.checked.prog.looks []∧∀(j:Nat) t,fn.params[j]?=some t→Tryz.pinned.checked.prog.wantsStandIn t=false:=by
 obtain rfl:f=8:=Option.some.inj ((show Tryz.prog.funcNamed "baize/baizelaw30.ChainNone"=some 8 by kernel_rfl).symm.trans hf)|>.symm
 obtain rfl:fn=Tryz.f8:=(Option.some.inj (Tryz.func8.symm.trans hfn)).symm
 refine⟨by kernel_rfl,fun j t ht=>?_⟩
 rw[Tryz.params8] at ht
 have ht:=Array.mem_of_getElem? ht
 simp only[List.mem_toArray,List.mem_cons,List.mem_nil_iff,or_false] at ht
 rcases ht with rfl|rfl|rfl|rfl
 ·exact(show Tryz.prog.wantsStandIn 3=false by kernel_rfl)
 ·exact(show Tryz.prog.wantsStandIn 3=false by kernel_rfl)
 ·exact(show Tryz.prog.wantsStandIn 3=false by kernel_rfl)
 ·exact(show Tryz.prog.wantsStandIn 83=false by kernel_rfl)
theorem chainNone_holds:Rows.ChainNoneCardSaid:=
 Claim7.holds_tied_plain_at .later [] _ _ _ _ j8 (fun _ h=>by cases h) (by kernel_rfl) (fun _ h=>by cases h) chainNone_row_tie rfl ⟨rfl,rfl⟩ (by kernel_rfl) rfl jK (by kernel_rfl)
end
end Go.Proofs.YtpnjgjddabeapaaGreatDoor
