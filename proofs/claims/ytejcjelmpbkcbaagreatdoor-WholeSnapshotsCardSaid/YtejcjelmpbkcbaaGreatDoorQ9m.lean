import Derived.Test.YtejcjelmpbkcbaaGreatDoorQ9l
import Derived.Conc.MuData
import Derived.Conc.MuLone
import Derived.Conc.RwLib
import Derived.OrdersIn
set_option linter.all false
set_option maxHeartbeats 1000000
namespace Sl
open Go Go.RowKit
variable {E:Env}{n:Nat}{L L':Fr}{S H H':List HP}{Q:Exit→Act→World→Prop}{ds:List Deferred}
def i_cond_b {ro:Option Nat}{c:Operand}{x y:Code}{b:Bool}(hc:ev L c=some (.bool b))(h1:b=true→WI E ro ds x Q n L H)(h2:b=false→WI E ro ds y Q n L H):WI E ro ds (.cond c x y) Q n L H:=fun a w g=>
 wpIn_cond_split (by rw[qB];exact g.f.ev hc) (fun h=>h1 h a w g) (fun h=>h2 h a w g)
def op_put {P:Program}{ops:Array Oper}{i:Nat}{o:Oper}{a:Act}{w:World}{K:Act→World→Prop}(ho:ops[i]?=some o)(h:wpOpIn (fen none) 0 P ops Q i K a w):
  wpOpIn (fen none) 0 P ops Q i (fun a' w'=>K a' w'∧∃ds u,a'=({a with defers:=ds}:Act).put o.dst u) a w:=by
 unfold wpOpIn at h ⊢;simp only[ho]at h ⊢;have here:∀u,∃ds v,a.put o.dst u=({a with defers:=ds}:Act).put o.dst v:=fun u=>⟨a.defers,u,rfl⟩
 split
 ·rename_i hw
  simp only[hw,if_true]at h;unfold Oper.wpIn at h ⊢;refine⟨h.1,?_⟩;have h:=h.2;generalize(o.semAt (fen none).round a.eval).run P w=r at h ⊢;cases r with
  |ok x w'=>
   cases x<;>simp only[Oper.uponIn]at h ⊢
   case value u=>exact⟨h,here u⟩
   case skip =>exact⟨h,here _⟩
   case defer d=>exact⟨h,d::a.defers,undef,rfl⟩
   case enter f args=>exact⟨h.1,CallsIn.mono h.2 fun e w'' he=>by cases e<;>first |exact⟨he,here _⟩|exact he⟩
   case row row args=>exact⟨h.1,RowsIn.mono h.2 fun u w'' he=>⟨he,here u⟩⟩
   case round l f tmps assign body=>exact⟨h.1,RoundIn.mono h.2 fun e w'' he=>by cases e<;>first |exact⟨he,here _⟩|exact he⟩
  |halt x w'=>cases x<;>simp only[Oper.uponIn]at h ⊢;exact h
 rename_i hw
 simp only[hw]at h;exact⟨h.1,h.2,here _⟩
def YsI (P:Program)(ops:Array Oper)(S:World→Prop)(o:Oper)(v:Value)(a:Act):Prop:=
 (Region.wanted o (yielded ops a.tmps)=true∧(∀w,S w→(execOp a.eval o).run P w= .ok (.value v) w))∨(Region.wanted o (yielded ops a.tmps)=false∧v=undef)
def YsI.op {P:Program}{ops:Array Oper}{S:World→Prop}{i:Nat}{o:Oper}{v:Value}{a:Act}{w:World}{K:Act→World→Prop}(hi:ops[i]?=some o)(h:YsI P ops S o v a)(hS:S w)(k:K (a.put o.dst v) w):wpOpIn (fen none) 0 P ops Q i K a w:=by
 unfold wpOpIn;simp only[hi];rcases h with⟨hw,hv⟩|⟨hw,rfl⟩
 ·simp only[hw,if_true,Oper.wpIn];refine⟨fun _ _=>trivial,?_⟩;rw[show(fen none).round=none from rfl,Oper.semAt_none,hv w hS];exact k
 simp only[hw];exact⟨fun _ _=>trivial,k⟩
def anyS (P:Program)(ops:Array Oper)(Q:Exit→Act→World→Prop)(S:World→Prop):Nat→Array Bool→Act→World→Prop
 |0,l,a,w=>Region.ready .any ops l=[]∧Q .normal a w
 |k+1,l,a,w=>(Region.ready .any ops l=[]→Q .normal a w)∧∀i∈Region.ready .any ops l,wpOpIn (fen none) 0 P ops Q i (fun a' w'=>S w'∧anyS P ops Q S k (l.setIfInBounds i true) a' w') a w
def qPg {P:Program}{ops:Array Oper}{S:World→Prop}:∀(k:Nat)(l:Array Bool)(a:Act)(w:World),anyS P ops Q S k l a w→wpAnyIn (fen none) 0 P .any ops Q k l a w
 |0,_,_,_,h=>h
 |k+1,_,_,_,h=>⟨h.1,fun i hi=>wpOpIn_mono (fun a' w' h'=>qPg k _ a' w' h'.2) (h.2 i hi)⟩
def qRo {P:Program}{ops:Array Oper}{S:World→Prop}{i:Nat}{oi:Oper}{v:Value}(hi:ops[i]?=some oi)(hsel:∀(j:Nat)(o:Oper)cs b,ops[j]?=some o→o.op≠ .select cs b) (hQ:∀c a w,Q (.panic c) (a.put oi.dst v) w→Q (.panic c) a w):
  ∀(k:Nat)(l:Array Bool)(a:Act)(w:World),(∀j oj,ops[j]?=some oj→j≠i→l.getD j true=false→(∀e∈oj.after,Region.binds .any e=true→e.on≠i)→oi.apart ops oj=true)→i∈Region.ready .any ops l→YsI P ops S oi v a→S w→
   anyS P ops Q S k (l.setIfInBounds i true) (a.put oi.dst v) w→anyS P ops Q S (k+1) l a w:=by
 intro k;induction k with
 |zero=>
  intro l a w _ hr hy hS h
  refine⟨fun e=>(by rw[e]at hr;cases hr),fun j hj=>?_⟩
  by_cases hji:j=i
  ·subst hji
   exact hy.op hi hS ⟨hS,h⟩
  have:=ready_mono hj hji
  rw[h.1]at this
  cases this
 |succ k ih=>
  intro l a w hfree hr hy hS h
  refine⟨fun e=>(by rw[e]at hr;cases hr),fun j hj=>?_⟩
  by_cases hji:j=i
  ·subst hji
   exact hy.op hi hS ⟨hS,h⟩
  obtain⟨hjun,oj,hoj,hall⟩:=mem_ready.1 hj
  have hnot:∀e∈oj.after,Region.binds .any e=true→e.on≠i:=fun e he hb heq=>by
   have h1:=hall e he hb;have h0:=(mem_ready.1 hr).1;rw[heq]at h1;rcases ed i l.size with h'|h'
   ·simp[h']at h0 h1;rw[h0]at h1;cases h1
   simp[oM h']at h1
  have hap:=hfree j oj hoj hji hjun hnot
  obtain⟨p1,p2,p3⟩:=Oper.apart_spec hap
  -- an operation that looks at nothing, in the place of oi
  let fk:Oper:={oi with op:= .assign (.const v),guard:=none}
  have hfl:fk.looksAt ops=[]:=by simp[Oper.looksAt,fk,Op.operands]
  have hfk:fk.apart ops oj=true:=by
   have h2:=hap;unfold Oper.apart at h2 ⊢;rw[hfl];simp only[dz]at h2 ⊢;exact⟨h2.1,by cases oj.dst<;>rfl⟩
  have hyf:YieldsFenced P ops fk v a:=⟨.inl ⟨O,fun w=>by simp[execOp,fk,Act.eval,Sem.run,pure]⟩,fun w=>rfl⟩
  have h2:=op_put hoj (wpOpIn_put (F:=fen none) (n:=0) O hoj hfk (fun cs b e=>by cases e) (fun cs b=>hsel j oj cs b hoj) hQ hyf (h.2 j (ready_mono hj hji)))
  have hfree':∀m om,ops[m]?=some om→m≠i→(l.setIfInBounds j true).getD m true=false→(∀e∈om.after,Region.binds .any e=true→e.on≠i)→oi.apart ops om=true:=fun m om hm hmi hun hno=>by
   refine hfree m om hm hmi ?_ hno;by_cases hjm:j=m
   ·subst hjm;exact hjun
   rw[getD_set_ne true hjm]at hun;exact hun
  refine wpOpIn_mono ?_ h2
  rintro a' w'⟨⟨_,hS',h3⟩,ds,u,rfl⟩
  refine⟨hS',ih _ _ _ hfree' (ready_mono hr (Ne.symm hji)) ?_ hS' ?_⟩
  ·have e1:=execOp_put oi (fun cs b=>hsel i oi cs b hi) ({a with defers:=ds}:Act) oj.dst u p3
   have e2:=wanted_put (ops:=ops) oi ({a with defers:=ds}:Act) oj.dst u p3
   unfold YsI at hy ⊢
   rw[e1,e2]
   exact hy
  rw[qd _ _ hji]
  exact h3
def wR {P:Program}{ops:Array Oper}{S:World→Prop}{i:Nat}{oi:Oper}{v:Value}{k:Nat}{l:Array Bool}{a:Act}{w:World}(hi:ops[i]?=some oi)(hf:(Region.noSelect ops&&(Region.free .any ops l i&&(Region.ready .any ops l).contains i))=true)
  (hQ:∀c a w,Q (.panic c) (a.put oi.dst v) w→Q (.panic c) a w) (hy:YsI P ops S oi v a) (hS:S w) (h:anyS P ops Q S k (l.setIfInBounds i true) (a.put oi.dst v) w):anyS P ops Q S (k+1) l a w:=by
 simp only[dz]at hf;exact qRo hi (Region.noSelect_spec hf.1) hQ k l a w (Region.free_spec hi hf.2.1) (by simpa using hf.2.2) hy hS h
def WPI (E:Env)(ds:List Deferred)(ops:List Oper)(S:List HP)(Q:Exit→Act→World→Prop)(fuel:Nat)(listed:Array Bool)(n:Nat)(L:Fr)(H:List HP):Prop:=
 (∀k,dU H k→dU S k)→∀a w,Good E n L H a w→anyS E.P ops.toArray Q (fun w=>Sat E.w0 w S) fuel listed (mkA ds a) w
def qCs (S:List HP){id:Nat}{ops:List Oper}(hS:∀k,dU H k→dU S k) (h:WPI E ds ops S Q ops.toArray.size (Array.replicate ops.toArray.size false) n L H):WI E none ds (.region id ops.toArray true) Q n L H:=fun a _ g=>
 wpIn_region_any E.mixed (qPg _ _ _ _ (h hS a _ ⟨g.f,g.hp.drew⟩))
def bodyC (P:Program)(fn:Func)(R:Ending→World→Prop):Exit→Act→World→Prop:=fun e a w=>(e= .normal∨e= .ret)∧bodyPostM (fen none) 0 P fn R e a w
def dW {P:Program}{fn:Func}{R:Ending→World→Prop}:Calm (bodyC P fn R):=fun c a w d v h=>by rcases h.1 with h|h<;>cases h
def qLa {f:FuncId}{fn:Func}{c:Code}{args:List Value}{Pre:List HP}{Φ:Value→List HP→Prop}(hf:E.P.funcs[f]?=some fn)(hb:fn.body=some c)(hn:fn.ntmps=n)(hl:Nat.ble args.length n=true)
  (h:∀R,WI E none [] c (bodyC E.P fn (RetP E Φ R)) n (dX 0 args) (Pre++[R])):Ct E f args Pre Φ:=qLc hf hb hn hl fun R a w g=>wpIn_mono (h R a w g) fun _ _ _ h=>h.2
def qTy {fn:Func}{rs:List ResultVar}{vs:List Value}{Φ:Value→List HP→Prop}{R:HP}(Qs:List HP)(hrs:fn.results=⟨rs⟩)(h:Rs E L H rs vs)(hΦ:Φ (one vs) Qs)(hH:∀k,dU H k→dU (Qs++[R]) k):
  AI E [] (bodyC E.P fn (RetP E Φ R)) .ret n L H:=fun a w g=>⟨.inr rfl,ai_ret (ro:=none) Qs hrs h hΦ hH a w g⟩
section
variable {ops:List Oper}{fuel:Nat}{listed:Array Bool}{d:Option Nat}{op:Op}{ty:TypeId}{pos:String}{af:Array Edge}{v:Value}{j t:Nat}{b c:Bool}
def yl_mk (ds:List Deferred){a:Act}{o:Oper}(g:GoodF n L a)(hy:Yl E n L S o v)(w:World)(hw:Sat E.w0 w S):(execOp (mkA ds a).eval o).run E.P w= .ok (.value v) w:=by
 rw[qB];exact hy a w g hw
def eZ (i:Nat)(hi:ops[i]?=some ⟨d,op,ty,pos,af,none⟩)(hy:Yl E n L S ⟨d,op,ty,pos,af,none⟩ v)(hQ:Calm Q)(hf:(Region.noSelect ops.toArray&&(Region.free .any ops.toArray listed i&&(Region.ready .any ops.toArray listed).contains i))=true)(hd:inB n d=true)
  (k:WPI E ds ops S Q fuel (listed.setIfInBounds i true) n (putL d v L) H):WPI E ds ops S Q (fuel+1) listed n L H:=fun hS a w g=>
 wR (eH hi) hf (fun c a w h=>hQ c a w d v h) (.inl ⟨rfl,fun w hw=>yl_mk ds g.f hy w hw⟩) (g.hp.imp hS) (by rw[rU];exact k hS _ _ ⟨g.f.put d v hd,g.hp⟩)
def qEz (i:Nat)(hi:ops[i]?=some ⟨d,op,ty,pos,af,some (j,b)⟩)(hj:(ops[j]?).bind (·.dst)=some t)(hl:look L t=some (.bool c))(hbc:(c==b)=false)(hQ:Calm Q)(hf:(Region.noSelect ops.toArray&&(Region.free .any ops.toArray listed i&&(Region.ready .any ops.toArray listed).contains i))=true)(hd:inB n d=true)
  (k:WPI E ds ops S Q fuel (listed.setIfInBounds i true) n (putL d undef L) H):WPI E ds ops S Q (fuel+1) listed n L H:=fun hS a w g=>by
 have hj':(ops.toArray[j]?).bind (·.dst)=some t:=by simpa using hj
 have hyl:yielded ops.toArray (mkA ds a).tmps j=some c:=by show yielded ops.toArray a.tmps j=some c;simp only[yielded,hj',qc,g.f.fr t _ hl]
 exact wR (eH hi) hf (fun c a w h=>hQ c a w d undef h) (.inr ⟨by simp only[Region.wanted,hyl];simpa using hbc,rfl⟩) (g.hp.imp hS) (by rw[rU];exact k hS _ _ ⟨g.f.put d undef hd,g.hp⟩)
def kQ (i:Nat)(hi:ops[i]?=some ⟨d,op,ty,pos,af,some (j,b)⟩)(hj:(ops[j]?).bind (·.dst)=some t)(hl:look L t=some undef)(hQ:Calm Q)(hf:(Region.noSelect ops.toArray&&(Region.free .any ops.toArray listed i&&(Region.ready .any ops.toArray listed).contains i))=true)(hd:inB n d=true)
  (k:WPI E ds ops S Q fuel (listed.setIfInBounds i true) n (putL d undef L) H):WPI E ds ops S Q (fuel+1) listed n L H:=fun hS a w g=>by
 have hj':(ops.toArray[j]?).bind (·.dst)=some t:=by simpa using hj
 have hyl:yielded ops.toArray (mkA ds a).tmps j=none:=by
  show yielded ops.toArray a.tmps j=none;simp only[yielded,hj',qc,g.f.fr t _ hl];rfl
 exact wR (eH hi) hf (fun c a w h=>hQ c a w d undef h) (.inr ⟨by simp[Region.wanted,hyl],rfl⟩) (g.hp.imp hS) (by rw[rU];exact k hS _ _ ⟨g.f.put d undef hd,g.hp⟩)
def p_on (i:Nat)(hi:ops[i]?=some ⟨d,op,ty,pos,af,some (j,b)⟩)(hj:(ops[j]?).bind (·.dst)=some t)(hl:look L t=some (.bool b))(hy:Yl E n L S ⟨d,op,ty,pos,af,some (j,b)⟩ v)(hQ:Calm Q)(hf:(Region.noSelect ops.toArray&&(Region.free .any ops.toArray listed i&&(Region.ready .any ops.toArray listed).contains i))=true)(hd:inB n d=true)
  (k:WPI E ds ops S Q fuel (listed.setIfInBounds i true) n (putL d v L) H):WPI E ds ops S Q (fuel+1) listed n L H:=fun hS a w g=>by
 have hj':(ops.toArray[j]?).bind (·.dst)=some t:=by simpa using hj
 have hyl:yielded ops.toArray (mkA ds a).tmps j=some b:=by show yielded ops.toArray a.tmps j=some b;simp only[yielded,hj',qc,g.f.fr t _ hl]
 exact wR (eH hi) hf (fun c a w h=>hQ c a w d v h) (.inl ⟨by simp only[Region.wanted,hyl,beq_self_eq_true],fun w hw=>yl_mk ds g.f hy w hw⟩) (g.hp.imp hS) (by rw[rU];exact k hS _ _ ⟨g.f.put d v hd,g.hp⟩)
def qOh (hr:Region.ready .any ops.toArray listed=[])(k:AI E ds Q .normal n L H):WPI E ds ops S Q fuel listed n L H:=fun _ a w g=>by
 cases fuel with
 |zero=>exact⟨hr,k a w g⟩
 |succ m=>exact⟨fun _=>k a w g,by rw[hr];simp⟩
def qQm (i:Nat)(hi:ops[i]?=some ⟨d,op,ty,pos,af,none⟩)(hr:Region.ready .any ops.toArray listed=[i])(hop:qDl op=true)(hd:inB n d=true)
  (h:Ld E n L H ⟨d,op,ty,pos,af,none⟩ (fun v H'=>(∀k,dU H' k→dU S k)∧WPI E ds ops S Q fuel (listed.setIfInBounds i true) n (putL d v L) H')):WPI E ds ops S Q (fuel+1) listed n L H:=fun _ a w g=>by
 refine⟨fun e=>(by rw[hr]at e;cases e),fun j hj=>?_⟩;obtain rfl:j=i:=by rw[hr]at hj;simpa using hj
 unfold wpOpIn;simp only[eH hi,Region.wanted,if_true];exact op_in hop g.f.df (h _ _ a w g fun v H' w' hk hs=>⟨(g.f.put d v hd).df,hs.imp hk.1,hk.2 hk.1 _ _ ⟨g.f.put d v hd,hs⟩⟩)
def qLq (i:Nat)(hi:ops[i]?=some ⟨d,op,ty,pos,af,some (j,b)⟩)(hj:(ops[j]?).bind (·.dst)=some t)(hl:look L t=some (.bool b))(hr:Region.ready .any ops.toArray listed=[i])(hop:qDl op=true)(hd:inB n d=true)
  (h:Ld E n L H ⟨d,op,ty,pos,af,some (j,b)⟩ (fun v H'=>(∀k,dU H' k→dU S k)∧WPI E ds ops S Q fuel (listed.setIfInBounds i true) n (putL d v L) H')):WPI E ds ops S Q (fuel+1) listed n L H:=fun _ a w g=>by
 refine⟨fun e=>(by rw[hr]at e;cases e),fun j' hj'=>?_⟩;obtain rfl:j'=i:=by rw[hr]at hj';simpa using hj'
 have hj2:(ops.toArray[j]?).bind (·.dst)=some t:=by simpa using hj
 have hyl:yielded ops.toArray (mkA ds a).tmps j=some b:=by show yielded ops.toArray a.tmps j=some b;simp only[yielded,hj2,qc,g.f.fr t _ hl]
 unfold wpOpIn;simp only[eH hi,Region.wanted,hyl,beq_self_eq_true,if_true];exact op_in hop g.f.df (h _ _ a w g fun v H' w' hk hs=>⟨(g.f.put d v hd).df,hs.imp hk.1,hk.2 hk.1 _ _ ⟨g.f.put d v hd,hs⟩⟩)
def qTe (i:Nat){x:Operand}{l:Nat}{args:List Operand}{ts:Array TypeId}{vs:List Value}{Pre:List HP}{Φ:Value→List HP→Prop}(hi:ops[i]?=some ⟨d,.call {callee:= .value x,args:=args.toArray,argTypes:=ts},ty,pos,af,some (j,b)⟩)(hj:(ops[j]?).bind (·.dst)=some t)(hlk:look L t=some (.bool b))(hr:Region.ready .any ops.toArray listed=[i])
  (hd:inB n d=true) (hx:ev L x=some (.func (.yield l) #[] #[])) (ha:evs L args=some vs) (hc:Cy E l vs Pre Φ) (hs:Sub Pre H H') (k:∀v Qs,Φ v Qs→(∀k,dU (Qs++H') k→dU S k)∧WPI E ds ops S Q fuel (listed.setIfInBounds i true) n (putL d v L) (Qs++H')):WPI E ds ops S Q (fuel+1) listed n L H:=fun _ a w g=>by
 refine⟨fun e=>(by rw[hr]at e;cases e),fun j' hj'=>?_⟩;obtain rfl:j'=i:=by rw[hr]at hj';simpa using hj'
 have hj2:(ops.toArray[j]?).bind (·.dst)=some t:=by simpa using hj
 have hyl:yielded ops.toArray (mkA ds a).tmps j=some b:=by show yielded ops.toArray a.tmps j=some b;simp only[yielded,hj2,qc,g.f.fr t _ hlk]
 unfold wpOpIn;simp only[eH hi,Region.wanted,hyl,beq_self_eq_true,if_true];refine⟨fun f _=>trivial,?_⟩;rw[Oper.semAt_plain _ _ _ (by intro c hc;cases hc),qB];obtain⟨fn,tmps,assign,body,hy,hr⟩:=hc (dU H') w ((g.hp.sub hs).imp fun _=>kD)
 have hrun:(execOp a.eval ⟨d,.call {callee:= .value x,args:=args.toArray,argTypes:=ts},ty,pos,af,some (j,b)⟩).run E.P w= .ok (.round l fn tmps assign body) w:=by
  have h1:=g.f.evs ha;have h2:=g.f.ev hx;have e0:((⟨vs⟩:Array Value)++(#[]:Array Value))=⟨vs⟩:=by simp
  simp[execOp,resolve,Deferred.ofValue,invoke,h2,h1,e0,hy]
 rw[hrun,Oper.uponIn_round];refine⟨fun h0=>(by cases h0),?_⟩;refine(show RoundIn (fen none) 0 E.P l fn tmps assign body w _ from hr).mono ?_;rintro e w'⟨v,Qs,rfl,hΦ,hs'⟩;have hk:=k v Qs hΦ;have hg:Good E n (putL d v L) (Qs++H') (a.put d v) w':=⟨g.f.put d v hd,hs'.imp fun _=>nR⟩;have:=hk.2 hk.1 _ _ hg;rw[←rU]at this;exact⟨hg.hp.imp hk.1,this⟩
end
end Sl
namespace Go.Proofs.YtejcjelmpbkcbaaGreatDoor
open Go Go.RowKit Sl Eg Pm
set_option maxRecDepth 10000
variable {E:Env}
def kvA (p:Ky×Nat):List Value:=[.string ⟨⟨p.1⟩⟩,.int .i64 (p.2:Nat)]
def qHf (hE:Seat E){A:Ar}{l:Nat}{J:Nat→HP}:∀{t:Tre}{p:Option Nat}{i:Nat},At A t p→(∀j,j<sz t→Cy E l (kvA ((io t).getD j ([],0))) [J (i+j)] (fun v Q=>v= .bool true∧Q=[J (i+j+1)]))→
  Ct E 93 [pv p,.func (.yield l) #[] #[]] [ar A,J i] (fun v Q=>v= .bool true∧Q=[ar A,J (i+sz t)])
 | .nil,p,i,h,hy=>by
  obtain rfl:p=none:=h;show Ct E 93 [.pointer none,.func (.yield l) #[] #[]] [ar A,J i] _;refine qLa (hE.fn Tryz.func93) O O O (fun R=>?_);simp only[dX,uV,uW];refine iP (fF ?_);refine dZ (aC O) O O ?_;refine jX (eX ?_);refine iP ?_;refine qCs ([ar A]) ?_ ?_
  ·exact uI
  apply eZ 0 O
  ·exact aB O
  ·with_reducible (repeat(first |exact dW|apply aG|apply aH))
  ·kernel_rfl
  ·rfl
  apply eZ 1 O
  ·(first |exact qBl rfl (hE.t rfl)|exact qBk rfl (hE.t rfl))
  ·with_reducible (repeat(first |exact dW|apply aG|apply aH))
  ·kernel_rfl
  ·rfl
  apply eZ 2 O
  ·exact aB O
  ·with_reducible (repeat(first |exact dW|apply aG|apply aH))
  ·kernel_rfl
  ·rfl
  refine qEz 3 O O O O (by with_reducible (repeat(first |exact dW|apply aG|apply aH))) oK O ?_;refine qEz 4 O O O O (by with_reducible (repeat(first |exact dW|apply aG|apply aH))) oK O ?_;refine qEz 5 O O O O (by with_reducible (repeat(first |exact dW|apply aG|apply aH))) oK O ?_;refine qEz 6 O O O O (by with_reducible (repeat(first |exact dW|apply aG|apply aH))) oK O ?_;refine qEz 7 O O O O (by with_reducible (repeat(first |exact dW|apply aG|apply aH))) oK O ?_;refine qEz 8 O O O O (by with_reducible (repeat(first |exact dW|apply aG|apply aH))) oK O ?_;refine qEz 9 O O O O (by with_reducible (repeat(first |exact dW|apply aG|apply aH))) oK O ?_;refine kQ 10 O O O (by with_reducible (repeat(first |exact dW|apply aG|apply aH))) oK O ?_;refine kQ 11 O O O (by with_reducible (repeat(first |exact dW|apply aG|apply aH))) oK O ?_;refine kQ 12 O O O (by with_reducible (repeat(first |exact dW|apply aG|apply aH))) oK O ?_;refine kQ 13 O O O (by with_reducible (repeat(first |exact dW|apply aG|apply aH))) oK O ?_;refine kQ 14 O O O (by with_reducible (repeat(first |exact dW|apply aG|apply aH))) oK O ?_;refine kQ 15 O O O (by with_reducible (repeat(first |exact dW|apply aG|apply aH))) oK O ?_
  refine kQ 16 O O O (by with_reducible (repeat(first |exact dW|apply aG|apply aH))) oK O ?_;refine kQ 17 O O O (by with_reducible (repeat(first |exact dW|apply aG|apply aH))) oK O ?_;refine kQ 18 O O O (by with_reducible (repeat(first |exact dW|apply aG|apply aH))) oK O ?_;refine kQ 19 O O O (by with_reducible (repeat(first |exact dW|apply aG|apply aH))) oK O ?_;refine qEz 20 O O O O (by with_reducible (repeat(first |exact dW|apply aG|apply aH))) oK O ?_;refine qEz 21 O O O O (by with_reducible (repeat(first |exact dW|apply aG|apply aH))) oK O ?_;refine kQ 22 O O O (by with_reducible (repeat(first |exact dW|apply aG|apply aH))) oK O ?_;refine kQ 23 O O O (by with_reducible (repeat(first |exact dW|apply aG|apply aH))) oK O ?_;refine kQ 24 O O O (by with_reducible (repeat(first |exact dW|apply aG|apply aH))) oK O ?_;refine kQ 25 O O O (by with_reducible (repeat(first |exact dW|apply aG|apply aH))) oK O ?_;refine kQ 26 O O O (by with_reducible (repeat(first |exact dW|apply aG|apply aH))) oK O ?_;refine kQ 27 O O O (by with_reducible (repeat(first |exact dW|apply aG|apply aH))) oK O ?_;refine qEz 28 O O O O (by with_reducible (repeat(first |exact dW|apply aG|apply aH))) oK O ?_
  apply eZ 29 O
  ·(first |exact aW rfl rfl|exact aX rfl rfl)
  ·with_reducible (repeat(first |exact dW|apply aG|apply aH))
  ·kernel_rfl
  ·rfl
  apply eZ 30 O
  ·exact aC O
  ·with_reducible (repeat(first |exact dW|apply aG|apply aH))
  ·kernel_rfl
  ·rfl
  refine qOh oK ?_;refine eX (qWi ?_);apply qTy
  ·rfl
  ·(apply Rs.tmp rfl;exact Rs.nil)
  ·exact⟨O,O⟩
  exact uI
 | .nd l1 k v r1,p,i,h,hy=>by
  obtain⟨b,pl,pr,rfl,hm,a1,a2⟩:=h;have hq:=vS (w0:=E.w0) hm;have hio:io (.nd l1 k v r1)=io l1++(k,v)::io r1:=rfl;have hsz:sz (.nd l1 k v r1)=1+sz l1+sz r1:=rfl;have hl:=vV l1
  have hy1:∀j,j<sz l1→Cy E l (kvA ((io l1).getD j ([],0))) [J (i+j)] (fun v Q=>v= .bool true∧Q=[J (i+j+1)]):=fun j hj=>by
   have:=hy j oO;rwa [hio,fe,ak oO,←fe]at this
  have hy2:Cy E l (kvA (k,v)) [J (i+sz l1)] (fun v Q=>v= .bool true∧Q=[J (i+sz l1+1)]):=by
   have:=hy (sz l1) oO;rwa [hio,fe,ax oO,hl,oW]at this
  have hy3:∀j,j<sz r1→Cy E l (kvA ((io r1).getD j ([],0))) [J (i+sz l1+1+j)] (fun v Q=>v= .bool true∧Q=[J (i+sz l1+1+j+1)]):=fun j hj=>by
   have:=hy (sz l1+1+j) oO;rw[hio,fe,ax oO,hl,show sz l1+1+j-sz l1=j+1 by omega,zf,←fe,←oV i,←oV i]at this;exact this
  show Ct E 93 [uPt b,.func (.yield l) #[] #[]] [ar A,J i] _;refine qLa (hE.fn Tryz.func93) O O O (fun R=>?_);simp only[dX,uV,uW];refine iP (fF ?_);refine dZ (aC O) O O ?_;refine jX (eX ?_);refine iP ?_;refine qCs ([ar A]) ?_ ?_
  ·exact uI
  apply eZ 0 O
  ·exact aB O
  ·with_reducible (repeat(first |exact dW|apply aG|apply aH))
  ·kernel_rfl
  ·rfl
  apply eZ 1 O
  ·(first |exact qBl rfl (hE.t rfl)|exact qBk rfl (hE.t rfl))
  ·with_reducible (repeat(first |exact dW|apply aG|apply aH))
  ·kernel_rfl
  ·rfl
  apply eZ 2 O
  ·exact aB O
  ·with_reducible (repeat(first |exact dW|apply aG|apply aH))
  ·kernel_rfl
  ·rfl
  apply p_on 3 O O O
  ·exact aB O
  ·with_reducible (repeat(first |exact dW|apply aG|apply aH))
  ·kernel_rfl
  ·rfl
  apply p_on 4 O O O
  ·exact bA O
  ·with_reducible (repeat(first |exact dW|apply aG|apply aH))
  ·kernel_rfl
  ·rfl
  apply p_on 5 O O O
  ·exact uBf O
  ·with_reducible (repeat(first |exact dW|apply aG|apply aH))
  ·kernel_rfl
  ·rfl
  apply p_on 6 O O O
  ·(first |(apply dR rfl (hE.t rfl) rfl (by assumption);(focus((repeat constructor);done));(focus rfl))|(apply aO rfl (hE.t rfl) rfl;(repeat(first |rfl|assumption|constructor));done))
  ·with_reducible (repeat(first |exact dW|apply aG|apply aH))
  ·kernel_rfl
  ·rfl
  apply p_on 7 O O O
  ·exact aB O
  ·with_reducible (repeat(first |exact dW|apply aG|apply aH))
  ·kernel_rfl
  ·rfl
  apply qLq 8 O O O oK O O;refine uC (qHf hE a1 hy1) O ?_;rintro _ _⟨rfl,rfl⟩;simp only[uV,uW];refine⟨by(first |(apply ent;(repeat constructor);done)|exact iU|exact gG|exact gJ),?_⟩;apply p_on 9 O O O
  ·exact aB O
  ·with_reducible (repeat(first |exact dW|apply aG|apply aH))
  ·kernel_rfl
  ·rfl
  apply p_on 10 O O O
  ·exact aB O
  ·with_reducible (repeat(first |exact dW|apply aG|apply aH))
  ·kernel_rfl
  ·rfl
  apply p_on 11 O O O
  ·exact aB O
  ·with_reducible (repeat(first |exact dW|apply aG|apply aH))
  ·kernel_rfl
  ·rfl
  apply p_on 12 O O O
  ·exact bA O
  ·with_reducible (repeat(first |exact dW|apply aG|apply aH))
  ·kernel_rfl
  ·rfl
  apply p_on 13 O O O
  ·exact uBf O
  ·with_reducible (repeat(first |exact dW|apply aG|apply aH))
  ·kernel_rfl
  ·rfl
  apply p_on 14 O O O
  ·(first |(apply dR rfl (hE.t rfl) rfl (by assumption);(focus((repeat constructor);done));(focus rfl))|(apply aO rfl (hE.t rfl) rfl;(repeat(first |rfl|assumption|constructor));done))
  ·with_reducible (repeat(first |exact dW|apply aG|apply aH))
  ·kernel_rfl
  ·rfl
  apply p_on 15 O O O
  ·exact aB O
  ·with_reducible (repeat(first |exact dW|apply aG|apply aH))
  ·kernel_rfl
  ·rfl
  apply p_on 16 O O O
  ·exact bA O
  ·with_reducible (repeat(first |exact dW|apply aG|apply aH))
  ·kernel_rfl
  ·rfl
  apply p_on 17 O O O
  ·exact uBf O
  ·with_reducible (repeat(first |exact dW|apply aG|apply aH))
  ·kernel_rfl
  ·rfl
  apply p_on 18 O O O
  ·(first |(apply dR rfl (hE.t rfl) rfl (by assumption);(focus((repeat constructor);done));(focus rfl))|(apply aO rfl (hE.t rfl) rfl;(repeat(first |rfl|assumption|constructor));done))
  ·with_reducible (repeat(first |exact dW|apply aG|apply aH))
  ·kernel_rfl
  ·rfl
  apply qTe 19 O O O oK O O O (hy2)
  ·exact uK
  rintro _ _⟨rfl,rfl⟩;simp only[uV,uW];refine⟨by(first |(apply ent;(repeat constructor);done)|exact iU|exact gG|exact gJ),?_⟩;apply p_on 20 O O O
  ·(first |exact aW rfl rfl|exact aX rfl rfl)
  ·with_reducible (repeat(first |exact dW|apply aG|apply aH))
  ·kernel_rfl
  ·rfl
  apply p_on 21 O O O
  ·exact aB O
  ·with_reducible (repeat(first |exact dW|apply aG|apply aH))
  ·kernel_rfl
  ·rfl
  apply p_on 22 O O O
  ·exact aB O
  ·with_reducible (repeat(first |exact dW|apply aG|apply aH))
  ·kernel_rfl
  ·rfl
  apply p_on 23 O O O
  ·exact bA O
  ·with_reducible (repeat(first |exact dW|apply aG|apply aH))
  ·kernel_rfl
  ·rfl
  apply p_on 24 O O O
  ·exact uBf O
  ·with_reducible (repeat(first |exact dW|apply aG|apply aH))
  ·kernel_rfl
  ·rfl
  apply p_on 25 O O O
  ·(first |(apply dR rfl (hE.t rfl) rfl (by assumption);(focus((repeat constructor);done));(focus rfl))|(apply aO rfl (hE.t rfl) rfl;(repeat(first |rfl|assumption|constructor));done))
  ·with_reducible (repeat(first |exact dW|apply aG|apply aH))
  ·kernel_rfl
  ·rfl
  apply p_on 26 O O O
  ·exact aB O
  ·with_reducible (repeat(first |exact dW|apply aG|apply aH))
  ·kernel_rfl
  ·rfl
  apply qLq 27 O O O oK O O;refine uC (qHf hE a2 hy3) O ?_;rintro _ _⟨rfl,rfl⟩;simp only[uV,uW];refine⟨by(first |(apply ent;(repeat constructor);done)|exact iU|exact gG|exact gJ),?_⟩;apply p_on 28 O O O
  ·(first |exact aW rfl rfl|exact aX rfl rfl)
  ·with_reducible (repeat(first |exact dW|apply aG|apply aH))
  ·kernel_rfl
  ·rfl
  apply eZ 29 O
  ·(first |exact aW rfl rfl|exact aX rfl rfl)
  ·with_reducible (repeat(first |exact dW|apply aG|apply aH))
  ·kernel_rfl
  ·rfl
  apply eZ 30 O
  ·exact aC O
  ·with_reducible (repeat(first |exact dW|apply aG|apply aH))
  ·kernel_rfl
  ·rfl
  refine qOh oK ?_;refine eX (qWi ?_);apply qTy
  ·rfl
  ·(apply Rs.tmp rfl;exact Rs.nil)
  ·exact⟨O,O⟩
  rw[hsz,show i+(1+sz l1+sz r1)=i+sz l1+1+sz r1 by omega];exact uI
end Go.Proofs.YtejcjelmpbkcbaaGreatDoor
namespace Sl
open Go Go.RowKit
variable {E:Env}{n:Nat}{L L':Fr}{S H H':List HP}{Q:Exit→Act→World→Prop}{ds:List Deferred}
def bodyD (P:Program)(fn:Func)(R:Ending→World→Prop):Exit→Act→World→Prop:=fun e a w=>(e= .normal∨e= .ret)∧bodyPostD P fn R e a w
def dY {P:Program}{fn:Func}{R:Ending→World→Prop}:Calm (bodyD P fn R):=fun c a w d v h=>by rcases h.1 with h|h<;>cases h
def qLb {f:FuncId}{fn:Func}{c:Code}{args:List Value}{Pre:List HP}{Φ:Value→List HP→Prop}(hf:E.P.funcs[f]?=some fn)(hb:fn.body=some c)(hn:fn.ntmps=n)(hl:Nat.ble args.length n=true)
  (h:∀R,WI E none [] c (bodyD E.P fn (RetP E Φ R)) n (dX 0 args) (Pre++[R])):Ct E f args Pre Φ:=fun R w s=>by
 have hl':=bi hl
 have h1:=h R {tmps:=(⟨args⟩:Array Value)++Array.replicate (fn.ntmps-(⟨args⟩:Array Value).size) undef,defers:=[]} w ⟨⟨by simp[hn];omega,rfl,fun t v hv=>by
  obtain⟨_,h2⟩:=vK args 0 t v hv;have hlt:=(ae.1 h2).1;rw[oq (by simpa using hlt)];simpa using h2⟩,s⟩
 exact calls_of_wp_defers hf hb (wp_mono (wpIn_wide.1 h1) fun _ _ _ h=>h.2)
def dfn (f:FuncId)(vs:List Value):Deferred:={target:= .fn (.func f) #[],args:=⟨vs⟩}
def qWo {all:Array Oper}{f:FuncId}{args:List Operand}{ts:Array TypeId}{vs:List Value}{ty:TypeId}{pos:String}{af:Array Edge}{rest:List Oper}(ha:evs L args=some vs)(k:WLI E none (dfn f vs::ds) all Q rest n L H):
  WLI E none ds all Q (⟨none,.defer {callee:= .value (.func f),args:=args.toArray,argTypes:=ts},ty,pos,af,none⟩::rest) n L H:=fun a w g=>by
 refine wpListIn_plain O fun K hK=>⟨fun f _=>trivial,?_⟩
 have hrun:(execOp a.eval ⟨none,.defer {callee:= .value (.func f),args:=args.toArray,argTypes:=ts},ty,pos,af,none⟩).run E.P w= .ok (.defer (dfn f vs)) w:=by
  have h1:=g.f.evs ha;simp[execOp,resolve,Deferred.ofValue,Act.eval,h1,dfn]
 rw[show(fen none).round=none from rfl,Oper.semAt_none,qB,hrun];exact hK _ _ (k a w g)
def Cd (E:Env)(f:FuncId)(vs:List Value)(Pre Post:List HP):Prop:=∀(R:HP)(u:FrameMode)(w:World),Sat E.w0 w (Pre++[R])→CallsD E.P f ⟨vs⟩ u w (fun e u' w'=>u'=u∧(∃v,e= .returned v)∧Sat E.w0 w' (Post++[R]))
def qPf {f:FuncId}{ws:List Value}{Pre Post H1:List HP}{fn:Func}{rs:List ResultVar}{vs:List Value}{Φ:Value→List HP→Prop}{R:HP}(hf:goFn E.P f=true)(hc:Cd E f ws Pre Post)(hs:Sub Pre H H1)(Qs:List HP)(hrs:fn.results=⟨rs⟩)
  (h:Rs E L (Post++H1) rs vs) (hΦ:Φ (one vs) Qs) (hH:∀k,dU (Post++H1) k→dU (Qs++[R]) k):AI E [dfn f ws] (bodyD E.P fn (RetP E Φ R)) .ret n L H:=fun a w g=>by
 refine⟨.inr O,leaves_cons (f:=f) (args:=⟨ws⟩) (by simp) (by simp[invoke,qD hf]) ?_⟩;refine(hc (dU H1) .returning w ((g.hp.sub hs).imp fun _=>kD)).mono ?_;rintro e u' w'⟨rfl,⟨v,rfl⟩,hs'⟩;have s2:Sat E.w0 w' (Post++H1):=hs'.imp fun _=>nR
 have h1:=h.gives hrs g.f s2;exact⟨_,h1,_,Qs,O,hΦ,s2.imp hH⟩
end Sl
namespace Go.Proofs.YtejcjelmpbkcbaaGreatDoor
open Go Go.RowKit Sl
set_option maxRecDepth 10000
variable {E:Env}
abbrev muLink:Go.Conc.Locks.MuLink:={lock:=90,unlock:=91,ilock:=118,iunlock:=119,lockSlow:=153,unlockSlow:=156,disable:=149,enable:=151,acquire:=152,relMerge:=154,cas32:=150,add32:=155,tMutex:=125,tIMutex:=123,tPMutex:=246,tPIMutex:=266,tPI32:=268,tUP:=270,tNoCopy:=120,tU32:=121}
def muLib:Go.Conc.Locks.MuLib Tryz.prog muLink:=
 ⟨Tryz.func90,Tryz.func91,Tryz.func118,Tryz.func119,Tryz.func149,Tryz.func151,Tryz.func152,Tryz.func154,Tryz.func150,Tryz.func155,Tryz.underlying123,Tryz.runUnderlying123,Tryz.sizeOf123,Tryz.isAgg123,Tryz.zeroValue123,Tryz.underlying125,Tryz.runUnderlying125,Tryz.sizeOf125,Tryz.isAgg125,Tryz.zeroValue125,Tryz.underlying246,Tryz.runUnderlying246,Tryz.sizeOf246,Tryz.isAgg246,Tryz.zeroValue246,Tryz.underlying266,Tryz.runUnderlying266,Tryz.sizeOf266,Tryz.isAgg266,Tryz.zeroValue266,Tryz.underlying268,Tryz.runUnderlying268,Tryz.sizeOf268,Tryz.isAgg268,Tryz.zeroValue268,Tryz.underlying270,Tryz.runUnderlying270,Tryz.sizeOf270,Tryz.isAgg270,Tryz.zeroValue270,Tryz.underlying120,Tryz.runUnderlying120,Tryz.sizeOf120,Tryz.isAgg120,Tryz.zeroValue120,Tryz.underlying21,Tryz.runUnderlying21,Tryz.sizeOf21,Tryz.isAgg21,Tryz.zeroValue21,oK⟩
def qKn (hE:Seat E){b:Nat}{vs:List Value}{t:TypeId}:Ct E 90 [uPt b] [cells b (.int .i32 0::vs) t] (fun v Q=>v= .tuple #[]∧Q=[cells b (.int .i32 1::vs) t]):=fun R w s=>by
 have h:=Go.MuLone.lock_free muLib ⟨b,0,none⟩ w (s.cell 0 O) (s.free 0);rw[←hE.P]at h;refine h.mono ?_;rintro e w'⟨rfl,rfl⟩;exact⟨_,_,O,⟨O,O⟩,s.setCell 0 _⟩
def qBo (hE:Seat E){b:Nat}{vs:List Value}{t:TypeId}:Cd E 91 [uPt b] [cells b (.int .i32 1::vs) t] [cells b (.int .i32 0::vs) t]:=fun R u w s=>by
 have h:=Go.MuLone.unlock_deferred muLib ⟨b,0,none⟩ u w (s.cell 0 O) (s.free 0);rw[←hE.P]at h;refine h.mono ?_;rintro e u' w'⟨rfl,rfl,rfl⟩;exact⟨O,⟨_,O⟩,s.setCell 0 _⟩
