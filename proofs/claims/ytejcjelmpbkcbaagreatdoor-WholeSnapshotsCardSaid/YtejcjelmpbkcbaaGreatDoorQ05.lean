import Derived.Test.YtejcjelmpbkcbaaGreatDoorQ06
set_option linter.all false
set_option maxHeartbeats 1000000
namespace Sl
open Go Go.RowKit
variable {E:Env}{n:Nat}{L:Fr}{S:List HP}{ty:TypeId}{pos:String}{af:Array Edge}{d:Option Nat}{gd:Option (Nat×Bool)}
def qEt {x y:Operand}{xt yt:TypeId}{i j:Nat}{kx ky:IntKind}(hx:ev L x=some (.int kx (i:Nat)))(hy:ev L y=some (.int ky (j:Nat)))(hj:j≤kx.bits):
  Yl E n L S ⟨d,.binOp .shr xt x y yt,ty,pos,af,gd⟩ (.int kx ((i/2^j:Nat):Int)):=fun a w g _=>by
 have e:(i:Int)/2^min ((j:Nat):Int).toNat kx.bits=((i/2^j:Nat):Int):=by
  rw[oG,show min j kx.bits=j from kw hj,uo,tq];rfl
 have h:=shift_shr_any kx ky (i:Int) ((j:Nat):Int) (qz j);rw[e]at h;simp[execOp,eqGuard,binOp,g.ev hx,g.ev hy,h]
def dK {i:Int}(h0:0≤i)(h1:i≤18446744073709551615):IntKind.u64.wrap i=i:=by rw[IntKind.wrap_u64];omega
end Sl
namespace Go
section
variable {P:Program}{ops:Array Oper}{Q:Exit→Act→World→Prop}{md:Region.Mode}
abbrev Stages:=List (Nat×(World→Prop))
def Stages.now:Stages→World→Prop
 |[],_=>True
 |(_,S)::_,w=>S w
def jF (P:Program)(md:Region.Mode)(ops:Array Oper)(Q:Exit→Act→World→Prop):Nat→Stages→Array Bool→Act→World→Prop
 |_,[],listed,a,w=>Region.ready md ops listed=[]∧Q .normal a w
 |0,_::_,listed,a,w=>Region.ready md ops listed=[]∧Q .normal a w
 |fuel+1,(m,S)::r,listed,a,w=>
  (Region.ready md ops listed=[]→Q .normal a w)∧
  ∀i∈Region.ready md ops listed,wpOp P ops Q i (fun a' w'=>(i=m→Stages.now r w'∧jF P md ops Q fuel r (listed.setIfInBounds i true) a' w')∧(i≠m→S w'∧jF P md ops Q fuel ((m,S)::r) (listed.setIfInBounds i true) a' w')) a w
def zX:∀(fuel:Nat)(Ss:Stages)(listed:Array Bool)(a:Act)(w:World),jF P md ops Q fuel Ss listed a w→wpAny P md ops Q fuel listed a w
 |0,[],_,_,_,h=>by unfold jF at h;unfold wpAny;exact h
 |0,_::_,_,_,_,h=>by unfold jF at h;unfold wpAny;exact h
 |fuel+1,[],_,_,_,h=>by
  unfold jF at h;exact⟨fun _=>h.2,by rw[h.1];simp⟩
 |fuel+1,(m,S)::r,listed,_,_,h=>by
  unfold jF at h;refine⟨h.1,fun i hi=>wpOp_mono (fun a' w' h'=>?_) (h.2 i hi)⟩;by_cases e:i=m
  ·exact zX fuel _ _ a' w' (h'.1 e).2
  exact zX fuel _ _ a' w' (h'.2 e).2
def qLz {i j:Nat}{listed:Array Bool}(hj:j∈Region.ready md ops listed)(hi:i∈Region.ready md ops listed):∃oj,ops[j]?=some oj∧listed.getD j true=false∧(∀e∈oj.after,Region.binds md e=true→e.on≠i):=by
 obtain⟨hjun,oj,hoj,hall⟩:=mem_ready.1 hj;refine⟨oj,hoj,hjun,fun e he hb heq=>?_⟩;have h1:=hall e he hb;have h0:=(mem_ready.1 hi).1;rw[heq]at h1;rcases ed i listed.size with h'|h'
 ·simp[h']at h0 h1;rw[h0]at h1;cases h1
 simp[oM h']at h1
def qLd {oi:Oper}{i j:Nat}{listed:Array Bool}(hfree:∀j oj,ops[j]?=some oj→j≠i→listed.getD j true=false→(∀e∈oj.after,Region.binds md e=true→e.on≠i)→oi.apart ops oj=true) (hjun:listed.getD j true=false):
  ∀k ok,ops[k]?=some ok→k≠i→(listed.setIfInBounds j true).getD k true=false→(∀e∈ok.after,Region.binds md e=true→e.on≠i)→oi.apart ops ok=true:=fun k ok hk hki hun hno=>by
 refine hfree k ok hk hki ?_ hno;by_cases hjk:j=k
 ·subst hjk;exact hjun
 rw[getD_set_ne true hjk]at hun;exact hun
def qMz {m:Nat}{S:World→Prop}{r:Stages}{i:Nat}{oi:Oper}{v:Value}(hi:ops[i]?=some oi)(hsel:∀(j:Nat)(o:Oper)cs b,ops[j]?=some o→o.op≠ .select cs b)
  (hQ:∀c a w,Q (.panic c) (a.put oi.dst v) w→Q (.panic c) a w) (him:i≠m) (hw:Region.waitsFor md ops m i=true):
  ∀(fuel:Nat)(listed:Array Bool)(a:Act)(w:World),
   (∀j oj,ops[j]?=some oj→j≠i→listed.getD j true=false→(∀e∈oj.after,Region.binds md e=true→e.on≠i)→oi.apart ops oj=true)→
   i∈Region.ready md ops listed→YieldsIf P ops S oi v a→S w→
   jF P md ops Q fuel ((m,S)::r) (listed.setIfInBounds i true) (a.put oi.dst v) w→jF P md ops Q (fuel+1) ((m,S)::r) listed a w:=by
 intro fuel;induction fuel with
 |zero=>
  intro listed a w _ hr hy hS H
  unfold jF at H
  unfold jF
  refine⟨fun h=>(by rw[h]at hr;cases hr),fun j hj=>?_⟩
  by_cases hji:j=i
  ·subst hji;exact hy.wpOp hi hS ⟨fun e=>absurd e him,fun _=>⟨hS,by unfold jF;exact H⟩⟩
  have:=ready_mono hj hji
  rw[H.1]at this
  cases this
 |succ fuel ih=>
  intro listed a w hfree hr hy hS H
  unfold jF
  refine⟨fun h=>(by rw[h]at hr;cases hr),fun j hj=>?_⟩
  by_cases hji:j=i
  ·subst hji;exact hy.wpOp hi hS ⟨fun e=>absurd e him,fun _=>⟨hS,H⟩⟩
  have hjm:j≠m:=fun e=>wI (e▸hj) hr hw
  unfold jF at H
  have h1:=H.2 j (ready_mono hj hji)
  obtain⟨oj,hoj,hjun,hnot⟩:=qLz hj hr
  have h2:=wpOp_putIf hoj (hfree j oj hoj hji hjun hnot) (fun cs b=>hsel i oi cs b hi) (fun cs b=>hsel j oj cs b hoj) hQ hy h1
  refine wpOp_mono (fun a' w' h3=>⟨fun e=>absurd e hjm,fun _=>⟨(h3.2.2 hjm).1,ih (listed.setIfInBounds j true) a' w' (qLd hfree hjun) (ready_mono hr (Ne.symm hji)) h3.1 (h3.2.2 hjm).1 ?_⟩⟩) h2
  rw[qd _ _ hji]
  exact(h3.2.2 hjm).2
def Stages.waits (md:Region.Mode)(ops:Array Oper)(i:Nat):Stages→Prop
 |[]=>False
 |[(m,_)]=>i≠m∧Region.waitsFor md ops m i=true
 |(m,_)::r=>i≠m∧Stages.waits md ops i r
def qPa {i:Nat}{oi:Oper}{v:Value}(hi:ops[i]?=some oi)(hsel:∀(j:Nat)(o:Oper)cs b,ops[j]?=some o→o.op≠ .select cs b)
  (hQ:∀c a w,Q (.panic c) (a.put oi.dst v) w→Q (.panic c) a w) {T:World→Prop}:
  ∀(fuel:Nat)(Ss:Stages)(listed:Array Bool)(a:Act)(w:World),Stages.waits md ops i Ss→(∀m S,(m,S)∈Ss→∀w,S w→T w)→
   (∀j oj,ops[j]?=some oj→j≠i→listed.getD j true=false→(∀e∈oj.after,Region.binds md e=true→e.on≠i)→oi.apart ops oj=true)→
   i∈Region.ready md ops listed→YieldsIf P ops T oi v a→Stages.now Ss w→
   jF P md ops Q fuel Ss (listed.setIfInBounds i true) (a.put oi.dst v) w→jF P md ops Q (fuel+1) Ss listed a w:=by
 intro fuel;induction fuel with
 |zero=>
  intro Ss listed a w hm hT _ hr hy hS H
  cases Ss with
  |nil=>exact absurd hm id
  |cons s r=>
   obtain⟨m,S⟩:=s
   have him:i≠m:=by cases r with
    |nil=>exact hm.1
    |cons _ _=>exact hm.1
   unfold jF at H
   unfold jF
   refine⟨fun h=>(by rw[h]at hr;cases hr),fun j hj=>?_⟩
   by_cases hji:j=i
   ·subst hji;exact hy.wpOp hi (hT _ _ (oC ..) _ hS) ⟨fun e=>absurd e him,fun _=>⟨hS,by unfold jF;exact H⟩⟩
   have:=ready_mono hj hji
   rw[H.1]at this
   cases this
 |succ fuel ih=>
  intro Ss listed a w hm hT hfree hr hy hS H
  cases Ss with
  |nil=>exact absurd hm id
  |cons s r=>
   obtain⟨m,S⟩:=s
   have him:i≠m:=by cases r with
    |nil=>exact hm.1
    |cons _ _=>exact hm.1
   unfold jF
   refine⟨fun h=>(by rw[h]at hr;cases hr),fun j hj=>?_⟩
   by_cases hji:j=i
   ·subst hji;exact hy.wpOp hi (hT _ _ (oC ..) _ hS) ⟨fun e=>absurd e him,fun _=>⟨hS,H⟩⟩
   unfold jF at H
   have h1:=H.2 j (ready_mono hj hji)
   obtain⟨oj,hoj,hjun,hnot⟩:=qLz hj hr
   have h2:=wpOp_putIf hoj (hfree j oj hoj hji hjun hnot) (fun cs b=>hsel i oi cs b hi) (fun cs b=>hsel j oj cs b hoj) hQ hy h1
   have hfree':=qLd hfree hjun
   refine wpOp_mono (fun a' w' h3=>⟨fun e=>?_,fun e=>?_⟩) h2
   ·cases r with
    |nil=>exact absurd (wI (e▸hj) hr hm.2) id
    |cons s' r'=>
     have h4:=h3.2.1 e
     refine⟨h4.1,ih _ (listed.setIfInBounds j true) a' w' hm.2 (fun m S h=>hT m S (og _ h)) hfree' (ready_mono hr (Ne.symm hji)) h3.1 h4.1 ?_⟩
     rw[qd _ _ hji]
     exact h4.2
   have h4:=h3.2.2 e
   refine⟨h4.1,ih _ (listed.setIfInBounds j true) a' w' hm hT hfree' (ready_mono hr (Ne.symm hji)) h3.1 h4.1 ?_⟩
   rw[qd _ _ hji]
   exact h4.2
end
end Go
namespace Sl
section
open Go Go.RowKit
variable {E:Env}{n:Nat}{L:Fr}{H:List HP}{Q:Exit→Act→World→Prop}{m fuel:Nat}{listed:Array Bool}{ops:List Oper}{S:List HP}{r:List (Nat×List HP)}
def stg (w0:World)(Ss:List (Nat×List HP)):Stages:=Ss.map fun x=>(x.1,fun w=>Sat w0 w x.2)
def WPS (E:Env)(ops:List Oper)(Ss:List (Nat×List HP))(Q:Exit→Act→World→Prop)(fuel:Nat)(listed:Array Bool)(n:Nat)(L:Fr)(H:List HP):Prop:=
 ∀a w,Good E n L H a w→Stages.now (stg E.w0 Ss) w→jF E.P .any ops.toArray Q fuel (stg E.w0 Ss) listed a w
def iO (m:Nat)(S:List HP)(r:List (Nat×List HP)){id:Nat}(hS:∀k,dU H k→dU S k) (h:WPS E ops ((m,S)::r) Q ops.toArray.size (Array.replicate ops.toArray.size false) n L H):WP E (.region id ops.toArray true) Q n L H:=fun a _ g=>
 wp_region_any E.mixed (zX _ _ _ _ _ (h a _ ⟨g.f,g.hp.drew⟩ (g.hp.drew.imp hS)))
def s_take (i:Nat){d:Option Nat}{op:Op}{ty:TypeId}{pos:String}{af:Array Edge}{v:Value}(hi:ops[i]?=some ⟨d,op,ty,pos,af,none⟩)
  (hy:Yl E n L S ⟨d,op,ty,pos,af,none⟩ v) (hQ:Calm Q) (hf:qMv ops.toArray m listed i=true) (hd:inB n d=true)
  (k:WPS E ops ((m,S)::r) Q fuel (listed.setIfInBounds i true) n (putL d v L) H):WPS E ops ((m,S)::r) Q (fuel+1) listed n L H:=fun a w g hS=>by
 simp only[qMv,dz,uw,beq_eq_false_iff_ne]at hf;exact qMz (eH hi) (Region.noSelect_spec hf.1) (fun c a w h=>hQ c a w d v h) hf.2.2.2.1 hf.2.2.2.2 fuel listed a w (Region.free_spec (eH hi) hf.2.1) (by simpa using hf.2.2.1) (.inl ⟨O,fun w hw=>hy a w g.f hw⟩) hS (k _ _ ⟨g.f.put d v hd,g.hp⟩ hS)
def qEl (ops:Array Oper)(i:Nat):List (Nat×List HP)→Bool
 |[]=>false
 |[(m,_)]=>!(i==m)&&Region.waitsFor .any ops m i
 |(m,_)::r=>!(i==m)&&qEl ops i r
def qEm {ops:Array Oper}{i:Nat}{w0:World}:∀{Ss:List (Nat×List HP)},qEl ops i Ss=true→Stages.waits .any ops i (stg w0 Ss)
 |[],h=>by simp[qEl]at h
 |[(m,_)],h=>by
  simp only[qEl,dz,uw,beq_eq_false_iff_ne]at h;exact h
 |(m,_)::y::r,h=>by
  simp only[qEl,dz,uw,beq_eq_false_iff_ne]at h;exact⟨h.1,qEm (Ss:=y::r) h.2⟩
def calmB (ops:Array Oper)(listed:Array Bool)(i:Nat):Bool:=Region.noSelect ops&&(Region.free .any ops listed i&&(Region.ready .any ops listed).contains i)
def s_calm (i:Nat){Ss:List (Nat×List HP)}{d:Option Nat}{op:Op}{ty:TypeId}{pos:String}{af:Array Edge}{v:Value}(hi:ops[i]?=some ⟨d,op,ty,pos,af,none⟩)
  (hy:Yl E n L [] ⟨d,op,ty,pos,af,none⟩ v) (hQ:Calm Q) (hf:calmB ops.toArray listed i=true) (hm:qEl ops.toArray i Ss=true) (hd:inB n d=true)
  (k:WPS E ops Ss Q fuel (listed.setIfInBounds i true) n (putL d v L) H):WPS E ops Ss Q (fuel+1) listed n L H:=fun a w g hS=>by
 simp only[calmB,dz]at hf;refine qPa (eH hi) (Region.noSelect_spec hf.1) (fun c a w h=>hQ c a w d v h) (T:=fun w=>Sat E.w0 w []) fuel _ listed a w (qEm hm) ?_ (Region.free_spec (eH hi) hf.2.1) (by simpa using hf.2.2) (.inl ⟨O,fun w hw=>hy a w g.f hw⟩) hS (k _ _ ⟨g.f.put d v hd,g.hp⟩ hS);intro m S h w hw;obtain⟨x,_,e⟩:=fq.1 h;obtain⟨rfl,rfl⟩:=Prod.mk.inj e;exact hw.imp fun _ _=>(show dU [] _ from by first |trivial |exact True.intro)
def qTt {P:Program}{ops:Array Oper}{md:Region.Mode}{listed:Array Bool}{a:Act}{w:World}(hr:Region.ready md ops listed=[])(h:Q .normal a w):∀fuel,jF P md ops Q fuel [] listed a w
 |0=>by unfold jF;exact⟨hr,h⟩
 |_+1=>by unfold jF;exact⟨hr,h⟩
def mF {m':Nat}{S':List HP}{d:Option Nat}{op:Op}{ty:TypeId}{pos:String}{af:Array Edge}(hi:ops[m]?=some ⟨d,op,ty,pos,af,none⟩)(hr:Region.ready .any ops.toArray listed=[m])(hd:inB n d=true)
  (h:Ld E n L H ⟨d,op,ty,pos,af,none⟩ (fun v H'=>(∀k,dU H' k→dU S' k)∧WPS E ops ((m',S')::r) Q fuel (listed.setIfInBounds m true) n (putL d v L) H')):WPS E ops ((m,S)::(m',S')::r) Q (fuel+1) listed n L H:=fun a w g _=>by
 unfold stg;simp only[jo];unfold jF;refine⟨fun h0=>(by rw[hr]at h0;cases h0),fun j hj=>?_⟩;obtain rfl:j=m:=by rw[hr]at hj;simpa using hj
 unfold wpOp;simp only[eH hi,Region.wanted,if_true];exact .inl (h _ _ a w g (fun v H' w' hk hs=>⟨fun _=>⟨hs.imp hk.1,hk.2 _ _ ⟨g.f.put d v hd,hs⟩ (hs.imp hk.1)⟩,fun e=>absurd O e⟩))
def mE {d:Option Nat}{op:Op}{ty:TypeId}{pos:String}{af:Array Edge}(hi:ops[m]?=some ⟨d,op,ty,pos,af,none⟩)(hr:Region.ready .any ops.toArray listed=[m])(hr2:Region.ready .any ops.toArray (listed.setIfInBounds m true)=[])(hd:inB n d=true)
  (h:Ld E n L H ⟨d,op,ty,pos,af,none⟩ (fun v H'=>AT E Q .normal n (putL d v L) H')):WPS E ops [(m,S)] Q (fuel+1) listed n L H:=fun a w g _=>by
 unfold stg;simp only[jo,oN];unfold jF;refine⟨fun h0=>(by rw[hr]at h0;cases h0),fun j hj=>?_⟩;obtain rfl:j=m:=by rw[hr]at hj;simpa using hj
 unfold wpOp;simp only[eH hi,Region.wanted,if_true];exact .inl (h _ _ a w g (fun v H' w' hk hs=>⟨fun _=>⟨trivial,qTt hr2 (hk _ _ ⟨g.f.put d v hd,hs⟩) fuel⟩,fun e=>absurd O e⟩))
end
section
open Go Go.RowKit
variable {E:Env}{n:Nat}{L:Fr}{H:List HP}{Q:Exit→Act→World→Prop}{m fuel:Nat}{listed:Array Bool}{ops:List Oper}{S:List HP}{r:List (Nat×List HP)}{d:Option Nat}{op:Op}{ty:TypeId}{pos:String}{af:Array Edge}{v:Value}
def uP (i:Nat){Ss:List (Nat×List HP)}(hi:ops[i]?=some ⟨d,op,ty,pos,af,none⟩)(hy:Yl E n L [] ⟨d,op,ty,pos,af,none⟩ v)(k:WPS E ops Ss Q fuel (listed.setIfInBounds i true) n (putL d v L) H)(hQ:Calm Q:=by with_reducible (repeat(first |exact aF|apply aG|apply aH)))
  (hf:calmB ops.toArray listed i=true:=by kernel_rfl) (hm:qEl ops.toArray i Ss=true:=by kernel_rfl) (hd:inB n d=true:=by exact rfl):WPS E ops Ss Q (fuel+1) listed n L H:=s_calm i hi hy hQ hf hm hd k
def uQ (i:Nat)(hi:ops[i]?=some ⟨d,op,ty,pos,af,none⟩)(hy:Yl E n L S ⟨d,op,ty,pos,af,none⟩ v)(k:WPS E ops ((m,S)::r) Q fuel (listed.setIfInBounds i true) n (putL d v L) H)(hQ:Calm Q:=by with_reducible (repeat(first |exact aF|apply aG|apply aH)))
  (hf:qMv ops.toArray m listed i=true:=by kernel_rfl) (hd:inB n d=true:=by exact rfl):WPS E ops ((m,S)::r) Q (fuel+1) listed n L H:=s_take i hi hy hQ hf hd k
end
end Sl
