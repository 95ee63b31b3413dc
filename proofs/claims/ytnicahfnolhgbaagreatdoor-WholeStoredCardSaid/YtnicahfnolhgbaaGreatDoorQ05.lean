import Derived.Test.YtnicahfnolhgbaaGreatDoorQ07
set_option linter.all false
set_option maxHeartbeats 1000000
namespace Sl
open Go Go.RowKit
variable {E:Bp}{n:Nat}{L:Fr}{S:List HP}{ty:TypeId}{pos:String}{af:Array Edge}{d:Option Nat}{gd:Option (Nat×Bool)}
def rA {x y}{xt yt:TypeId}{i j kx ky}(hx:ev L x=some (.int kx (i:Nat)))(hy:ev L y=some (.int ky (j:Nat)))(hj:j<=kx.bits):
  Yl E n L S ⟨d,.binOp .shr xt x y yt,ty,pos,af,gd⟩ (.int kx ((i/2^j:Nat):Int)):=fun a w g _=>by
 have e:(i:Int)/2^min ((j:Nat):Int).toNat kx.bits=((i/2^j:Nat):Int):=by
  rw[ny,show min j kx.bits=j from lm hj,xk,qb];rfl
 have h:=shift_shr_any kx ky (i:Int) ((j:Nat):Int) (oP j);rw[e]at h;simp[execOp,eqGuard,binOp,g.ev hx,g.ev hy,h]
def dK {i}(h0:0<=i)(h1:i<=18446744073709551615):IntKind.u64.wrap i=i:=by rw[IntKind.wrap_u64];omega
end Sl
namespace Go
section
variable {P:Program}{ops:Array Oper}{Q:Exit->Act->World->Prop}{md:Region.Mode}
abbrev DK:=List (Nat×(World->Prop))
def DK.now:DK->World->Prop
 |[],_=>True
 |(_,S)::_,w=>S w
def jP (P:Program)(md:Region.Mode)(ops:Array Oper)(Q:Exit->Act->World->Prop):Nat->DK->Array Bool->Act->World->Prop
 |_,[],listed,a,w=>Region.ready md ops listed=[]/\Q .normal a w
 |0,_::_,listed,a,w=>Region.ready md ops listed=[]/\Q .normal a w
 |fuel+1,(m,S)::r,listed,a,w=>
  (Region.ready md ops listed=[]->Q .normal a w)/\
  ∀i∈Region.ready md ops listed,wpOp P ops Q i (fun a' w'=>(i=m->DK.now r w'/\jP P md ops Q fuel r (listed.setIfInBounds i true) a' w')/\(i≠m->S w'/\jP P md ops Q fuel ((m,S)::r) (listed.setIfInBounds i true) a' w')) a w
def Wm:∀(fuel:Nat)(Ss:DK)(listed:Array Bool)(a:Act)(w:World),jP P md ops Q fuel Ss listed a w->wpAny P md ops Q fuel listed a w
 |0,[],_,_,_,h=>by unfold jP at h;unfold wpAny;exact h
 |0,_::_,_,_,_,h=>by unfold jP at h;unfold wpAny;exact h
 |fuel+1,[],_,_,_,h=>by
  unfold jP at h;exact⟨fun _=>h.2,by rw[h.1];simp⟩
 |fuel+1,(m,S)::r,listed,_,_,h=>by
  unfold jP at h;refine⟨h.1,fun i hi=>wpOp_mono (fun a' w' h'=>?_) (h.2 i hi)⟩;by_cases e:i=m
  ·exact Wm fuel _ _ a' w' (h'.1 e).2
  exact Wm fuel _ _ a' w' (h'.2 e).2
def qNj {i j listed}(hj:j∈Region.ready md ops listed)(hi:i∈Region.ready md ops listed):∃oj,ops[j]?=some oj/\listed.getD j true=false/\(∀e∈oj.after,Region.binds md e=true->e.on≠i):=by
 obtain⟨hA,oj,hC,hB⟩:=mem_ready.1 hj;refine⟨oj,hC,hA,fun e he hb hD=>?_⟩;have h1:=hB e he hb;have h0:=(mem_ready.1 hi).1;rw[hD]at h1;rcases fw i listed.size with h'|h'
 ·simp[h']at h0 h1;rw[h0]at h1;cases h1
 simp[qh h']at h1
def qMj {oi:Oper}{i j:Nat}{listed:Array Bool}(hA:∀j oj,ops[j]?=some oj->j≠i->listed.getD j true=false->(∀e∈oj.after,Region.binds md e=true->e.on≠i)->oi.apart ops oj=true) (hB:listed.getD j true=false):
  ∀k ok,ops[k]?=some ok->k≠i->(listed.setIfInBounds j true).getD k true=false->(∀e∈ok.after,Region.binds md e=true->e.on≠i)->oi.apart ops ok=true:=fun k ok hk hE hC hF=>by
 refine hA k ok hk hE ?_ hF;by_cases hD:j=k
 ·subst hD;exact hB
 rw[getD_set_ne true hD]at hC;exact hC
def qOd {m:Nat}{S:World->Prop}{r:DK}{i:Nat}{oi:Oper}{v:Value}(hi:ops[i]?=some oi)(hC:∀(j:Nat)(o:Oper)cs b,ops[j]?=some o->o.op≠ .select cs b)
  (hQ:∀c a w,Q (.panic c) (a.put oi.dst v) w->Q (.panic c) a w) (hH:i≠m) (hw:Region.waitsFor md ops m i=true):
  ∀(fuel:Nat)(listed:Array Bool)(a:Act)(w:World),
   (∀j oj,ops[j]?=some oj->j≠i->listed.getD j true=false->(∀e∈oj.after,Region.binds md e=true->e.on≠i)->oi.apart ops oj=true)->
   i∈Region.ready md ops listed->YieldsIf P ops S oi v a->S w->
   jP P md ops Q fuel ((m,S)::r) (listed.setIfInBounds i true) (a.put oi.dst v) w->jP P md ops Q (fuel+1) ((m,S)::r) listed a w:=by
 intro fuel;induction fuel with
 |zero=>
  intro listed a w _ hr hy hS H
  unfold jP at H
  unfold jP
  refine⟨fun h=>(by rw[h]at hr;cases hr),fun j hj=>?_⟩
  by_cases hA:j=i
  ·subst hA;exact hy.wpOp hi hS ⟨fun e=>absurd e hH,fun _=>⟨hS,by unfold jP;exact H⟩⟩
  have:=ready_mono hj hA
  rw[H.1]at this
  cases this
 |succ fuel ih=>
  intro listed a w hB hr hy hS H
  unfold jP
  refine⟨fun h=>(by rw[h]at hr;cases hr),fun j hj=>?_⟩
  by_cases hA:j=i
  ·subst hA;exact hy.wpOp hi hS ⟨fun e=>absurd e hH,fun _=>⟨hS,H⟩⟩
  have hE:j≠m:=fun e=>xG (e▸hj) hr hw
  unfold jP at H
  have h1:=H.2 j (ready_mono hj hA)
  obtain⟨oj,hF,hD,hG⟩:=qNj hj hr
  have h2:=wpOp_putIf hF (hB j oj hF hA hD hG) (fun cs b=>hC i oi cs b hi) (fun cs b=>hC j oj cs b hF) hQ hy h1
  refine wpOp_mono (fun a' w' h3=>⟨fun e=>absurd e hE,fun _=>⟨(h3.2.2 hE).1,ih (listed.setIfInBounds j true) a' w' (qMj hB hD) (ready_mono hr (Ne.symm hA)) h3.1 (h3.2.2 hE).1 ?_⟩⟩) h2
  rw[vk _ _ hA]
  exact(h3.2.2 hE).2
def DK.waits (md:Region.Mode)(ops:Array Oper)(i:Nat):DK->Prop
 |[]=>False
 |[(m,_)]=>i≠m/\Region.waitsFor md ops m i=true
 |(m,_)::r=>i≠m/\DK.waits md ops i r
def qQl {i:Nat}{oi:Oper}{v:Value}(hi:ops[i]?=some oi)(hD:∀(j:Nat)(o:Oper)cs b,ops[j]?=some o->o.op≠ .select cs b)
  (hQ:∀c a w,Q (.panic c) (a.put oi.dst v) w->Q (.panic c) a w) {T:World->Prop}:
  ∀(fuel:Nat)(Ss:DK)(listed:Array Bool)(a:Act)(w:World),DK.waits md ops i Ss->(∀m S,(m,S)∈Ss->∀w,S w->T w)->
   (∀j oj,ops[j]?=some oj->j≠i->listed.getD j true=false->(∀e∈oj.after,Region.binds md e=true->e.on≠i)->oi.apart ops oj=true)->
   i∈Region.ready md ops listed->YieldsIf P ops T oi v a->DK.now Ss w->
   jP P md ops Q fuel Ss (listed.setIfInBounds i true) (a.put oi.dst v) w->jP P md ops Q (fuel+1) Ss listed a w:=by
 intro fuel;induction fuel with
 |zero=>
  intro Ss listed a w hm hT _ hr hy hS H
  cases Ss with
  |nil=>exact absurd hm id
  |cons s r=>
   obtain⟨m,S⟩:=s
   have hF:i≠m:=by cases r with
    |nil=>exact hm.1
    |cons _ _=>exact hm.1
   unfold jP at H
   unfold jP
   refine⟨fun h=>(by rw[h]at hr;cases hr),fun j hj=>?_⟩
   by_cases hB:j=i
   ·subst hB;exact hy.wpOp hi (hT _ _ (nk ..) _ hS) ⟨fun e=>absurd e hF,fun _=>⟨hS,by unfold jP;exact H⟩⟩
   have:=ready_mono hj hB
   rw[H.1]at this
   cases this
 |succ fuel ih=>
  intro Ss listed a w hm hT hC hr hy hS H
  cases Ss with
  |nil=>exact absurd hm id
  |cons s r=>
   obtain⟨m,S⟩:=s
   have hF:i≠m:=by cases r with
    |nil=>exact hm.1
    |cons _ _=>exact hm.1
   unfold jP
   refine⟨fun h=>(by rw[h]at hr;cases hr),fun j hj=>?_⟩
   by_cases hB:j=i
   ·subst hB;exact hy.wpOp hi (hT _ _ (nk ..) _ hS) ⟨fun e=>absurd e hF,fun _=>⟨hS,H⟩⟩
   unfold jP at H
   have h1:=H.2 j (ready_mono hj hB)
   obtain⟨oj,hG,hE,hH⟩:=qNj hj hr
   have h2:=wpOp_putIf hG (hC j oj hG hB hE hH) (fun cs b=>hD i oi cs b hi) (fun cs b=>hD j oj cs b hG) hQ hy h1
   have hA:=qMj hC hE
   refine wpOp_mono (fun a' w' h3=>⟨fun e=>?_,fun e=>?_⟩) h2
   ·cases r with
    |nil=>exact absurd (xG (e▸hj) hr hm.2) id
    |cons s' r'=>
     have h4:=h3.2.1 e
     refine⟨h4.1,ih _ (listed.setIfInBounds j true) a' w' hm.2 (fun m S h=>hT m S (lg _ h)) hA (ready_mono hr (Ne.symm hB)) h3.1 h4.1 ?_⟩
     rw[vk _ _ hB]
     exact h4.2
   have h4:=h3.2.2 e
   refine⟨h4.1,ih _ (listed.setIfInBounds j true) a' w' hm hT hA (ready_mono hr (Ne.symm hB)) h3.1 h4.1 ?_⟩
   rw[vk _ _ hB]
   exact h4.2
end
end Go
namespace Sl
section
open Go Go.RowKit
variable {E:Bp}{n:Nat}{L:Fr}{H:List HP}{Q:Exit->Act->World->Prop}{m fuel:Nat}{listed:Array Bool}{ops:List Oper}{S:List HP}{r:List (Nat×List HP)}
def UI (w0:World)(Ss:List (Nat×List HP)):DK:=Ss.map fun x=>(x.1,fun w=>CR w0 w x.2)
def Ir (E:Bp)(ops:List Oper)(Ss:List (Nat×List HP))(Q:Exit->Act->World->Prop)(fuel:Nat)(listed:Array Bool)(n:Nat)(L:Fr)(H:List HP):Prop:=
 ∀a w,Dz E n L H a w->DK.now (UI E.w0 Ss) w->jP E.P .any ops.toArray Q fuel (UI E.w0 Ss) listed a w
def eZ (m:Nat)(S:List HP)(r:List (Nat×List HP)){id}(hS:∀k,dW H k->dW S k) (h:Ir E ops ((m,S)::r) Q ops.toArray.size (Array.replicate ops.toArray.size false) n L H):WP E (.region id ops.toArray true) Q n L H:=fun a _ g=>
 wp_region_any E.mixed (Wm _ _ _ _ _ (h a _ ⟨g.f,g.hp.drew⟩ (g.hp.drew.imp hS)))
def Rx (i:Nat){d op}{ty:TypeId}{pos af v}(hi:ops[i]?=some ⟨d,op,ty,pos,af,none⟩)
  (hy:Yl E n L S ⟨d,op,ty,pos,af,none⟩ v) (hQ:EG Q) (hf:QV ops.toArray m listed i=true) (hd:Ep n d=true)
  (k:Ir E ops ((m,S)::r) Q fuel (listed.setIfInBounds i true) n (Cj d v L) H):Ir E ops ((m,S)::r) Q (fuel+1) listed n L H:=fun a w g hS=>by
 simp only[QV,ik,yc,beq_eq_false_iff_ne]at hf;exact qOd (fA hi) (Region.noSelect_spec hf.1) (fun c a w h=>hQ c a w d v h) hf.2.2.2.1 hf.2.2.2.2 fuel listed a w (Region.free_spec (fA hi) hf.2.1) (by simpa using hf.2.2.1) (.inl ⟨O,fun w hw=>hy a w g.f hw⟩) hS (k _ _ ⟨g.f.put d v hd,g.hp⟩ hS)
def Rk (ops:Array Oper)(i:Nat):List (Nat×List HP)->Bool
 |[]=>false
 |[(m,_)]=>!(i==m)&&Region.waitsFor .any ops m i
 |(m,_)::r=>!(i==m)&&Rk ops i r
def Zt {ops i w0}:∀{Ss:List (Nat×List HP)},Rk ops i Ss=true->DK.waits .any ops i (UI w0 Ss)
 |[],h=>by simp[Rk]at h
 |[(m,_)],h=>by
  simp only[Rk,ik,yc,beq_eq_false_iff_ne]at h;exact h
 |(m,_)::y::r,h=>by
  simp only[Rk,ik,yc,beq_eq_false_iff_ne]at h;exact⟨h.1,Zt (Ss:=y::r) h.2⟩
def JZ (ops:Array Oper)(listed:Array Bool)(i:Nat):Bool:=Region.noSelect ops&&(Region.free .any ops listed i&&(Region.ready .any ops listed).contains i)
def Rw (i:Nat){Ss d op}{ty:TypeId}{pos af v}(hi:ops[i]?=some ⟨d,op,ty,pos,af,none⟩)
  (hy:Yl E n L [] ⟨d,op,ty,pos,af,none⟩ v) (hQ:EG Q) (hf:JZ ops.toArray listed i=true) (hm:Rk ops.toArray i Ss=true) (hd:Ep n d=true)
  (k:Ir E ops Ss Q fuel (listed.setIfInBounds i true) n (Cj d v L) H):Ir E ops Ss Q (fuel+1) listed n L H:=fun a w g hS=>by
 simp only[JZ,ik]at hf;refine qQl (fA hi) (Region.noSelect_spec hf.1) (fun c a w h=>hQ c a w d v h) (T:=fun w=>CR E.w0 w []) fuel _ listed a w (Zt hm) ?_ (Region.free_spec (fA hi) hf.2.1) (by simpa using hf.2.2) (.inl ⟨O,fun w hw=>hy a w g.f hw⟩) hS (k _ _ ⟨g.f.put d v hd,g.hp⟩ hS);intro m S h w hw;obtain⟨x,_,e⟩:=jg.1 h;obtain⟨rfl,rfl⟩:=Prod.mk.inj e;exact hw.imp fun _ _=>(show dW [] _ from by first |trivial |exact True.intro)
def qVe {P ops md listed a w}(hr:Region.ready md ops listed=[])(h:Q .normal a w):∀fuel,jP P md ops Q fuel [] listed a w
 |0=>by unfold jP;exact⟨hr,h⟩
 |_+1=>by unfold jP;exact⟨hr,h⟩
def iB {m' S' d op}{ty:TypeId}{pos af}(hi:ops[m]?=some ⟨d,op,ty,pos,af,none⟩)(hr:Region.ready .any ops.toArray listed=[m])(hd:Ep n d=true)
  (h:Ld E n L H ⟨d,op,ty,pos,af,none⟩ (fun v H'=>(∀k,dW H' k->dW S' k)/\Ir E ops ((m',S')::r) Q fuel (listed.setIfInBounds m true) n (Cj d v L) H')):Ir E ops ((m,S)::(m',S')::r) Q (fuel+1) listed n L H:=fun a w g _=>by
 unfold UI;simp only[kz];unfold jP;refine⟨fun h0=>(by rw[hr]at h0;cases h0),fun j hj=>?_⟩;obtain rfl:j=m:=by rw[hr]at hj;simpa using hj
 unfold wpOp;simp only[fA hi,Region.wanted,if_true];exact .inl (h _ _ a w g (fun v H' w' hk hs=>⟨fun _=>⟨hs.imp hk.1,hk.2 _ _ ⟨g.f.put d v hd,hs⟩ (hs.imp hk.1)⟩,fun e=>absurd O e⟩))
def gZ {d op}{ty:TypeId}{pos af}(hi:ops[m]?=some ⟨d,op,ty,pos,af,none⟩)(hr:Region.ready .any ops.toArray listed=[m])(hA:Region.ready .any ops.toArray (listed.setIfInBounds m true)=[])(hd:Ep n d=true)
  (h:Ld E n L H ⟨d,op,ty,pos,af,none⟩ (fun v H'=>AT E Q .normal n (Cj d v L) H')):Ir E ops [(m,S)] Q (fuel+1) listed n L H:=fun a w g _=>by
 unfold UI;simp only[kz,qg];unfold jP;refine⟨fun h0=>(by rw[hr]at h0;cases h0),fun j hj=>?_⟩;obtain rfl:j=m:=by rw[hr]at hj;simpa using hj
 unfold wpOp;simp only[fA hi,Region.wanted,if_true];exact .inl (h _ _ a w g (fun v H' w' hk hs=>⟨fun _=>⟨trivial,qVe hA (hk _ _ ⟨g.f.put d v hd,hs⟩) fuel⟩,fun e=>absurd O e⟩))
end
section
open Go Go.RowKit
variable {E:Bp}{n:Nat}{L:Fr}{H:List HP}{Q:Exit->Act->World->Prop}{m fuel:Nat}{listed:Array Bool}{ops:List Oper}{S:List HP}{r:List (Nat×List HP)}{d:Option Nat}{op:Op}{ty:TypeId}{pos:String}{af:Array Edge}{v:Value}
def uP (i:Nat){Ss}(hi:ops[i]?=some ⟨d,op,ty,pos,af,none⟩)(hy:Yl E n L [] ⟨d,op,ty,pos,af,none⟩ v)(k:Ir E ops Ss Q fuel (listed.setIfInBounds i true) n (Cj d v L) H)(hQ:EG Q:=by with_reducible (repeat(first |exact aF|apply aG|apply aH)))
  (hf:JZ ops.toArray listed i=true:=by kernel_rfl) (hm:Rk ops.toArray i Ss=true:=by kernel_rfl) (hd:Ep n d=true:=by exact rfl):Ir E ops Ss Q (fuel+1) listed n L H:=Rw i hi hy hQ hf hm hd k
def uQ (i:Nat)(hi:ops[i]?=some ⟨d,op,ty,pos,af,none⟩)(hy:Yl E n L S ⟨d,op,ty,pos,af,none⟩ v)(k:Ir E ops ((m,S)::r) Q fuel (listed.setIfInBounds i true) n (Cj d v L) H)(hQ:EG Q:=by with_reducible (repeat(first |exact aF|apply aG|apply aH)))
  (hf:QV ops.toArray m listed i=true:=by kernel_rfl) (hd:Ep n d=true:=by exact rfl):Ir E ops ((m,S)::r) Q (fuel+1) listed n L H:=Rx i hi hy hQ hf hd k
end
end Sl
