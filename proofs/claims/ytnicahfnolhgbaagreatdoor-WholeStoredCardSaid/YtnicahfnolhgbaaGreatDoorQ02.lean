import Derived.Test.YtnicahfnolhgbaaGreatDoorQ01
import Derived.BigQuiet
import Derived.Deep.QuietTactic
import Derived.Deep.RegionHeld3
import Derived.Laws.Bits64b
import Derived.Laws.StructEq
import Derived.Lib.Hide
import Derived.Lib.Mul64
import Derived.StillTailTactics
set_option linter.all false
set_option maxHeartbeats 1000000
namespace Sl
open Go Go.RowKit Go.Proofs.YtnicahfnolhgbaaGreatDoor
variable {E:Bp}{n:Nat}{L:Fr}{S H H':List HP}{ty:TypeId}{pos:String}{af:Array Edge}{d:Option Nat}{gd:Option (Nat×Bool)}{K:Value->List HP->Prop}
def gF {x y}{t e:TypeId}{p len cap s b sz zs k i}(m:Nat)(hx:ev L x=some (.slice p len cap))(hy:ev L y=some (.int k i))(ht:E.tab t=some ⟨.slice e s b,sz,zs⟩)(hi:i=(m:Nat))(hm:m<=cap):
  Yl E n L S ⟨d,.slice t x none (some y) none,ty,pos,af,gd⟩ (.slice p m cap):=fun a w g hs=>by
 subst hi;have:=jZ (S:=S) (d:=d) (ty:=ty) (pos:=pos) (af:=af) (gd:=gd) (lo:=none) (hi:=some y) (l:=0) (h:=m) hx ht rfl ⟨k,hy⟩ (av _) hm a w g hs;rw[this];have e0:(p.map (·.add (0*s)))=p:=by cases p<;>simp[Addr.add]
 simp only[e0,ite_self,Nat.sub_zero]
def qDt {x y}{t tn e:TypeId}{p c m k es by_ sz sz' szn xs zs zs' zsn kk kn i}(ht:E.tab t=some ⟨.slice e es by_,sz,zs⟩)(he:E.tab e=some ⟨kk,sz',zs'⟩)(hD:E.tab tn=some ⟨.int kn,szn,zsn⟩)(hz:(Nat.beq zs'.length es&&(Nat.blt 0 es&&iU zs'))=true)
  (hx:ev L x=some (.slice p m c)) (hy:ev L y=some (.int .i64 i)) (hi:i=(k:Nat)) (hm:CO (sl p c e es m xs) H H') (h0:0<k) (hb:(m+k)*by_<=140737488355328) (hE:m+k<=maxLen)
  (hk:∀g' c' us,(∀z:Value,z.cells.toList=zs'->us=(Builtin.zeroCells z.cells k).toList)->K (.slice (some ⟨g',0,none⟩) (m+k) c') (sl (some ⟨g',0,none⟩) c' e es (m+k) (xs++us)::H')):Ld E n L H ⟨d,.call {callee:= .builtin .append,args:= #[x,y],argTypes:= #[t,tn]},ty,pos,af,gd⟩ K:=fun Q next a w G hn=>by
 obtain⟨hu,j,hj,hs,hF⟩:=fD ht;obtain⟨i',z,hC,hK,hG,hA,_⟩:=fC he;obtain rfl:i'=j:=by rw[hC]at hj;simpa using hj
 simp only[ik]at hz;have z1:=mg hz.1;have z2:0<es:=by simpa[zo]using hz.2.1
 have s2:=G.hp.take hm;subst hi;obtain⟨g',c',w',hr,ho,hH,hI,_⟩:=qBq (P:=E.P) w t tn ty E.w0.heap.size e i' z kn es by_ hu (nJ hD) hC hG hs hF (by rw[<-mo,hA];exact z1) z2 (by rw[hA];exact WV hz.2.2) (.slice p m c) m xs s2.owns k h0 hE hb s2.size
 have hB:(execOp a.eval ⟨d,.call {callee:= .builtin .append,args:= #[x,y],argTypes:= #[t,tn]},ty,pos,af,gd⟩).run E.P w= .ok (.value (.slice (some ⟨g',0,none⟩) (m+k) c')) w':=by
  simp[execOp,resolve,invoke,builtin,G.f.ev hx,G.f.ev hy,hr]
 unfold Oper.wp;rw[hB,Oper.upon_value];refine hn _ _ _ (hk g' c' _ (fun z' hJ=>?_)) (s2.resl ho hH hI);have:z.cells=z'.cells:=xf.1 (by rw[hA,hJ]);rw[this]
def jT {ι:Type}{Q:Exit->Act->World->Prop}(I:ι->Fr)(J:ι->List HP)(ok:ι->Prop){x y}(h1:WP E x (Exit.then (fun a w=>∃i,ok i/\Dz E n (I i) (J i) a w) Q) n L H) (h2:∀i,ok i->WP E y Q n (I i) (J i)):WP E (.seq x y) Q n L H:=fun a w g=>
 wp_seq (Code.wp_mono (fun e a w q=>by
  cases e with
  |normal=>obtain⟨i,hi,hg⟩:=q;exact h2 i hi a w hg
  |_=>exact q) (h1 a w g))
def eX {ι:Type}{Q:Exit->Act->World->Prop}{I:ι->Fr}{J:ι->List HP}{ok:ι->Prop}(i:ι)(hi:ok i)(hL:wk L (I i))(hH:∀k,dW H k->dW (J i) k):AT E (Exit.then (fun a w=>∃i,ok i/\Dz E n (I i) (J i) a w) Q) .normal n L H:=fun _ _ g=>⟨i,hi,g.f.wk hL,g.hp.imp hH⟩
end Sl
namespace Go
section
variable {P:Program}{ops:Array Oper}{Q:Exit->Act->World->Prop}{md:Region.Mode}{S:World->Prop}{m:Nat}
def TA (P:Program)(md:Region.Mode)(ops:Array Oper)(Q:Exit->Act->World->Prop)(S:World->Prop)(m:Nat):Nat->Array Bool->Act->World->Prop
 |0,listed,a,w=>Region.ready md ops listed=[]/\Q .normal a w
 |fuel+1,listed,a,w=>
  (Region.ready md ops listed=[]->Q .normal a w)/\
  ∀i∈Region.ready md ops listed,wpOp P ops Q i (fun a' w'=>(i≠m->S w')/\TA P md ops Q S m fuel (listed.setIfInBounds i true) a' w') a w
def qHw:∀(fuel:Nat)(listed:Array Bool)(a:Act)(w:World),TA P md ops Q S m fuel listed a w->wpAny P md ops Q fuel listed a w
 |0,_,_,_,h=>h
 |fuel+1,_,_,_,h=>⟨h.1,fun i hi=>wpOp_mono (fun a' w' h'=>qHw fuel _ a' w' h'.2) (h.2 i hi)⟩
def xG {i j listed}(hj:j∈Region.ready md ops listed)(hi:i∈Region.ready md ops listed)(hw:Region.waitsFor md ops j i=true):False:=by
 obtain⟨oj,hC,e,he,hb,hD⟩:=Region.waitsFor_spec hw;obtain⟨_,oj',hA,hB⟩:=mem_ready.1 hj;rw[hC]at hA;cases hA
 have h1:=hB e he hb;have h0:=(mem_ready.1 hi).1;rw[hD]at h1;rcases fw i listed.size with h'|h'
 ·simp[h']at h0 h1;rw[h0]at h1;cases h1
 simp[qh h']at h1
def qOc {i oi v}(hi:ops[i]?=some oi)(hD:∀(j:Nat)(o:Oper)cs b,ops[j]?=some o->o.op≠ .select cs b)
  (hQ:∀c a w,Q (.panic c) (a.put oi.dst v) w->Q (.panic c) a w) (hO:i≠m) (hw:Region.waitsFor md ops m i=true):
  ∀(fuel:Nat)(listed:Array Bool)(a:Act)(w:World),
   (∀j oj,ops[j]?=some oj->j≠i->listed.getD j true=false->(∀e∈oj.after,Region.binds md e=true->e.on≠i)->oi.apart ops oj=true)->
   i∈Region.ready md ops listed->YieldsIf P ops S oi v a->S w->
   TA P md ops Q S m fuel (listed.setIfInBounds i true) (a.put oi.dst v) w->TA P md ops Q S m (fuel+1) listed a w:=by
 intro fuel;induction fuel with
 |zero=>
  intro listed a w _ hr hy hS H
  refine⟨fun h=>(by rw[h]at hr;cases hr),fun j hj=>?_⟩
  by_cases hA:j=i
  ·subst hA;exact hy.wpOp hi hS ⟨fun _=>hS,H⟩
  have:=ready_mono hj hA
  rw[H.1]at this
  cases this
 |succ fuel ih=>
  intro listed a w hB hr hy hS H
  refine⟨fun h=>(by rw[h]at hr;cases hr),fun j hj=>?_⟩
  by_cases hA:j=i
  ·subst hA;exact hy.wpOp hi hS ⟨fun _=>hS,H⟩
  have hK:j≠m:=fun e=>xG (e▸hj) hr hw
  have h1:=H.2 j (ready_mono hj hA)
  obtain⟨hE,oj,hF,hG⟩:=mem_ready.1 hj
  have hH:∀e∈oj.after,Region.binds md e=true->e.on≠i:=fun e he hb hL=>by
   have h1:=hG e he hb;have h0:=(mem_ready.1 hr).1;rw[hL]at h1;rcases fw i listed.size with h'|h'
   ·simp[h']at h0 h1;rw[h0]at h1;cases h1
   simp[qh h']at h1
  have h2:=wpOp_putIf hF (hB j oj hF hA hE hH) (fun cs b=>hD i oi cs b hi) (fun cs b=>hD j oj cs b hF) hQ hy h1
  have hC:∀k ok,ops[k]?=some ok->k≠i->(listed.setIfInBounds j true).getD k true=false->
    (∀e∈ok.after,Region.binds md e=true->e.on≠i)->oi.apart ops ok=true:=fun k ok hk hM hI hN=>by
   refine hB k ok hk hM ?_ hN;by_cases hJ:j=k
   ·subst hJ;exact hE
   rw[getD_set_ne true hJ]at hI;exact hI
  refine wpOp_mono (fun a' w' h3=>⟨h3.2.1,ih (listed.setIfInBounds j true) a' w' hC (ready_mono hr (Ne.symm hA)) h3.1 (h3.2.1 hK) ?_⟩) h2
  rw[vk _ _ hA]
  exact h3.2.2
end
end Go
namespace Sl
section
open Go Go.RowKit
variable {E:Bp}{n:Nat}{L:Fr}{H:List HP}{Q:Exit->Act->World->Prop}{m:Nat}
def Ea (E:Bp)(ops:List Oper)(m:Nat)(S:List HP)(Q:Exit->Act->World->Prop)(fuel:Nat)(listed:Array Bool)(n:Nat)(L:Fr)(H:List HP):Prop:=
 (∀k,dW H k->dW S k)->∀a w,Dz E n L H a w->TA E.P .any ops.toArray Q (fun w=>CR E.w0 w S) m fuel listed a w
def PX (m:Nat)(S:List HP){id ops}(hS:∀k,dW H k->dW S k) (h:Ea E ops m S Q ops.toArray.size (Array.replicate ops.toArray.size false) n L H):WP E (.region id ops.toArray true) Q n L H:=fun a _ g=>
 wp_region_any E.mixed (qHw _ _ _ _ (h hS a _ ⟨g.f,g.hp.drew⟩))
def QV (ops:Array Oper)(m:Nat)(listed:Array Bool)(i:Nat):Bool:=Region.noSelect ops&&(Region.free .any ops listed i&&((Region.ready .any ops listed).contains i&&(!(i==m)&&Region.waitsFor .any ops m i)))
def bY {ops S fuel listed}(i:Nat){d op}{ty:TypeId}{pos af v}(hi:ops[i]?=some ⟨d,op,ty,pos,af,none⟩)
  (hy:Yl E n L S ⟨d,op,ty,pos,af,none⟩ v) (hQ:EG Q) (hf:QV ops.toArray m listed i=true) (hd:Ep n d=true)
  (k:Ea E ops m S Q fuel (listed.setIfInBounds i true) n (Cj d v L) H):Ea E ops m S Q (fuel+1) listed n L H:=fun hS a w g=>by
 simp only[QV,ik,yc,beq_eq_false_iff_ne]at hf;exact qOc (fA hi) (Region.noSelect_spec hf.1) (fun c a w h=>hQ c a w d v h) hf.2.2.2.1 hf.2.2.2.2 fuel listed a w (Region.free_spec (fA hi) hf.2.1) (by simpa using hf.2.2.1) (.inl ⟨O,fun w hw=>hy a w g.f hw⟩) (g.hp.imp hS) (k hS _ _ ⟨g.f.put d v hd,g.hp⟩)
def Zu {P ops md}{S:World->Prop}{listed a w}(hr:Region.ready md ops listed=[])(h:Q .normal a w):∀fuel,TA P md ops Q S m fuel listed a w
 |0=>⟨hr,h⟩
 |_+1=>⟨fun _=>h,by rw[hr];simp⟩
def QG {ops S fuel listed}(hr:Region.ready .any ops.toArray listed=[])(k:AT E Q .normal n L H):Ea E ops m S Q fuel listed n L H:=fun _ a w g=>Zu hr (k a w g) fuel
def fE {ops S fuel listed}(i:Nat){d op}{ty:TypeId}{pos af}(hi:ops[i]?=some ⟨d,op,ty,pos,af,none⟩)(hr:Region.ready .any ops.toArray listed=[i])(hd:Ep n d=true)
  (h:Ld E n L H ⟨d,op,ty,pos,af,none⟩ (fun v H'=>(∀k,dW H' k->dW S k)/\Ea E ops m S Q fuel (listed.setIfInBounds i true) n (Cj d v L) H')):Ea E ops m S Q (fuel+1) listed n L H:=fun _ a w g=>
 ⟨fun h0=>(by rw[hr]at h0;cases h0),fun j hj=>by
  obtain rfl:j=i:=by rw[hr]at hj;simpa using hj
  unfold wpOp;simp only[fA hi,Region.wanted,if_true];exact .inl (h _ _ a w g (fun v H' w' hk hs=>⟨fun _=>hs.imp hk.1,hk.2 hk.1 _ _ ⟨g.f.put d v hd,hs⟩⟩))⟩
def dG {ops S fuel listed}(i:Nat){d op}{ty:TypeId}{pos af v}(hi:ops[i]?=some ⟨d,op,ty,pos,af,none⟩)(hr:Region.ready .any ops.toArray listed=[i])
  (hy:Yl E n L H ⟨d,op,ty,pos,af,none⟩ v) (hd:Ep n d=true) (k:Ea E ops m S Q fuel (listed.setIfInBounds i true) n (Cj d v L) H):Ea E ops m S Q (fuel+1) listed n L H:=fun hS a w g=>
 ⟨fun h0=>(by rw[hr]at h0;cases h0),fun j hj=>by
  obtain rfl:j=i:=by rw[hr]at hj;simpa using hj
  unfold wpOp;simp only[fA hi,Region.wanted,if_true];refine .inl ?_;unfold Oper.wp;rw[hy a w g.f g.hp,Oper.upon_value];exact⟨fun _=>g.hp.imp hS,k hS _ _ ⟨g.f.put d v hd,g.hp⟩⟩⟩
def gW {ops S fuel listed d op}{ty:TypeId}{pos af}(hi:ops[m]?=some ⟨d,op,ty,pos,af,none⟩)(hr:Region.ready .any ops.toArray listed=[m])(hA:Region.ready .any ops.toArray (listed.setIfInBounds m true)=[])(hd:Ep n d=true)
  (h:Ld E n L H ⟨d,op,ty,pos,af,none⟩ (fun v H'=>AT E Q .normal n (Cj d v L) H')):Ea E ops m S Q (fuel+1) listed n L H:=fun _ a w g=>
 ⟨fun h0=>(by rw[hr]at h0;cases h0),fun j hj=>by
  obtain rfl:j=m:=by rw[hr]at hj;simpa using hj
  unfold wpOp;simp only[fA hi,Region.wanted,if_true];exact .inl (h _ _ a w g (fun v H' w' hk hs=>⟨fun h=>absurd O h,Zu hA (hk _ _ ⟨g.f.put d v hd,hs⟩) fuel⟩))⟩
def Db.eq {a}(g:Db n L a){t v v'}(hl:DJ L t=some v)(e:v=v'):Db n ((t,v')::L) a:=⟨g.sz,g.df,fun u x hx=>by
 rw[qQ]at hx;by_cases hu:t=u
 ·subst hu;rw[if_pos rfl]at hx;cases hx;subst e;exact g.fr t _ hl
 rw[if_neg hu]at hx;exact g.fr u x hx⟩
def BU {all s l}(t:Nat){v}(v':Value)(hl:DJ L t=some v)(e:v=v')(k:DI E all Q s l n ((t,v')::L) H):DI E all Q s l n L H:=fun a w g=>k a w ⟨g.f.eq hl e,g.hp⟩
def CW {c}(t:Nat){v}(v':Value)(hl:DJ L t=some v)(e:v=v')(k:WP E c Q n ((t,v')::L) H):WP E c Q n L H:=fun a w g=>k a w ⟨g.f.eq hl e,g.hp⟩
def jY {ex}(t:Nat){v}(v':Value)(hl:DJ L t=some v)(e:v=v')(k:AT E Q ex n ((t,v')::L) H):AT E Q ex n L H:=fun a w g=>k a w ⟨g.f.eq hl e,g.hp⟩
def bW {k i j}(h:i=j):Value.int k i= .int k j:=by rw[h]
def OL {all s d op}{ty:TypeId}{pos af rest j t b}(hj:(all[j]?).bind (·.dst)=some t)(hl:DJ L t=some undef)(hd:Ep n d=true)
  (k:DI E all Q (s-1) rest n (Cj d undef L) H):DI E all Q s (⟨d,op,ty,pos,af,some (j,b)⟩::rest) n L H:=fun a w g=>by
 have hk:=k _ _ ⟨g.f.put d undef hd,g.hp⟩;have hy:yielded all a.tmps j=none:=by simp[yielded,hj,g.f.fr t _ hl,undef]
 have hw:Region.wanted ⟨d,op,ty,pos,af,some (j,b)⟩ (yielded all a.tmps)=false:=by simp[Region.wanted,hy]
 cases s with
 |zero=>
  simp only[oJ,oU,wpStill]
  unfold wpList
  rw[if_neg (by rw[hw];simp)]
  exact hk
 |succ s=>
  simp only[oD,og]
  unfold wpStill
  rw[if_neg (by rw[hw];simp)]
  exact hk
end
section
open Go Go.RowKit
variable {E:Bp}{n:Nat}{L:Fr}{H H' S:List HP}{ty:TypeId}{pos:String}{af:Array Edge}{d:Option Nat}{gd:Option (Nat×Bool)}{K:Value->List HP->Prop}{Q:Exit->Act->World->Prop}{all:Array Oper}{s:Nat}{rest:List Oper}
abbrev BK (n:Nat):Value:= .int .i64 n
abbrev BL (n:Int):Value:= .int .i64 n
abbrev BM (b:Nat):Option Addr:=some ⟨b,0,none⟩
abbrev BN (b:List UInt8):Value:= .string ⟨⟨b⟩⟩
abbrev uPt (b:Nat):Value:= .pointer (some ⟨b,0,none⟩)
def uM {d x v}(h:ev L x=some v)(k:DI E all Q (s-1) rest n ((d,v)::L) H)(hd:Nat.blt d n=true:=by exact rfl):DI E all Q s (⟨some d,.move x,ty,pos,af,none⟩::rest) n L H:=aA (aB h) hd k
def uA {d x v}(h:ev L x=some v)(k:DI E all Q (s-1) rest n ((d,v)::L) H)(hd:Nat.blt d n=true:=by exact rfl):DI E all Q s (⟨some d,.assign x,ty,pos,af,none⟩::rest) n L H:=aA (aC h) hd k
def uL {d x}{t:TypeId}{b o k sz zs v}(w:DI E all Q (s-1) rest n ((d,v)::L) H)(ht:E.tab t=some ⟨k,sz,zs⟩:=by exact hE.t rfl)(h:ev L x=some (.pointer (some ⟨b,o,none⟩)):=by exact rfl)(hk:k.agg=false:=by exact rfl)
  (hm:Ew H b o v:=by(repeat(first |rfl|assumption|constructor))) (hd:Nat.blt d n=true:=by exact rfl):DI E all Q s (⟨some d,.load t x,ty,pos,af,none⟩::rest) n L H:=aA (aO h ht hk hm) hd w
def uY {x}{t:TypeId}{b o k sz zs v}(ht:E.tab t=some ⟨k,sz,zs⟩:=by exact hE.t rfl)(h:ev L x=some (.pointer (some ⟨b,o,none⟩)):=by exact rfl)(hk:k.agg=false:=by exact rfl)
  (hm:Ew S b o v:=by(repeat(first |rfl|assumption|constructor))):Yl E n L S ⟨d,.load t x,ty,pos,af,gd⟩ v:=aO h ht hk hm
def uF {d x}{t:TypeId}{k b o fo fs_ fs sz zs}(w:DI E all Q (s-1) rest n ((d,.pointer (some ⟨b,o+fo,none⟩))::L) H)(ht:E.tab t=some ⟨.struct fs,sz,zs⟩:=by exact hE.t rfl)(h:ev L x=some (.pointer (some ⟨b,o,none⟩)):=by exact rfl)(hk:fs[k]?=some (fo,fs_):=by exact rfl)(hd:Nat.blt d n=true:=by exact rfl):
  DI E all Q s (⟨some d,.fieldAddr t x k,ty,pos,af,none⟩::rest) n L H:=aA (aD h ht hk) hd w
def uD {ops fuel listed}(i:Nat){op v}(hi:ops[i]?=some ⟨d,op,ty,pos,af,none⟩)(hy:Yl E n L S ⟨d,op,ty,pos,af,none⟩ v)(k:FB E ops S Q fuel (listed.setIfInBounds i true) n (Cj d v L) H)
  (hQ:EG Q:=by with_reducible (repeat(first |exact aF|apply aG|apply aH))) (hf:(Region.noSelect ops.toArray&&(Region.free .any ops.toArray listed i&&(Region.ready .any ops.toArray listed).contains i))=true:=by kernel_rfl) (hd:Ep n d=true:=by exact rfl):FB E ops S Q (fuel+1) listed n L H:=bG i hi hy hQ hf hd k
def uT {ops fuel m listed}(i:Nat){op v}(hi:ops[i]?=some ⟨d,op,ty,pos,af,none⟩)(hy:Yl E n L S ⟨d,op,ty,pos,af,none⟩ v)(k:Ea E ops m S Q fuel (listed.setIfInBounds i true) n (Cj d v L) H)
  (hQ:EG Q:=by with_reducible (repeat(first |exact aF|apply aG|apply aH))) (hf:QV ops.toArray m listed i=true:=by kernel_rfl) (hd:Ep n d=true:=by exact rfl):Ea E ops m S Q (fuel+1) listed n L H:=bY i hi hy hQ hf hd k
def uU {op}(h:Ld E n L H ⟨d,op,ty,pos,af,none⟩ (fun v H'=>DI E all Q 0 rest n (Cj d v L) H')) (hs:Nat.beq s 0=true:=by kernel_rfl) (hd:Ep n d=true:=by exact rfl):DI E all Q s (⟨d,op,ty,pos,af,none⟩::rest) n L H:=aI hs hd h
def uE {P}(k:P)(h:∀k,dW H k->dW S k:=by(apply Dm;(repeat constructor);done)):(∀k,dW H k->dW S k)/\P:=⟨h,k⟩
def uC {f args}{ts:Array TypeId}{vs Pre}{Φ:Value->List HP->Prop}(hc:Ct E f vs Pre Φ)(ha:evs L args=some vs)(hk:∀v Qs,Φ v Qs->K v (Qs++H')) (hf:Fy E.P f=true:=by exact hE.f oK) (hs:IW Pre H H':=by((repeat constructor);done)):
  Ld E n L H ⟨d,.call {callee:= .value (.func f),args:=args.toArray,argTypes:=ts},ty,pos,af,gd⟩ K:=aZ hc ha hf hs hk
def uS {x y}{t:TypeId}{b o vs}{bt:TypeId}{k sz zs v}(hk:K undef (cells b (bX vs o (bP v)) bt::H'))(ht:E.tab t=some ⟨k,sz,zs⟩:=by exact hE.t rfl)(h:ev L x=some (.pointer (some ⟨b,o,none⟩)):=by exact rfl)(hy:ev L y=some v:=by exact rfl)
  (hA:(bP v).length=sz:=by exact rfl) (hm:CO (cells b vs bt) H H':=by((repeat constructor);done)) (hp:iU (bP v)=true:=by exact rfl) (hl:o+sz<=vs.length:=by exact bz rfl):Ld E n L H ⟨d,.store t x y,ty,pos,af,gd⟩ K:=bL h hy ht hA hm hp hl hk
def uH (S:List HP){id ops}(h:FB E ops S Q ops.toArray.size (Array.replicate ops.toArray.size false) n L H)(hS:∀k,dW H k->dW S k:=by(apply Dm;(repeat constructor);done)):WP E (.region id ops.toArray true) Q n L H:=Yw S hS h
def uN (m:Nat)(S:List HP){id ops}(h:Ea E ops m S Q ops.toArray.size (Array.replicate ops.toArray.size false) n L H)(hS:∀k,dW H k->dW S k:=by(apply Dm;(repeat constructor);done)):WP E (.region id ops.toArray true) Q n L H:=PX m S hS h
def uO {ops fuel listed}(i:Nat){op v j t b}(hi:ops[i]?=some ⟨d,op,ty,pos,af,some (j,b)⟩)(hj:(ops[j]?).bind (·.dst)=some t)(hl:DJ L t=some (.bool b))(hy:Yl E n L S ⟨d,op,ty,pos,af,some (j,b)⟩ v)
  (k:FB E ops S Q fuel (listed.setIfInBounds i true) n (Cj d v L) H) (hQ:EG Q:=by with_reducible (repeat(first |exact aF|apply aG|apply aH))) (hf:(Region.noSelect ops.toArray&&(Region.free .any ops.toArray listed i&&(Region.ready .any ops.toArray listed).contains i))=true:=by kernel_rfl) (hd:Ep n d=true:=by exact rfl):FB E ops S Q (fuel+1) listed n L H:=TR i hi hj hl hy hQ hf hd k
def uR {ops fuel listed}(i:Nat){op j t b c}(hi:ops[i]?=some ⟨d,op,ty,pos,af,some (j,b)⟩)(hj:(ops[j]?).bind (·.dst)=some t)(hl:DJ L t=some (.bool c))(hA:(c==b)=false)
  (k:FB E ops S Q fuel (listed.setIfInBounds i true) n (Cj d undef L) H) (hQ:EG Q:=by with_reducible (repeat(first |exact aF|apply aG|apply aH))) (hf:(Region.noSelect ops.toArray&&(Region.free .any ops.toArray listed i&&(Region.ready .any ops.toArray listed).contains i))=true:=by kernel_rfl) (hd:Ep n d=true:=by exact rfl):FB E ops S Q (fuel+1) listed n L H:=Pv i hi hj hl hA hQ hf hd k
def uI {H H'}(h:∀k,dW H k->dW H' k:=by(apply Dm;(repeat constructor);done)):∀k,dW H k->dW H' k:=h
def uK {P}(h:P:=by((repeat constructor);done)):P:=h
def uV {α:Type}(a:α)(s t:List α):(a::s)++t=a::(s++t):=rfl
def uW {α:Type}(t:List α):[]++t=t:=rfl
def FD {x y}{xt yt:TypeId}{i j}(hx:ev L x=some (.int .i64 i))(hy:ev L y=some (.int .i64 j))(h0: -9223372036854775808<=i+j:=by omega)(h1:i+j<=9223372036854775807:=by omega):Yl E n L S ⟨d,.binOp .add xt x y yt,ty,pos,af,gd⟩ (.int .i64 (i+j)):=Ud hx hy h0 h1
def Hd {x y}{xt yt:TypeId}{i j}(hx:ev L x=some (.int .i64 i))(hy:ev L y=some (.int .i64 j))(h0: -9223372036854775808<=i-j:=by omega)(h1:i-j<=9223372036854775807:=by omega):Yl E n L S ⟨d,.binOp .sub xt x y yt,ty,pos,af,gd⟩ (.int .i64 (i-j)):=UZ hx hy h0 h1
def uAi {x y}{t e:TypeId}{b o len cap k i s by_ sz zs}(h:ev L x=some (.slice (some ⟨b,o,none⟩) len cap))(hy:ev L y=some (.int k i))(ht:E.tab t=some ⟨.slice e s by_,sz,zs⟩:=by exact hE.t rfl)(h0:0<=i:=by omega)(h1:i<len:=by omega):Yl E n L S ⟨d,.indexAddr t x y,ty,pos,af,gd⟩ (.pointer (some ⟨b,o+i.toNat*s,none⟩)):=aP h hy ht h0 h1
def CE {x y}{t e:TypeId}{b len cap k i by_ sz zs}(h:ev L x=some (.slice (some ⟨b,0,none⟩) len cap))(hy:ev L y=some (.int k i))(ht:E.tab t=some ⟨.slice e 1 by_,sz,zs⟩:=by exact hE.t rfl)(h0:0<=i:=by omega)(h1:i<len:=by omega):Yl E n L S ⟨d,.indexAddr t x y,ty,pos,af,gd⟩ (.pointer (some ⟨b,i.toNat,none⟩)):=bM h hy ht h0 h1
def uAc {x}{s t:TypeId}{kd k' ks i sz sz' zs zs'}(hx:ev L x=some (.int kd i))(hs:E.tab s=some ⟨.int ks,sz,zs⟩:=by exact hE.t rfl)(ht:E.tab t=some ⟨.int k',sz',zs'⟩:=by exact hE.t rfl)(hw:k'.wrap i=i:=by first |exact dJ oO oO|exact dK oO oO):Yl E n L S ⟨d,.convert s t x,ty,pos,af,gd⟩ (.int k' i):=dI hx hs ht hw
def uJ {x y}{t:TypeId}{b o xs c m esz}{bt:TypeId}{k sz zs v}(hk:K undef (sl (some ⟨b,0,none⟩) c bt esz m (bX xs o (bP v))::H'))(ht:E.tab t=some ⟨k,sz,zs⟩:=by exact hE.t rfl)(h:ev L x=some (.pointer (some ⟨b,o,none⟩)):=by exact rfl)(hy:ev L y=some v:=by exact rfl)
  (hA:(bP v).length=sz:=by exact rfl) (hm:CO (sl (some ⟨b,0,none⟩) c bt esz m xs) H H':=by((repeat constructor);done)) (hp:iU (bP v)=true:=by exact rfl) (hl:o+sz<=m*esz:=by first |omega |(simp only[bP,aN,az,iw];omega)):Ld E n L H ⟨d,.store t x y,ty,pos,af,gd⟩ K:=aS h hy ht hA hm hp hl hk
def uB {d op v}(h:Yl E n L H ⟨some d,op,ty,pos,af,none⟩ v)(k:DI E all Q (s-1) rest n ((d,v)::L) H)(hd:Nat.blt d n=true:=by exact rfl):DI E all Q s (⟨some d,op,ty,pos,af,none⟩::rest) n L H:=aA h hd k
def Yo {x}{t e:TypeId}{p len cap s b sz zs}(hx:ev L x=some (.slice p len cap))(ht:E.tab t=some ⟨.slice e s b,sz,zs⟩:=by exact hE.t rfl):Yl E n L S ⟨d,.call {callee:= .builtin .len,args:= #[x],argTypes:= #[t]},ty,pos,af,gd⟩ (.int .i64 (len:Nat)):=aR hx ht
def EC {x}{t:TypeId}{k b o fo fs_ fs sz zs}(h:ev L x=some (.pointer (some ⟨b,o,none⟩)))(ht:E.tab t=some ⟨.struct fs,sz,zs⟩:=by exact hE.t rfl)(hk:fs[k]?=some (fo,fs_):=by exact rfl):Yl E n L S ⟨d,.fieldAddr t x k,ty,pos,af,gd⟩ (.pointer (some ⟨b,o+fo,none⟩)):=aD h ht hk
def uX {f args}{ts:Array TypeId}{vs Pre}{Φ:Value->List HP->Prop}(hc:Ct E f vs Pre Φ)(ha:evs L args=some vs)(hk:∀v Qs,Φ v Qs->DI E all Q 0 rest n (Cj d v L) (Qs++H')) (h0:Nat.beq s 0=true:=by kernel_rfl) (hd:Ep n d=true:=by exact rfl) (hf:Fy E.P f=true:=by exact hE.f oK) (hs:IW Pre H H':=by((repeat constructor);done)):
  DI E all Q s (⟨d,.call {callee:= .value (.func f),args:=args.toArray,argTypes:=ts},ty,pos,af,none⟩::rest) n L H:=aI h0 hd (aZ hc ha hf hs hk)
theorem BJ {x y:Operand}{t e:TypeId}{p:Option Addr}{c m k cc g es by_ sz sz':Nat}{xs us zs zs':List Value}{kk:TK}{H'':List HP}{bt:TypeId}(hk:∀g' c' m' xs',m'=m+k->xs'=xs++us->K (.slice (some ⟨g',0,none⟩) m' c') (sl (some ⟨g',0,none⟩) c' e es m' xs'::H''))(ht:E.tab t=some ⟨.slice e es by_,sz,zs⟩:=by exact hE.t rfl)(he:E.tab e=some ⟨kk,sz',zs'⟩:=by exact hE.t rfl)(hz:Nat.beq zs'.length es&&Nat.blt 0 es=true:=by exact rfl)
  (hx:ev L x=some (.slice p m c):=by exact rfl) (hy:ev L y=some (.slice (some ⟨g,0,none⟩) k cc):=by exact rfl) (hm:CO (cells g us bt) H H':=by exact uK) (hm2:CO (sl p c e es m xs) H' H'':=by exact uK) (hp:iU us=true:=by exact rfl) (hl:us.length=k*es:=by exact rfl) (h0:0<k:=by omega) (hb:(m+k)*by_<=140737488355328:=by omega) (hb2:m+k<=maxLen:=by unfold maxLen;omega):
  Ld E n L H ⟨d,.call {callee:= .builtin .append,args:= #[x,y],argTypes:= #[t,t]},ty,pos,af,gd⟩ K:=bU ht he hz hx hy hm hm2 hp hl h0 hb hb2 hk
class BI (l r:List HP)(o:outParam (List HP)):Prop where
 e:l++r=o
instance {r:List HP}:BI [] r r:=⟨rfl⟩
instance {x:HP}{l r o:List HP}[h:BI l r o]:BI (x::l) r (x::o):=⟨congrArg (x::·) h.e⟩
theorem BH {f:FuncId}{args:List Operand}{ts:Array TypeId}{vs:List Value}{Pre:List HP}{a:Value}{Qs H2:List HP}(hc:Ct E f vs Pre (fun v Q=>v=a/\Q=Qs))(ha:evs L args=some vs)(hk:DI E all Q 0 rest n (Cj d a L) H2)[hp:BI Qs H' H2](h0:Nat.beq s 0=true:=by kernel_rfl)(hd:Ep n d=true:=by exact rfl)(hf:Fy E.P f=true:=by exact hE.f oK)(hs:IW Pre H H':=by((repeat constructor);done)):
  DI E all Q s (⟨d,.call {callee:= .value (.func f),args:=args.toArray,argTypes:=ts},ty,pos,af,none⟩::rest) n L H:=uX hc ha (fun v Q ⟨h1,h2⟩=>by subst h1 h2;rw[hp.e];exact hk) h0 hd hf hs
def uZ {fn rs vs}{Φ:Value->List HP->Prop}{R Qs}(hA:fn.results=⟨rs⟩)(h:Rs E L H rs vs)(hΦ:Φ (one vs) Qs)(hH:∀k,dW H k->dW (Qs++[R]) k:=by(apply Dm;(repeat constructor);done)):AT E (bodyPost E.P fn (JH E Φ R)) .ret n L H:=cK Qs hA h hΦ hH
def Gf {fn rs vs}{Φ:Value->List HP->Prop}{R Qs}(hA:fn.results=⟨rs⟩)(h:Rs E L H rs vs)(hΦ:Φ (one vs) Qs)(hH:∀k,dW H k->dW (Qs++[R]) k:=by(apply Dm;(repeat constructor);done)):AT E (bodyPost E.P fn (JH E Φ R)) .normal n L H:=xP Qs hA h hΦ hH
def uYa {x}{t:TypeId}{b o k sz zs v}(ht:E.tab t=some ⟨k,sz,zs⟩:=by exact hE.t rfl)(h:ev L x=some (.pointer (some ⟨b,o,none⟩)):=by exact rfl)(hk:k.agg=false:=by exact rfl)
  (hm:Ew S b o v:=by(repeat(first |rfl|assumption|exact FP|exact FQ|exact Fx|exact Fg|exact GL|exact Gh|exact Gi|exact GX|constructor))):Yl E n L S ⟨d,.load t x,ty,pos,af,gd⟩ v:=aO h ht hk hm
def uGa {x}{t:TypeId}{b o k sz zs us}(ht:E.tab t=some ⟨k,sz,zs⟩:=by exact hE.t rfl)(h:ev L x=some (.pointer (some ⟨b,o,none⟩)):=by exact rfl)(hk:k.agg=true:=by exact rfl)
  (hm:GQ S b o sz us:=by(repeat(first |rfl|assumption|exact FP|exact FQ|exact Fx|exact Fg|exact GL|exact Gh|exact Gi|exact GX|constructor))):Yl E n L S ⟨d,.load t x,ty,pos,af,gd⟩ (.agg ⟨us⟩):=bV h ht hk hm
def NC {x y}{t:TypeId}{b o vs}{bt:TypeId}{k sz zs v}(hk:K undef (cells b (bX vs o (bP v)) bt::H'))(ht:E.tab t=some ⟨k,sz,zs⟩:=by exact hE.t rfl)(h:ev L x=some (.pointer (some ⟨b,o,none⟩)):=by exact rfl)(hy:ev L y=some v:=by exact rfl)
  (hA:(bP v).length=sz:=by exact rfl) (hm:CO (cells b vs bt) H H':=by((repeat constructor);done)) (hp:iU (bP v)=true:=by exact rfl) (hl:o+sz<=vs.length:=by first |exact bz rfl|(simp only[bP,aa,az,iw];omega)):Ld E n L H ⟨d,.store t x y,ty,pos,af,gd⟩ K:=bL h hy ht hA hm hp hl hk
def dN {all y}{Q':Exit->Act->World->Prop}(h:WP E y Q n L H):DI E all (Exit.then (y.wp E.P Q) Q') s [] n L H:=aM (aK h)
def dO {id y l}(h:DI E l.toArray (Exit.then (y.wp E.P Q) Q) 0 l n L H):WP E (.seq (.region id l.toArray false) y) Q n L H:=aL (aJ h)
def dP {op j t b}(k:DI E all Q s (⟨d,op,ty,pos,af,none⟩::rest) n L H)(hj:(all[j]?).bind (·.dst)=some t:=by exact rfl)(hl:DJ L t=some (.bool b):=by exact rfl):DI E all Q s (⟨d,op,ty,pos,af,some (j,b)⟩::rest) n L H:=dM hj hl k
def dQ {op j t b c}(k:DI E all Q (s-1) rest n (Cj d undef L) H)(hj:(all[j]?).bind (·.dst)=some t:=by exact rfl)(hl:DJ L t=some (.bool c):=by exact rfl)(hA:(c==b)=false:=by exact rfl)(hd:Ep n d=true:=by exact rfl):DI E all Q s (⟨d,op,ty,pos,af,some (j,b)⟩::rest) n L H:=bT hj hl hA hd k
end
section
open Go Go.RowKit
variable {E:Bp}{n:Nat}{L:Fr}{H H' S:List HP}{ty:TypeId}{pos:String}{af:Array Edge}{d:Option Nat}{gd:Option (Nat×Bool)}{K:Value->List HP->Prop}{Q:Exit->Act->World->Prop}{all:Array Oper}{s:Nat}{rest:List Oper}
def jm {x v}(h:Yl E n L S ⟨d,.move x,ty,pos,af,gd⟩ v):Yl E n L S ⟨d,.move x,ty,pos,af,gd⟩ v:=h
def ja {x v}(h:Yl E n L S ⟨d,.assign x,ty,pos,af,gd⟩ v):Yl E n L S ⟨d,.assign x,ty,pos,af,gd⟩ v:=h
def jl {x}{t:TypeId}{v}(h:Yl E n L S ⟨d,.load t x,ty,pos,af,gd⟩ v):Yl E n L S ⟨d,.load t x,ty,pos,af,gd⟩ v:=h
def jf {x}{t:TypeId}{k v}(h:Yl E n L S ⟨d,.fieldAddr t x k,ty,pos,af,gd⟩ v):Yl E n L S ⟨d,.fieldAddr t x k,ty,pos,af,gd⟩ v:=h
def je {x k v}(h:Yl E n L S ⟨d,.extract x k,ty,pos,af,gd⟩ v):Yl E n L S ⟨d,.extract x k,ty,pos,af,gd⟩ v:=h
def ji {x y}{t:TypeId}{v}(h:Yl E n L S ⟨d,.indexAddr t x y,ty,pos,af,gd⟩ v):Yl E n L S ⟨d,.indexAddr t x y,ty,pos,af,gd⟩ v:=h
def jb {x y}{t:TypeId}{u:TypeId}{b v}(h:Yl E n L S ⟨d,.binOp b t x y u,ty,pos,af,gd⟩ v):Yl E n L S ⟨d,.binOp b t x y u,ty,pos,af,gd⟩ v:=h
def jk {c v}(h:Yl E n L S ⟨d,.call c,ty,pos,af,gd⟩ v):Yl E n L S ⟨d,.call c,ty,pos,af,gd⟩ v:=h
def jp {x y z v}(h:Yl E n L S ⟨d,.pick x y z,ty,pos,af,gd⟩ v):Yl E n L S ⟨d,.pick x y z,ty,pos,af,gd⟩ v:=h
def jn {x v}(h:Yl E n L S ⟨d,.nilCheck x,ty,pos,af,gd⟩ v):Yl E n L S ⟨d,.nilCheck x,ty,pos,af,gd⟩ v:=h
def ju {x}{t:TypeId}{o v}(h:Yl E n L S ⟨d,.unOp o t x,ty,pos,af,gd⟩ v):Yl E n L S ⟨d,.unOp o t x,ty,pos,af,gd⟩ v:=h
def jc {x}{t:TypeId}{u:TypeId}{v}(h:Yl E n L S ⟨d,.convert t u x,ty,pos,af,gd⟩ v):Yl E n L S ⟨d,.convert t u x,ty,pos,af,gd⟩ v:=h
def jd {t:TypeId}{ps v}(h:Yl E n L S ⟨d,.build t ps,ty,pos,af,gd⟩ v):Yl E n L S ⟨d,.build t ps,ty,pos,af,gd⟩ v:=h
def uYo {x}{t:TypeId}{v}(h:Yl E n L S ⟨d,.load t x,ty,pos,af,gd⟩ v:=by exact aY rfl (hE.t rfl) rfl (by assumption)):Yl E n L S ⟨d,.load t x,ty,pos,af,gd⟩ v:=h
def uYr {x}{t:TypeId}{v}(h:Yl E n L S ⟨d,.load t x,ty,pos,af,gd⟩ v:=by apply bB rfl (hE.t rfl) rfl;(focus(((repeat constructor);done)));(focus assumption)):Yl E n L S ⟨d,.load t x,ty,pos,af,gd⟩ v:=h
def uYq {x}{t:TypeId}{v}(h:Yl E n L S ⟨d,.load t x,ty,pos,af,gd⟩ v:=by(apply bJ rfl (hE.t rfl) rfl (by assumption);(focus(((repeat constructor);done)));(first |((focus exact f0);(focus omega))|((focus exact f1);(focus omega))|((focus assumption);(focus omega))))):Yl E n L S ⟨d,.load t x,ty,pos,af,gd⟩ v:=h
def gY {o v}(h:Yl E n L S o v:=by first |((with_reducible apply jm);first |exact aB rfl)|((with_reducible apply ja);first |exact aC rfl)|((with_reducible apply jl);first |exact uYa|exact uYo|exact uYr|exact uYq|exact uGa)|((with_reducible apply jf);first |exact EC rfl)|((with_reducible apply je);first |exact aT rfl rfl)|((with_reducible apply ji);first |exact CE rfl rfl|exact uAi rfl rfl|exact qVf rfl rfl (hE.t rfl) oO oO)|((with_reducible apply jb);first |((with_reducible apply UO)<;>first |exact rfl|exact hE.t rfl|omega)|((with_reducible apply Yr)<;>first |exact rfl|exact hE.t rfl|omega)|((with_reducible apply UM)<;>first |exact rfl|exact hE.t rfl|omega)|((with_reducible apply Yq)<;>first |exact rfl|exact hE.t rfl|omega)|((with_reducible apply FD)<;>first |exact rfl|exact hE.t rfl|omega)|((with_reducible apply Hd)<;>first |exact rfl|exact hE.t rfl|omega)|((with_reducible apply Yp)<;>first |exact rfl|exact hE.t rfl|omega)|((with_reducible apply Yt)<;>first |exact rfl|exact hE.t rfl|omega)|((with_reducible apply Mk)<;>first |exact rfl|exact hE.t rfl|omega)|((with_reducible apply Pi)<;>first |exact rfl|exact hE.t rfl|omega)|((with_reducible apply y_err_eq)<;>first |exact rfl|exact hE.t rfl|omega)|((with_reducible apply Ph)<;>first |exact rfl|exact hE.t rfl|omega)|((with_reducible apply Mi)<;>first |exact rfl|exact hE.t rfl|omega)|((with_reducible apply Mq)<;>first |exact rfl|exact hE.t rfl|omega)|((with_reducible apply Mh)<;>first |exact rfl|exact hE.t rfl|omega)|((with_reducible apply Mo)<;>first |exact rfl|exact hE.t rfl|omega)|((with_reducible apply SK)<;>first |exact rfl|exact hE.t rfl|omega)|((with_reducible apply y_and_i)<;>first |exact rfl|exact hE.t rfl|omega)|((with_reducible apply MZ)<;>first |exact rfl|exact hE.t rfl|omega)|((with_reducible apply UY)<;>first |exact rfl|exact hE.t rfl|omega)|exact rA rfl rfl (by show _<=64;first |omega |exact bz rfl)|((with_reducible apply UW)<;>first |exact rfl|exact hE.t rfl|omega)|((with_reducible apply UV)<;>first |exact rfl|exact hE.t rfl|omega)|((with_reducible apply UT)<;>first |exact rfl|exact hE.t rfl|omega)|((with_reducible apply zBx)<;>first |exact rfl|exact hE.t rfl|omega)|((with_reducible apply Pb)<;>first |exact rfl|exact hE.t rfl|omega)|((with_reducible apply y_ne_sl)<;>first |exact rfl|exact hE.t rfl|omega)|((with_reducible apply Mj)<;>first |exact rfl|exact hE.t rfl|omega)|((with_reducible apply Mr)<;>first |exact rfl|exact hE.t rfl|omega))|((with_reducible apply jk);first |exact Yo rfl|exact XY rfl (hE.t rfl)|exact UR rfl rfl|exact UQ rfl rfl)|((with_reducible apply jp);first |exact aW rfl rfl|exact aX rfl rfl)|((with_reducible apply jn);first |exact bA rfl)|((with_reducible apply ju);first |exact QY rfl|exact y_neg rfl oO oO)|((with_reducible apply jc);first |exact uAc rfl)|((with_reducible apply jd);first |exact iE (hE.t rfl) rfl rfl|exact qSq (hE.t rfl) rfl rfl)|exact zBy rfl (hE.t rfl) rfl|exact UN rfl rfl (hE.t rfl) (hE.t rfl) rfl oO oO rfl|exact qZ rfl rfl (hE.t rfl) oO (by assumption)|exact qVh rfl):Yl E n L S o v:=h
def uD0 {ops fuel op v m}(hi:ops[0]?=some ⟨d,op,ty,pos,af,none⟩)(hy:Yl E n L S ⟨d,op,ty,pos,af,none⟩ v)(k:FB E ops S Q fuel ((Array.replicate m false).setIfInBounds 0 true) n (Cj d v L) H)(hQ:EG Q:=by with_reducible (repeat(first |exact aF|apply aG|apply aH)))(hf:(Region.noSelect ops.toArray&&(Region.free .any ops.toArray (Array.replicate m false) 0&&(Region.ready .any ops.toArray (Array.replicate m false)).contains 0))=true:=by kernel_rfl)(hd:Ep n d=true:=by exact rfl):FB E ops S Q (fuel+1) (Array.replicate m false) n L H:=bG 0 hi hy hQ hf hd k
def uT0 {ops fuel op v m m'}(hi:ops[0]?=some ⟨d,op,ty,pos,af,none⟩)(hy:Yl E n L S ⟨d,op,ty,pos,af,none⟩ v)(k:Ea E ops m' S Q fuel ((Array.replicate m false).setIfInBounds 0 true) n (Cj d v L) H)(hQ:EG Q:=by with_reducible (repeat(first |exact aF|apply aG|apply aH)))(hf:QV ops.toArray m' (Array.replicate m false) 0=true:=by kernel_rfl)(hd:Ep n d=true:=by exact rfl):Ea E ops m' S Q (fuel+1) (Array.replicate m false) n L H:=bY 0 hi hy hQ hf hd k
def uDn {ops:List Oper}{fuel:Nat}{op:Op}{v:Value}{j:Nat}{listed:Array Bool}(hi:ops[(j+1)]?=some ⟨d,op,ty,pos,af,none⟩)(hy:Yl E n L S ⟨d,op,ty,pos,af,none⟩ v)(k:FB E ops S Q fuel ((listed.setIfInBounds j true).setIfInBounds (j+1) true) n (Cj d v L) H)(hQ:EG Q:=by with_reducible (repeat(first |exact aF|apply aG|apply aH)))(hf:(Region.noSelect ops.toArray&&(Region.free .any ops.toArray (listed.setIfInBounds j true) (j+1)&&(Region.ready .any ops.toArray (listed.setIfInBounds j true)).contains (j+1)))=true:=by kernel_rfl)(hd:Ep n d=true:=by exact rfl):FB E ops S Q (fuel+1) (listed.setIfInBounds j true) n L H:=bG (j+1) hi hy hQ hf hd k
def uTn {ops:List Oper}{fuel:Nat}{op:Op}{v:Value}{j:Nat}{m':Nat}{listed:Array Bool}(hi:ops[(j+1)]?=some ⟨d,op,ty,pos,af,none⟩)(hy:Yl E n L S ⟨d,op,ty,pos,af,none⟩ v)(k:Ea E ops m' S Q fuel ((listed.setIfInBounds j true).setIfInBounds (j+1) true) n (Cj d v L) H)(hQ:EG Q:=by with_reducible (repeat(first |exact aF|apply aG|apply aH)))(hf:QV ops.toArray m' (listed.setIfInBounds j true) (j+1)=true:=by kernel_rfl)(hd:Ep n d=true:=by exact rfl):Ea E ops m' S Q (fuel+1) (listed.setIfInBounds j true) n L H:=bY (j+1) hi hy hQ hf hd k
def uOn {ops:List Oper}{fuel:Nat}{op:Op}{i t:Nat}{b:Bool}{v:Value}{j:Nat}{listed:Array Bool}(hi:ops[(j+1)]?=some ⟨d,op,ty,pos,af,some (i,b)⟩)(hj:(ops[i]?).bind (·.dst)=some t)(hl:DJ L t=some (.bool b))(hy:Yl E n L S ⟨d,op,ty,pos,af,some (i,b)⟩ v)(k:FB E ops S Q fuel ((listed.setIfInBounds j true).setIfInBounds (j+1) true) n (Cj d v L) H)(hQ:EG Q:=by with_reducible (repeat(first |exact aF|apply aG|apply aH)))(hf:(Region.noSelect ops.toArray&&(Region.free .any ops.toArray (listed.setIfInBounds j true) (j+1)&&(Region.ready .any ops.toArray (listed.setIfInBounds j true)).contains (j+1)))=true:=by kernel_rfl)(hd:Ep n d=true:=by exact rfl):FB E ops S Q (fuel+1) (listed.setIfInBounds j true) n L H:=TR (j+1) hi hj hl hy hQ hf hd k
def uRn {ops:List Oper}{fuel:Nat}{op:Op}{i t:Nat}{b c:Bool}{j:Nat}{listed:Array Bool}(hi:ops[(j+1)]?=some ⟨d,op,ty,pos,af,some (i,b)⟩)(hj:(ops[i]?).bind (·.dst)=some t)(hl:DJ L t=some (.bool c))(hA:(c==b)=false)(k:FB E ops S Q fuel ((listed.setIfInBounds j true).setIfInBounds (j+1) true) n (Cj d undef L) H)(hQ:EG Q:=by with_reducible (repeat(first |exact aF|apply aG|apply aH)))(hf:(Region.noSelect ops.toArray&&(Region.free .any ops.toArray (listed.setIfInBounds j true) (j+1)&&(Region.ready .any ops.toArray (listed.setIfInBounds j true)).contains (j+1)))=true:=by kernel_rfl)(hd:Ep n d=true:=by exact rfl):FB E ops S Q (fuel+1) (listed.setIfInBounds j true) n L H:=Pv (j+1) hi hj hl hA hQ hf hd k
def uDz {ops fuel listed}(hz:Nat.beq fuel 0=true)(k:AT E Q .normal n L H)(hr:Region.ready .any ops.toArray listed=[]:=by kernel_rfl):FB E ops S Q fuel listed n L H:=TQ hr k
def uTz {ops m fuel listed}(hz:Nat.beq fuel 0=true)(k:AT E Q .normal n L H)(hr:Region.ready .any ops.toArray listed=[]:=by kernel_rfl):Ea E ops m S Q fuel listed n L H:=QG hr k
def iL {B l}(h:B->DI E all Q s l n L H):B->DI E all Q s l n L H:=h
def iLm {B x k}(h:B->DI E all Q s (⟨some k,.move x,ty,pos,af,none⟩::rest) n L H):B->DI E all Q s (⟨some k,.move x,ty,pos,af,none⟩::rest) n L H:=h
def iLa {B x k}(h:B->DI E all Q s (⟨some k,.assign x,ty,pos,af,none⟩::rest) n L H):B->DI E all Q s (⟨some k,.assign x,ty,pos,af,none⟩::rest) n L H:=h
def iLf {B x}{t:TypeId}{k j}(h:B->DI E all Q s (⟨some k,.fieldAddr t x j,ty,pos,af,none⟩::rest) n L H):B->DI E all Q s (⟨some k,.fieldAddr t x j,ty,pos,af,none⟩::rest) n L H:=h
def iLl {B x}{t:TypeId}{k}(h:B->DI E all Q s (⟨some k,.load t x,ty,pos,af,none⟩::rest) n L H):B->DI E all Q s (⟨some k,.load t x,ty,pos,af,none⟩::rest) n L H:=h
def iLs {B x y}{t:TypeId}(h:B->DI E all Q s (⟨d,.store t x y,ty,pos,af,none⟩::rest) n L H):B->DI E all Q s (⟨d,.store t x y,ty,pos,af,none⟩::rest) n L H:=h
def iLg {B o p}(h:B->DI E all Q s (⟨d,o,ty,pos,af,some p⟩::rest) n L H):B->DI E all Q s (⟨d,o,ty,pos,af,some p⟩::rest) n L H:=h
def iLo {B k o}(h:B->DI E all Q s (⟨some k,o,ty,pos,af,none⟩::rest) n L H):B->DI E all Q s (⟨some k,o,ty,pos,af,none⟩::rest) n L H:=h
def iLn {B}  (h:B->DI E all Q s ([]) n L H):B->DI E all Q s ([]) n L H:=h
def iW {B c}(h:B->WP E c Q n L H):B->WP E c Q n L H:=h
def iA {B x}(h:B->AT E Q x n L H):B->AT E Q x n L H:=h
def iD {B ops fuel listed}(h:B->FB E ops S Q fuel listed n L H):B->FB E ops S Q fuel listed n L H:=h
def iM {B ops fuel m listed}(h:B->Ea E ops m S Q fuel listed n L H):B->Ea E ops m S Q fuel listed n L H:=h
def iD0 {B ops fuel m}(h:B->FB E ops S Q fuel (Array.replicate m false) n L H):B->FB E ops S Q fuel (Array.replicate m false) n L H:=h
def iDn {B:Prop}{ops:List Oper}{fuel j:Nat}{listed:Array Bool}(h:B->FB E ops S Q fuel (listed.setIfInBounds j true) n L H):B->FB E ops S Q fuel (listed.setIfInBounds j true) n L H:=h
def iM0 {B ops fuel m m'}(h:B->Ea E ops m S Q fuel (Array.replicate m' false) n L H):B->Ea E ops m S Q fuel (Array.replicate m' false) n L H:=h
def iMn {B:Prop}{ops:List Oper}{fuel j m:Nat}{listed:Array Bool}(h:B->Ea E ops m S Q fuel (listed.setIfInBounds j true) n L H):B->Ea E ops m S Q fuel (listed.setIfInBounds j true) n L H:=h
def gS {A B}(h:B->A:=by first |(with_reducible apply iL);(first |((with_reducible apply iLm);first |exact fun k=>uM rfl k)|((with_reducible apply iLa);first |exact fun k=>uA rfl k)|((with_reducible apply iLf);first |exact fun k=>uF k)|((with_reducible apply iLl);first |exact fun k=>uL k|exact fun k=>uB gY k)|((with_reducible apply iLs);first |exact fun k=>uU (uS k)|exact fun k=>uU (NC k)|exact fun k=>uU (uJ k))|((with_reducible apply iLg);first |exact fun k=>dP k|exact fun k=>dQ k|exact fun k=>OL rfl rfl rfl k)|((with_reducible apply iLo);first |exact fun k=>uB gY k)|((with_reducible apply iLn);first |exact fun k=>aM k))|(with_reducible apply iW);(first |(with_reducible exact fun k=>aL k)|(with_reducible exact fun k=>aJ k)|(with_reducible exact fun k=>bK k)|(with_reducible exact fun k=>bC k)|(with_reducible exact fun k=>dF k)|(with_reducible exact fun k=>bZ k)|exact fun k=>bD rfl k|exact fun k=>bF rfl k|exact fun k=>PW oK k)|(with_reducible apply iA);(first |(with_reducible exact fun k=>aK k)|(with_reducible exact fun k=>bI k)|(with_reducible exact fun k=>aQ k)|(with_reducible exact fun k=>bH k)|(with_reducible exact fun k=>aV k)|(with_reducible exact fun k=>bN k)|(with_reducible exact fun k=>WF k)|exact fun k=>qOf rfl k)|(with_reducible apply iD);(first |((with_reducible apply iDn);first |exact fun k=>uDz rfl k|exact fun k=>uDn rfl gY k|exact fun k=>uOn rfl rfl rfl gY k|exact fun k=>uRn rfl rfl rfl rfl k)|((with_reducible apply iD0);exact fun k=>uD0 rfl gY k))|(with_reducible apply iM);(first |((with_reducible apply iMn);first |exact fun k=>uTz rfl k|exact fun k=>uTn rfl gY k)|((with_reducible apply iM0);exact fun k=>uT0 rfl gY k))|exact fun k=>Rn k):B->A:=h
def gI {A}(a:A):A:=a
def gC {A B C}(h:B->A)(k:C->B):C->A:=fun x=>h (k x)
def Bv {A B}(b:B)(h:B->A:=by(iterate 1 ((with_reducible apply gC);focus exact gS));exact gI):A:=h b
def CL {A B}(b:B)(h:B->A:=by(iterate 2 ((with_reducible apply gC);focus exact gS));exact gI):A:=h b
def CG {A B}(b:B)(h:B->A:=by(iterate 3 ((with_reducible apply gC);focus exact gS));exact gI):A:=h b
def Bz {A B}(b:B)(h:B->A:=by(iterate 4 ((with_reducible apply gC);focus exact gS));exact gI):A:=h b
def Bw {A B}(b:B)(h:B->A:=by(iterate 5 ((with_reducible apply gC);focus exact gS));exact gI):A:=h b
def CB {A B}(b:B)(h:B->A:=by(iterate 6 ((with_reducible apply gC);focus exact gS));exact gI):A:=h b
def Bi {A B}(b:B)(h:B->A:=by(iterate 7 ((with_reducible apply gC);focus exact gS));exact gI):A:=h b
def Br {A B}(b:B)(h:B->A:=by(iterate 8 ((with_reducible apply gC);focus exact gS));exact gI):A:=h b
def Bu {A B}(b:B)(h:B->A:=by(iterate 9 ((with_reducible apply gC);focus exact gS));exact gI):A:=h b
def Bc {A B}(b:B)(h:B->A:=by(iterate 10 ((with_reducible apply gC);focus exact gS));exact gI):A:=h b
def Bo {A B}(b:B)(h:B->A:=by(iterate 11 ((with_reducible apply gC);focus exact gS));exact gI):A:=h b
def Bq {A B}(b:B)(h:B->A:=by(iterate 12 ((with_reducible apply gC);focus exact gS));exact gI):A:=h b
def CP {A B}(b:B)(h:B->A:=by(iterate 13 ((with_reducible apply gC);focus exact gS));exact gI):A:=h b
def CU {A B}(b:B)(h:B->A:=by(iterate 14 ((with_reducible apply gC);focus exact gS));exact gI):A:=h b
def CK {A B}(b:B)(h:B->A:=by(iterate 15 ((with_reducible apply gC);focus exact gS));exact gI):A:=h b
def CX {A B}(b:B)(h:B->A:=by(iterate 16 ((with_reducible apply gC);focus exact gS));exact gI):A:=h b
def CY {A B}(b:B)(h:B->A:=by(iterate 17 ((with_reducible apply gC);focus exact gS));exact gI):A:=h b
def Cw {A B}(b:B)(h:B->A:=by(iterate 18 ((with_reducible apply gC);focus exact gS));exact gI):A:=h b
def Ci {A B}(b:B)(h:B->A:=by(iterate 19 ((with_reducible apply gC);focus exact gS));exact gI):A:=h b
def FH {A B}(b:B)(h:B->A:=by(iterate 20 ((with_reducible apply gC);focus exact gS));exact gI):A:=h b
def DW {A B}(b:B)(h:B->A:=by(iterate 21 ((with_reducible apply gC);focus exact gS));exact gI):A:=h b
def Df {A B}(b:B)(h:B->A:=by(iterate 22 ((with_reducible apply gC);focus exact gS));exact gI):A:=h b
def DL {A B}(b:B)(h:B->A:=by(iterate 23 ((with_reducible apply gC);focus exact gS));exact gI):A:=h b
def Dv {A B}(b:B)(h:B->A:=by(iterate 24 ((with_reducible apply gC);focus exact gS));exact gI):A:=h b
def EK {A B}(b:B)(h:B->A:=by(iterate 25 ((with_reducible apply gC);focus exact gS));exact gI):A:=h b
def RB {A B}(b:B)(h:B->A:=by(iterate 26 ((with_reducible apply gC);focus exact gS));exact gI):A:=h b
def Gp {A B}(b:B)(h:B->A:=by(iterate 27 ((with_reducible apply gC);focus exact gS));exact gI):A:=h b
def Nz {A B}(b:B)(h:B->A:=by(iterate 28 ((with_reducible apply gC);focus exact gS));exact gI):A:=h b
def Hw {A B}(b:B)(h:B->A:=by(iterate 29 ((with_reducible apply gC);focus exact gS));exact gI):A:=h b
def Hy {A B}(b:B)(h:B->A:=by(iterate 30 ((with_reducible apply gC);focus exact gS));exact gI):A:=h b
def GN {A B}(b:B)(h:B->A:=by(iterate 31 ((with_reducible apply gC);focus exact gS));exact gI):A:=h b
def Kh {A B}(b:B)(h:B->A:=by(iterate 32 ((with_reducible apply gC);focus exact gS));exact gI):A:=h b
def RD {A B}(b:B)(h:B->A:=by(iterate 33 ((with_reducible apply gC);focus exact gS));exact gI):A:=h b
def IP {A B}(b:B)(h:B->A:=by(iterate 34 ((with_reducible apply gC);focus exact gS));exact gI):A:=h b
def WH {A B}(b:B)(h:B->A:=by(iterate 35 ((with_reducible apply gC);focus exact gS));exact gI):A:=h b
def TV {A B}(b:B)(h:B->A:=by(iterate 36 ((with_reducible apply gC);focus exact gS));exact gI):A:=h b
def WI {A B}(b:B)(h:B->A:=by(iterate 37 ((with_reducible apply gC);focus exact gS));exact gI):A:=h b
def RF {A B}(b:B)(h:B->A:=by(iterate 39 ((with_reducible apply gC);focus exact gS));exact gI):A:=h b
def TW {A B}(b:B)(h:B->A:=by(iterate 40 ((with_reducible apply gC);focus exact gS));exact gI):A:=h b
def WJ {A B}(b:B)(h:B->A:=by(iterate 42 ((with_reducible apply gC);focus exact gS));exact gI):A:=h b
def TY {A B}(b:B)(h:B->A:=by(iterate 44 ((with_reducible apply gC);focus exact gS));exact gI):A:=h b
def WK {A B}(b:B)(h:B->A:=by(iterate 48 ((with_reducible apply gC);focus exact gS));exact gI):A:=h b
def WL {A B}(b:B)(h:B->A:=by(iterate 49 ((with_reducible apply gC);focus exact gS));exact gI):A:=h b
def WM {A B}(b:B)(h:B->A:=by(iterate 58 ((with_reducible apply gC);focus exact gS));exact gI):A:=h b
def TZ {A B}(b:B)(h:B->A:=by(iterate 60 ((with_reducible apply gC);focus exact gS));exact gI):A:=h b
end
end Sl
namespace Eg
section

def Vh {β:Type}{p:List β->Prop}(h0:p [])(h1:∀l a,p l->p (l++[a])):∀l,p l:=by
 intro l
 have h:∀m:List β,p m.reverse:=by
  intro m;induction m with
  |nil=>exact h0
  |cons a m ih=>rw[List.reverse_cons];exact h1 _ _ ih
 have:=h l.reverse;rwa [List.reverse_reverse]at this

inductive Rl where
 |letter (b:UInt8)
 |pair (l r:Nat)
 |power (x k:Nat)
deriving DecidableEq

def Rl.kind:Rl->Nat| .letter _=>1| .pair _ _=>2| .power _ _=>3
def Rl.byte:Rl->Nat| .letter b=>b.toNat|_=>0
def Rl.left:Rl->Nat| .letter _=>0| .pair l _=>l| .power x _=>x
def Rl.right:Rl->Nat| .letter _=>0| .pair _ r=>r| .power _ _=>0
def Rl.times:Rl->Nat| .letter _=>0| .pair _ _=>0| .power _ k=>k

def Rl.ok (n:Nat):Rl->Prop
 | .letter _=>True
 | .pair l r=>1<=l/\l<n/\1<=r/\r<n
 | .power x k=>1<=x/\x<n/\2<=k

section
variable {α:Type}
def tab (f:List α->Rl->α)(L:List Rl):List α:=L.foldl (fun acc r=>acc++[f acc r]) []

variable {f:List α->Rl->α}{L M:List Rl}{r:Rl}
def Xw:tab f (L++[r])=tab f L++[f (tab f L) r]:=by simp[tab,uy]
def nV (L:List Rl):(tab f L).length=L.length:=by
 induction L using Vh with
 |h0=>rfl
 |h1 l a ih=>simp[Xw,ih]
def qVb (L M:List Rl):(tab f (L++M)).take L.length=tab f L:=by
 induction M using Vh with
 |h0=>simp[<-nV (f:=f) L]
 |h1 m a ih=>
  rw[<-ah,Xw,oW,ih]
  rw[nV,aa];omega
def zAy (L M:List Rl){i}(h:i<L.length):(tab f (L++M))[i]?=(tab f L)[i]?:=by
 rw[<-qVb (f:=f) L M,ni,if_pos h]
def xK (L:List Rl){i}(h:L[i]?=some r):(tab f L)[i]?=some (f (tab f (L.take i)) r):=by
 have hi:i<L.length:=(ae.1 h).1
 have e:L=(L.take i++[r])++L.drop (i+1):=by
  rw[<-(ae.1 h).2,List.take_append_getElem,dh]
 have hl:i<(L.take i++[r]).length:=by simp;omega
 conv=>lhs;rw[e]
 rw[zAy _ _ hl,Xw,bi]
 ·simp[nV,lm (Ay hi)]
 simp[nV];omega
def ED (d:α)(l:List α)(i:Nat):α:=if i=0 then d else l[i-1]?.getD d
def lU (d:α)(l:List α)(i:Nat):ED d l (i+1)=l[i]?.getD d:=by simp[ED]
def Tp (d:α){L}(M:List Rl){i}(h:i<=L.length):ED d (tab f (L++M)) i=ED d (tab f L) i:=by
 cases i with
 |zero=>rfl
 |succ i=>rw[lU,lU,zAy L M h]
def nO (d:α){L i k}(h:i<=k)(hk:k<=L.length):ED d (tab f (L.take k)) i=ED d (tab f L) i:=by
 have:=Tp (f:=f) d (L:=L.take k) (L.drop k) (i:=i) (by simp;omega);rw[dh]at this;exact this.symm
end

def Lt (acc:List (List UInt8)):Rl->List UInt8
 | .letter b=>[b]
 | .pair l r=>ED [] acc l++ED [] acc r
 | .power x k=>(List.replicate k (ED [] acc x)).flatten
def txt (L:List Rl)(i:Nat):List UInt8:=ED [] (tab Lt L) i

def jI (L:List Rl):txt L 0=[]:=rfl
def jX {L}(M:List Rl){i}(h:i<=L.length):txt (L++M) i=txt L i:=Tp [] M h
def fP {L i b}(h:L[i]?=some (.letter b)):txt L (i+1)=[b]:=by
 rw[txt,lU,xK L h];rfl
def iK {L i l r}(h:L[i]?=some (.pair l r))(hk:(Rl.pair l r).ok (i+1)):txt L (i+1)=txt L l++txt L r:=by
 have hi:i<L.length:=(ae.1 h).1;obtain⟨_,h1,_,h2⟩:=hk;rw[txt,lU,xK L h];simp only[Lt,xg];rw[nO [] oO oO,nO [] oO oO];rfl
def iY {L i x k}(h:L[i]?=some (.power x k))(hk:(Rl.power x k).ok (i+1)):txt L (i+1)=(List.replicate k (txt L x)).flatten:=by
 have hi:i<L.length:=(ae.1 h).1;obtain⟨_,h1,_⟩:=hk;rw[txt,lU,xK L h];simp only[Lt,xg];rw[nO [] oO oO];rfl

def dC:Nat:=1152921504606846976
def fJ:Nat:=1048576
def len (L:List Rl)(i:Nat):Nat:=(txt L i).length

structure Wf (L:List Rl):Prop where
 ok:∀(i:Nat)(r:Rl),L[i]?=some r->r.ok (i+1)
 nodup:∀(i j:Nat)(r:Rl),L[i]?=some r->L[j]?=some r->i=j
 short:∀i:Nat,len L i<=dC
 room:L.length<=fJ

def Xh (L:List Rl):len L 0=0:=rfl
def jB {L}(M:List Rl){i}(h:i<=L.length):len (L++M) i=len L i:=by rw[len,jX M h,len]
def Tm {L i}(h:L.length<i):len L i=0:=by
 cases i with
 |zero=>rfl
 |succ i=>
  rw[len,txt,lU,ku]
  ·rfl
  rw[nV];omega
def Wf.pos {L}(h:Wf L):∀i,1<=i->i<=L.length->1<=len L i:=by
 intro i;induction i using Nat.strongRecOn with
 |ind i ih=>
  intro h1 h2
  obtain⟨j,rfl⟩:∃j,i=j+1:=⟨i-1,oO⟩
  have hj:L[j]?=some L[j]:=ag oO
  generalize L[j]=r at hj
  have hr:=h.ok j r hj
  cases r with
  |letter b=>rw[len,fP hj];simp
  |pair l r=>
   have:=ih l (by have:=hr.2.1;omega) hr.1 (by have:=hr.2.1;omega)
   rw[len]at*
   rw[iK hj hr,aa];omega
  |power x k=>
   have:=ih x (by have:=hr.2.1;omega) hr.1 (by have:=hr.2.1;omega)
   rw[len]at*
   rw[iY hj hr]
   simp only[List.length_flatten,List.map_replicate,List.sum_replicate_nat]
   exact Nat.mul_pos (by have:=hr.2.2;omega) this
end
section
def Yk (acc:List (Nat×Bool)):Rl->Nat×Bool
 | .letter _=>(0,true)
 | .pair l r=>(1+max (ED (0,true) acc l).1 (ED (0,true) acc r).1,(ED (0,true) acc l).2&&(ED (0,true) acc r).2&&(decide ((ED (0,true) acc l).1<=(ED (0,true) acc r).1+1)&&decide ((ED (0,true) acc r).1<=(ED (0,true) acc l).1+1)))
 | .power x _=>(1+(ED (0,true) acc x).1,false)
def dpe (L:List Rl)(i:Nat):Nat×Bool:=ED (0,true) (tab Yk L) i
def dep (L:List Rl)(i:Nat):Nat:=(dpe L i).1
def Fs (L:List Rl)(i:Nat):Bool:=(dpe L i).2
def qXs {L}(M:List Rl){i}(h:i<=L.length):dpe (L++M) i=dpe L i:=Tp _ M h
def wU {L}(M:List Rl){i}(h:i<=L.length):dep (L++M) i=dep L i:=by rw[dep,qXs M h,dep]
def VP {L}(M:List Rl){i}(h:i<=L.length):Fs (L++M) i=Fs L i:=by rw[Fs,qXs M h,Fs]
def KN (L:List Rl):dep L 0=0:=rfl
def mF {L i b}(h:L[i]?=some (.letter b)):dpe L (i+1)=(0,true):=by
 rw[dpe,lU,xK L h];rfl
def vN {L i l r}(h:L[i]?=some (.pair l r))(hk:(Rl.pair l r).ok (i+1)):dpe L (i+1)=(1+max (dep L l) (dep L r),Fs L l&&Fs L r&&(decide (dep L l<=dep L r+1)&&decide (dep L r<=dep L l+1))):=by
 have hi:i<L.length:=(ae.1 h).1;obtain⟨_,h1,_,h2⟩:=hk;rw[dpe,lU,xK L h];simp only[Yk,xg];rw[nO (0,true) oO oO,nO (0,true) oO oO];rfl
def pG {L i x k}(h:L[i]?=some (.power x k))(hk:(Rl.power x k).ok (i+1)):dpe L (i+1)=(1+dep L x,false):=by
 have hi:i<L.length:=(ae.1 h).1;obtain⟨_,h1,_⟩:=hk;rw[dpe,lU,xK L h];simp only[Yk,xg];rw[nO (0,true) oO oO];rfl
structure Ev (L:List Rl)(i:Nat):Prop where
 le:i<=L.length
 ev:Fs L i=true
def Ev.zero (L:List Rl):Ev L 0:=⟨av _,rfl⟩
def Ev.ext {L i}(h:Ev L i)(M:List Rl):Ev (L++M) i:=⟨by rw[aa];have:=h.le;omega,by rw[VP M h.le];exact h.ev⟩
def Ev.rule {L}(hw:Wf L){i}(h:Ev L (i+1)):(∃b,L[i]?=some (.letter b)/\dep L (i+1)=0)\/
  ∃l r,L[i]?=some (.pair l r)/\1<=l/\l<i+1/\1<=r/\r<i+1/\Ev L l/\Ev L r/\dep L (i+1)=1+max (dep L l) (dep L r)/\dep L l<=dep L r+1/\dep L r<=dep L l+1/\txt L (i+1)=txt L l++txt L r:=by
 have hi:i<L.length:=h.le;have hg:L[i]?=some L[i]:=ag hi;have hA:=hw.ok i _ hg;have he:=h.ev;generalize L[i]=x at hg hA;cases x with
 |letter b=>exact .inl ⟨b,hg,by rw[dep,mF hg]⟩
 |pair l r=>
  have hd:=vN hg hA
  have ht:=iK hg hA
  obtain⟨h1,h2,h3,h4⟩:=hA
  unfold Fs at he
  rw[hd]at he
  simp only[ik,decide_eq_true_eq]at he
  exact .inr ⟨l,r,hg,h1,h2,h3,h4,⟨oO,he.1.1⟩,⟨oO,he.1.2⟩,by rw[dep,hd],he.2.1,he.2.2,ht⟩
 |power x k=>
  exfalso
  unfold Fs at he
  rw[pG hg hA]at he
  cases he
def Ev.pair {L}(hw:Wf L){i l r}(hg:L[i]?=some (.pair l r))(hl:Fs L l=true)(hr:Fs L r=true)(h1:dep L l<=dep L r+1)(h2:dep L r<=dep L l+1):Ev L (i+1)/\dep L (i+1)=1+max (dep L l) (dep L r)/\txt L (i+1)=txt L l++txt L r:=by
 have hA:=hw.ok i _ hg;have hi:i<L.length:=(ae.1 hg).1;have hd:=vN hg hA;exact⟨⟨hi,by unfold Fs;rw[hd];simp[hl,hr,h1,h2]⟩,by rw[dep,hd],iK hg hA⟩
def Ev.letter {L i b}(hg:L[i]?=some (.letter b)):Ev L (i+1):=⟨(ae.1 hg).1,by unfold Fs;rw[mF hg]⟩
def Fh:Nat->Nat
 |0=>1
 |1=>2
 |n+2=>Fh n+Fh (n+1)
def qMf:∀n,Fh n<=Fh (n+1)
 |0=>by decide
 |1=>by decide
 |n+2=>by
  have b:Fh (n+1)<=Fh (n+2):=qMf (n+1);have c:Fh (n+2+1)=Fh (n+1)+Fh (n+2):=rfl;rw[c];omega
def qO {a}:∀b,a<=b->Fh a<=Fh b
 |0,h=>by obtain rfl:a=0:=by omega
          exact ai _
 |b+1,h=>by
  rcases fw a (b+1)with h'|h'
  ·exact jv (qO b oO) (qMf b)
  obtain rfl:a=b+1:=by omega
  exact ai _
def Ev.size {L}(hw:Wf L):∀(n i:Nat),1<=i->Ev L i->dep L i=n->Fh n<=len L i:=by
 intro n;induction n using Nat.strongRecOn with
 |_ n ih=>
  intro i hi h hd
  obtain⟨i,rfl⟩:∃j,i=j+1:=⟨i-1,oO⟩
  have hp:=hw.pos (i+1) hi h.le
  rcases h.rule hw with⟨b,hg,h0⟩|⟨l,r,hg,h1,h2,h3,h4,el,er,hB,hC,hD,ht⟩
  ·rw[h0]at hd
   subst hd
   exact hp
  have hA:len L (i+1)=len L l+len L r:=by unfold len;rw[ht,aa]
  have pl:=hw.pos l h1 el.le
  have pr:=hw.pos r h3 er.le
  match n,ih,hd with
  |0,_,_=>exact hp
  |1,_,_=>show 2<=_;omega
  |n+2,ih,hd=>
   have a1:=ih (dep L l) oO l h1 el O
   have a2:=ih (dep L r) oO r h3 er O
   show Fh n+Fh (n+1)<=_
   rcases fw (dep L l) (n+1)with hl|hl
   ·have b1:=qO (a:=n) (dep L l) oO
    have b2:=qO (a:=n+1) (dep L r) oO
    omega
   have b1:=qO (a:=n+1) (dep L l) oO
   have b2:=qO (a:=n) (dep L r) oO
   omega
def Ev.dep_le {L}(hw:Wf L){i}(h:Ev L i)(hl:len L i<=400):dep L i<=12:=by
 rcases jo i with rfl|hi
 ·rw[KN];omega
 have:=Ev.size hw _ i hi h rfl;refine Classical.byContradiction fun hn=>?_
 have h2:=qO (a:=13) (dep L i) oO;have h3:Fh 13=610:=by decide
 omega
def dep_le {L}(hw:Wf L):∀i:Nat,i<=L.length->dep L i<=i:=by
 intro i;induction i using Nat.strongRecOn with
 |ind i ih=>
  intro hi
  cases i with
  |zero=>exact ai _
  |succ i=>
   have hg:L[i]?=some L[i]:=ag hi
   have hA:=hw.ok i _ hg
   generalize L[i]=x at hg hA
   cases x with
   |letter b=>rw[dep,mF hg];exact av _
   |pair l r=>
    have hd:=vN hg hA
    simp only[Rl.ok]at hA
    have a:=ih l oO oO
    have b:=ih r oO oO
    rw[dep,hd]
    show 1+max (dep L l) (dep L r)<=i+1
    omega
   |power x k=>
    have hd:=pG hg hA
    simp only[Rl.ok]at hA
    have a:=ih x oO oO
    rw[dep,hd]
    show 1+dep L x<=i+1
    omega
end
section
def Eh:Nat:=18446744073709551616
def Cg:Nat:=2305843009213693951
def DZ (x:Nat):Nat:=x%Cg
def Dc (a b:Nat):Nat:=(a+b)%Cg
def CJ (a b:Nat):Nat:=a*b%Cg
def DC (a n:Nat):Nat:=a^n%Cg
def Gd (k x y:Nat):Nat:=DC (Dc k (Dc (CJ 1234567890123456789 x) (CJ 987654321987654321 y))) 17

def El:0<Cg:=by unfold Cg;omega
def Qe:Cg<Eh:=by unfold Cg Eh;omega
def xH (x:Nat):DZ x<Cg:=tq _ El
def YG (a b:Nat):Dc a b<Cg:=tq _ El
def Sr (a b:Nat):CJ a b<Cg:=tq _ El
def YR (a b:Nat):DC a b<Cg:=tq _ El
def Yg (k x y:Nat):Gd k x y<Cg:=YR _ _
def Gc {x}(h:x<Cg):x<Eh:=Az h Qe
def Lp (a b:Nat):DZ (DZ a+DZ b)=Dc a b:=by unfold DZ Dc;rw[<-Nat.add_mod]
def Zm (a b:Nat):DZ a+DZ b<Eh:=by
 have:=xH a;have:=xH b;unfold Cg Eh at*;omega
def Lm (a b:Nat):DZ a*DZ b%Cg=CJ a b:=by
 unfold DZ CJ;rw[<-Nat.mul_mod]
def Kc (p:Nat)(hp:p<5316911983139663491615228241121378304):
  (p/18446744073709551616*8+p%18446744073709551616/2305843009213693952)+p%18446744073709551616%2305843009213693952<18446744073709551616/\
  DZ ((p/18446744073709551616*8+p%18446744073709551616/2305843009213693952)+p%18446744073709551616%2305843009213693952)=p%Cg:=by
 unfold DZ Cg;omega
def ZT (a b:Nat):DZ a*DZ b<5316911983139663491615228241121378304:=by
 have h1:=xH a;have h2:=xH b;have h3:DZ a*DZ b<=2305843009213693951*2305843009213693951:=zl (by unfold Cg at h1;omega) (by unfold Cg at h2;omega);omega

def qUo (a b c:Nat):CJ (CJ a b) c=CJ a (CJ b c):=by
 unfold CJ;rw[Ag,xn,vg]
def qNf (a:Nat):DC a 0=1:=by unfold DC Cg;rfl
def qZs (a n:Nat):DC (DZ a) n=DC a n:=by unfold DC DZ;rw[<-Nat.pow_mod]
def Lh (a m n:Nat):DC a (m+n)=CJ (DC a m) (DC a n):=by
 unfold DC CJ;rw[yx,<-Nat.mul_mod]
def Le (r a n:Nat)(h:n%2=0):CJ r (DC (CJ a a) (n/2))=CJ r (DC a n):=by
 unfold CJ DC;rw[<-Nat.pow_mod,xn,xn,show a*a=a^2 from(Nat.pow_two a).symm,<-Nat.pow_mul,show 2*(n/2)=n from by omega]
def Ov (r a n:Nat)(h:n%2=1):CJ (CJ r a) (DC (CJ a a) (n/2))=CJ r (DC a n):=by
 unfold CJ DC;rw[<-Nat.pow_mod,xn,Ag,xn,show a*a=a^2 from(Nat.pow_two a).symm,<-Nat.pow_mul,vg,<-Nat.pow_succ',show(2*(n/2)).succ=n from by omega]
def Ou (r a:Nat)(h:r<Cg):CJ r (DC a 0)=r:=by
 rw[qNf];unfold CJ;rw[oV,qm h]
def qZr (a n:Nat):CJ 1 (DC (DZ a) n)=DC a n:=by
 rw[qZs];unfold CJ;rw[AB];exact qm (YR _ _)
end
section
def Di:Nat:=1103515245
def QA (v:Nat)(b:UInt8):Nat:=Dc (CJ v Di) (b.toNat+1)
def CS (t:List UInt8):Nat:=t.foldl QA 0
def fI (t:List UInt8):Nat:=DC Di t.length
def gQ (t:List UInt8):Nat:=t.count 10
def kQ (t:List UInt8):Nat:=(t.takeWhile (· !=10)).length
def kR (t:List UInt8):Nat:=(t.reverse.takeWhile (· !=10)).length

def yG (l:List UInt8)(a:UInt8):CS (l++[a])=Dc (CJ (CS l) Di) (a.toNat+1):=by
 unfold CS;rw[uy,sj,zq,QA]
def yF:CS []=0:=by unfold CS;rw[zq]
def pI (t:List UInt8):CS t<Cg:=by
 induction t using Vh with
 |h0=>rw[yF];exact El
 |h1 l a _=>rw[yG];exact YG _ _
def mX (t:List UInt8):fI t<Cg:=YR _ _
def KT (b:UInt8):CS [b]=b.toNat+1:=by
 have:=b.toNat_lt;have h:=yG [] b;rw[jw,yF]at h;rw[h];unfold Dc CJ Cg;omega
def qGo:fI []=1:=by unfold fI;rw[iw,qNf]
def qGp (b:UInt8):fI [b]=Di:=by
 unfold fI DC Di Cg;rw[bf,Nat.pow_one]
def lL (s t:List UInt8):fI (s++t)=CJ (fI s) (fI t):=by
 unfold fI;rw[aa,Lh]
def qVj (a b c d:Nat):Dc (CJ (Dc a b) c) d=Dc (CJ a c) (Dc (CJ b c) d):=by
 unfold Dc CJ;generalize Cg=p;simp only[Ag,Nat.mod_add_mod,Nat.add_mod_mod,qc,qa]
def rM (s t:List UInt8):CS (s++t)=Dc (CJ (CS s) (fI t)) (CS t):=by
 induction t using Vh with
 |h0=>
  rw[ax,qGo,yF];unfold CJ Dc
  rw[oV,xh,Nat.mod_mod,qm (pI s)]
 |h1 l a ih=>
  rw[<-ah,yG,yG,ih,lL,qGp,qVj,qUo]

def qC (s t:List UInt8):gQ (s++t)=gQ s+gQ t:=List.count_append
def Og {t}(h:gQ t=0):∀b∈t,(b !=10)=true:=by
 intro b hb;have:=List.count_eq_zero.1 h;simp only[bne_iff_ne];rintro rfl;exact this hb
def qKd {p:UInt8->Bool}{t}(h:∀b∈t,p b=true) (u:List UInt8):(t++u).takeWhile p=t++u.takeWhile p:=by
 induction t with
 |nil=>rfl
 |cons a t ih=>rw[jq,zf,if_pos (h a BF),ih (fun b hb=>h b (by simp[hb])),jq]
def qFy {p:UInt8->Bool}{t}(h:∃b∈t,p b=false) (u:List UInt8):(t++u).takeWhile p=t.takeWhile p:=by
 induction t with
 |nil=>obtain⟨b,hb,_⟩:=h;cases hb
 |cons a t ih=>
  rw[jq,zf,zf]
  by_cases ha:p a=true
  ·rw[if_pos ha,if_pos ha,ih]
   obtain⟨b,hb,hp⟩:=h
   cases hb with
   |head=>rw[ha]at hp;cases hp
   |tail _ hb=>exact⟨b,hb,hp⟩
  rw[if_neg ha,if_neg ha]
def zAn {t}(h:gQ t≠0):∃b∈t,(b !=10)=false:=by
 have h1:(10:UInt8)∈t:=by
  rw[<-List.count_pos_iff];unfold gQ at h;omega
 exact⟨10,h1,by decide⟩
def lF (s t:List UInt8):kQ (s++t)=if gQ s=0 then s.length+kQ t else kQ s:=by
 unfold kQ;split
 ·rw[qKd (Og ‹_›),aa]
 rw[qFy (zAn ‹_›)]
def nN (t:List UInt8):gQ t.reverse=gQ t:=List.count_reverse
def VL (t:List UInt8):kR t=kQ t.reverse:=rfl
def nE (s t:List UInt8):kR (s++t)=if gQ t=0 then t.length+kR s else kR t:=by
 rw[VL,List.reverse_append,lF,nN,zg];rfl
def wH {t}(h:gQ t=0):kQ t=t.length:=by
 have:=lF t [];rw[ax,if_pos h]at this;simpa[kQ]using this
def Wn {t}(h:gQ t=0):kR t=t.length:=by
 rw[VL,wH (by rwa [nN]),zg]
def Xz (t:List UInt8):kQ t<=t.length:=(List.takeWhile_sublist _).length_le
def qSp (t:List UInt8):kR t<=t.length:=by rw[VL];have:=Xz t.reverse;rwa [zg]at this
def qLy {t}(h:gQ t≠0):∃u v,t=u++10::v/\gQ u=0:=by
 induction t with
 |nil=>exact absurd rfl h
 |cons a t ih=>
  by_cases ha:a=10
  ·exact⟨[],t,by rw[ha];rfl,rfl⟩
  have ht:gQ t≠0:=by
   unfold gQ at*;rwa [ym ha]at h
  obtain⟨u,v,rfl,hu⟩:=ih ht
  exact⟨a::u,v,O,by unfold gQ at*;rw[ym ha];exact hu⟩
def VB (t:List UInt8):gQ t<=t.length:=List.count_le_length
def qHa (v:List UInt8):gQ (10::v)=gQ v+1:=by unfold gQ;rw[List.count_cons_self]
def yR {t}(h:gQ t≠0):
  kQ t+kR t+gQ t<=t.length/\(gQ t=1->kQ t+kR t+1=t.length):=by
 obtain⟨u,v,rfl,hu⟩:=qLy h;have h1:kQ (u++10::v)=u.length:=by rw[lF,if_pos hu];simp[kQ]
 have hl:gQ (u++10::v)=gQ v+1:=by rw[qC,hu,qHa];omega
 by_cases hv:gQ v=0
 ·have h2:kR (u++10::v)=v.length:=by
   rw[show u++10::v=(u++[10])++v by simp,nE,if_pos hv];have:kR (u++[10])=0:=by rw[nE,if_neg (by decide)];rfl
   omega
  rw[h1,h2,hl,hv];simp;omega
 have h2:kR (u++10::v)=kR v:=by
  rw[show u++10::v=(u++[10])++v by simp,nE,if_neg hv]
 have hr:gQ v.reverse≠0:=by rwa [nN]
 obtain⟨x,y,hA,hx⟩:=qLy hr
 have hB:v=y.reverse++10::x.reverse:=by
  have:=au List.reverse hA;rw[List.reverse_reverse]at this;rw[this];simp
 have h3:kR v=x.length:=by
  rw[VL,hA,lF,if_pos hx];simp[kQ]
 have h4:gQ v=gQ y+1:=by rw[<-nN,hA,qC,hx,qHa];omega
 have h5:v.length=y.length+1+x.length:=by rw[hB];simp;omega
 have h6:=VB y;rw[h1,h2,h3,hl,h4];simp only[aa,az];omega
def rep (k:Nat)(t:List UInt8):List UInt8:=(List.replicate k t).flatten
def Xo (t:List UInt8):rep 0 t=[]:=rfl
def rep_succ (k:Nat)(t:List UInt8):rep (k+1) t=t++rep k t:=by simp[rep,dz]
def rep_one (t:List UInt8):rep 1 t=t:=by rw[rep_succ,Xo,ax]
def rep_length (k:Nat)(t:List UInt8):(rep k t).length=k*t.length:=by
 simp[rep]
def Ox (j k:Nat)(t:List UInt8):rep (j+k) t=rep j t++rep k t:=by
 induction j with
 |zero=>rw[jh,Xo,jw]
 |succ j ih=>rw[Nat.succ_add,rep_succ,rep_succ,ih,ah]
def rep_comm (k:Nat)(t:List UInt8):rep k t++t=t++rep k t:=by
 have h1:=Ox k 1 t;have h2:=rep_succ k t;rw[rep_one]at h1;rw[<-h1,h2]
def qHl (k:Nat)(t:List UInt8):rep k (t++t)=rep (2*k) t:=by
 induction k with
 |zero=>rfl
 |succ k ih=>rw[rep_succ,ih,show 2*(k+1)=(2*k+1)+1 by omega,rep_succ,rep_succ,ah]
def rep_even (r t:List UInt8){k}(h:k%2=0):r++rep (k/2) (t++t)=r++rep k t:=by
 rw[qHl,show 2*(k/2)=k by omega]
def rep_odd (r t:List UInt8){k}(h:k%2=1):(r++t)++rep (k/2) (t++t)=r++rep k t:=by
 rw[qHl,ah,<-rep_succ,show 2*(k/2)+1=k by omega]
def XE (k:Nat)(t:List UInt8):gQ (rep k t)=gQ t*k:=by
 induction k with
 |zero=>rfl
 |succ k ih=>rw[rep_succ,qC,ih,BA];omega
def zBr {k t}(hk:1<=k)(h:gQ t≠0):kQ (rep k t)=kQ t:=by
 obtain⟨j,rfl⟩:∃j,k=j+1:=⟨k-1,oO⟩;rw[rep_succ,lF,if_neg h]
def zBt {k t}(hk:1<=k)(h:gQ t≠0):kR (rep k t)=kR t:=by
 obtain⟨j,rfl⟩:∃j,k=j+1:=⟨k-1,oO⟩;rw[rep_succ,<-rep_comm,nE,if_neg h]
end
end Eg
namespace Go.Proofs.YtnicahfnolhgbaaGreatDoor
section
open Go Go.RowKit

def CQ (w:World)(b:Nat)(c:List Value)(e:TypeId):Prop:=w.heap[b]?=some (.cells c.toArray e (0,0))

variable {w w':World}{b b' o:Nat}{c:List Value}{e:TypeId}{v:Value}
def CQ.lt (h:CQ w b c e):b<w.heap.size:=(ic.1 h).1
def CQ.cell (h:CQ w b c e)(o:Nat){v}(hv:c[o]?=some v):w.cell? ⟨b,o,none⟩=some v:=by
 unfold CQ at h;simp[World.cell?,h,hv]
def CQ.frozen (h:CQ w b c e)(o:Nat):w.frozen? ⟨b,o,none⟩=false:=by
 unfold CQ at h;simp[World.frozen?,h]
def CQ.set_same (h:CQ w b c e)(o:Nat)(v:Value):CQ (w.setCell ⟨b,o,none⟩ v) b (c.set o v) e:=by
 unfold CQ at*;have hA:b<w.heap.size:=(ic.1 h).1;simp[World.setCell,qj,h]
def CQ.set_other (h:CQ w b c e)(hA:b'≠b)(o:Nat)(v:Value):CQ (w.setCell ⟨b',o,none⟩ v) b c e:=by
 unfold CQ at*;simp[World.setCell,qj,hA,h]
def CQ.alloc (h:CQ w b c e)(x:Obj):CQ (w.alloc x) b c e:=by
 have hA:=h.lt;unfold CQ at*;rw[Below.heap_alloc w x b hA];exact h
def CQ.drew (h:CQ w b c e):CQ w.drew b c e:=h
def CQ.below {B}(h:CQ w b c e)(hb:Below B w w')(hA:b<B):CQ w' b c e:=by
 unfold CQ at*;rw[hb.block b hA];exact h
def CQ.grown {row}(h:CQ w b c e)(hg:w.grownBy w' row)(hA:some b≠row):CQ w' b c e:=by
 have hB:=h.lt;unfold CQ at*;rw[hg.block b hB hA];exact h
def CQ.new (w:World)(c:List Value)(e:TypeId):CQ (w.alloc (.cells c.toArray e)) w.heap.size c e:=by
 unfold CQ;exact heap_alloc_new w _
def CQ.new_at (w:World){b}(h:b=w.heap.size)(c:List Value)(e:TypeId):CQ (w.alloc (.cells c.toArray e)) b c e:=h▸CQ.new w c e
def CQ.inj {c'}(h:CQ w b c e)(h':CQ w b c' e):c=c':=by
 unfold CQ at*;rw[h]at h';simpa using h'
def qDn (w:World)(a:Addr)(v:Value):w.grownBy (w.setCell a v) (some a.block):=
 ⟨rfl,rfl,rfl,by simp[World.setCell],fun k _ hk=>Below.heap_setCell _ _ _ _ (fun e=>hk (by rw[e]))⟩
def tH {p R:World->Prop}(W:World)(hR:R W)(h:∀wx,R wx->p wx):p W:=h W hR
def YZ {B n a w}(h:Below B a w):Below B a (w.drewN n):=⟨h.os,h.tape,h.output,h.size,h.block⟩
def QR {W w1}(hb:Below W.heap.size W w1):(∀b o,b<W.heap.size->w1.cell? ⟨b,o,none⟩=W.cell? ⟨b,o,none⟩)/\(∀b o,b<W.heap.size->w1.frozen? ⟨b,o,none⟩=W.frozen? ⟨b,o,none⟩):=
 ⟨fun b o h=>hb.cell (p:=⟨b,o,none⟩) h,fun b o h=>hb.frozen (p:=⟨b,o,none⟩) h⟩
end
section
open Go Go.RowKit Eg
set_option maxRecDepth 100000

def Ip (r:Rl):Value:= .agg #[.int .i64 (Rl.kind (r):Nat),.int .u8 (Rl.byte (r):Nat),.int .i64 (Rl.left (r):Nat),.int .i64 (Rl.right (r):Nat),.int .i64 (Rl.times (r):Nat)]

def Lu {a b:Rl}(h1:a.kind=b.kind)(h2:a.byte=b.byte)(h3:a.left=b.left)(h4:a.right=b.right)(h5:a.times=b.times):a=b:=by
 cases a<;>cases b<;>simp_all [Rl.kind,Rl.byte,Rl.left,Rl.right,Rl.times]
 exact UInt8.toNat_inj.1 h2

def zBi:Tryz.prog.underlying 111=some (.struct (Tryz.prog.fieldsOf 111)):=by kernel_rfl
def RG:Tryz.prog.stoodInHeld 111=false:=by kernel_rfl

def KX : (Tryz.prog.fieldsOf 111).toList = [⟨"Kind", 3, 0, false, "", "", 0⟩, ⟨"Letter", 5, 1, false, "", "", 8⟩, ⟨"Left", 41, 2, false, "", "", 16⟩, ⟨"Right", 41, 3, false, "", "", 24⟩, ⟨"Times", 3, 4, false, "", "", 32⟩] := by kernel_rfl
def qUw (a b:Rl)(w:World):(Op.equal 111 (Ip a) (Ip b)).run Tryz.prog w= .ok (decide (a=b)) w:=by
 have h:(decide (a=b))=((a.kind:Int)==b.kind&&((a.byte:Int)==b.byte&&((a.left:Int)==b.left&&((a.right:Int)==b.right&&(a.times:Int)==b.times)))):=by
  rw[uu];simp only[decide_eq_true_eq,ik,beq_iff_eq];constructor
  ·rintro rfl;simp
  rintro⟨h1,h2,h3,h4,h5⟩;exact Lu oO oO oO oO oO
 rw[h];unfold Op.equal Op.maxDepth Ip;rw[show(10000:Nat)=9999+1 from rfl,run_equalIn_struct _ _ _ _ _ zBi RG,KX];simp only[Op.eqFields];simp[go_sem];by_cases e1:(a.kind:Int)=b.kind
 ·by_cases e2:(a.byte:Int)=b.byte
  ·by_cases e3:(a.left:Int)=b.left
   ·by_cases e4:(a.right:Int)=b.right
    ·by_cases e5:(a.times:Int)=b.times
     ·simp[e1,e2,e3,e4,e5]
     simp[e1,e2,e3,e4,e5]
    simp[e1,e2,e3,e4]
   simp[e1,e2,e3]
  simp[e1,e2]
 simp[e1]

def qA:List Rl->Rl->Nat->Nat
 |[],_,_=>0
 |x::l,r,i=>if r=x then i+1 else qA l r (i+1)
def EA (L:List Rl)(r:Rl):Nat:=qA L r 0
def Zh {L r i}:qA L r i=0↔r∉L:=by
 induction L generalizing i with
 |nil=>simp[qA]
 |cons x l ih=>
  unfold qA
  split
  ·subst_vars;simp
  rw[ih];simp[*]
def Zg {L r i}(h:r∈L):∃k,qA L r i=i+k+1/\L[k]?=some r:=by
 induction L generalizing i with
 |nil=>cases h
 |cons x l ih=>
  unfold qA
  split
  ·subst_vars;exact⟨0,rfl,rfl⟩
  rename_i hne
  obtain⟨k,h1,h2⟩:=ih (i:=i+1) (by rcases di.1 h with h'|h';exact absurd h' hne;exact h')
  exact⟨k+1,oO,by simpa using h2⟩
def mZ {L r}:EA L r=0↔r∉L:=Zh
def qYl {L r}(h:r∈L):1<=EA L r/\L[EA L r-1]?=some r:=by
 obtain⟨k,h1,h2⟩:=Zg (i:=0) h;unfold EA;rw[h1];exact⟨oO,by rw[show 0+k+1-1=k by omega];exact h2⟩

def lT:List Rl->Nat->List MapEntry
 |[],_=>[]
 |x::l,i=>⟨Ip x,.int .i64 ((i:Int)+1),i⟩::lT l (i+1)
def JA (L:List Rl):Array MapEntry:=(lT L 0).toArray
def qFv (L M:List Rl)(i:Nat):lT (L++M) i=lT L i++lT M (i+L.length):=by
 induction L generalizing i with
 |nil=>simp[lT]
 |cons x l ih=>simp[lT,ih,qa,Aw 1]
def qUm (L:List Rl)(r:Rl):JA (L++[r])=(JA L).push ⟨Ip r,.int .i64 ((L.length:Int)+1),L.length⟩:=by
 simp[JA,qFv,lT]

def qPh (L:List Rl)(r:Rl)(i:Nat)(w:World)(j:Nat):
  (Instr.findAsking 111 (Ip r) (lT L i) j).run Tryz.prog w= .ok (if qA L r i=0 then none else some (j+(qA L r i-i-1),.int .i64 (qA L r i:Nat))) w:=by
 induction L generalizing i j with
 |nil=>simp[lT,Instr.findAsking,qA]
 |cons x l ih=>
  unfold lT Instr.findAsking qA
  simp only[Sem.run_bind,qUw,Result.andThen_ok]
  by_cases h:r=x
  ·simp[h]
  simp only[h,decide_false,ou,if_false,ih]
  by_cases hz:qA l r (i+1)=0
  ·simp[hz]
  have hm:r∈l:=by
   rcases Classical.em (r∈l)with hm|hm
   ·exact hm
   exact absurd (Zh.2 hm) hz
  obtain⟨k,hk,_⟩:=Zg (i:=i+1) hm
  rw[if_neg hz,if_neg hz,hk]
  congr 3
  omega

def qRe (L:List Rl)(r:Rl)(w:World):
  (Instr.findKey 111 (Ip r) (JA L).toList).run Tryz.prog w= .ok (if EA L r=0 then none else some (EA L r-1,.int .i64 (EA L r:Nat))) w:=by
 unfold Instr.findKey JA EA;simp only[Sem.run_bind,run_underlying zBi,Result.andThen_ok];cases L with
 |nil=>simp[lT,Instr.findNow,qA]
 |cons x l=>
  have h:Instr.findNow (.struct (Tryz.prog.fieldsOf 111)) (Ip r) (lT (x::l) 0) 0=none:=by
   simp[lT,Instr.findNow,Instr.sameNow]
  rw[h]
  simpa using qPh (x::l) r 0 w 0

def qLc (b:Bool)(r:Rl)(w:World):(Instr.checkKey b 10000 111 (Ip r)).run Tryz.prog w= .ok () w:=by
 unfold Ip;generalize(r.kind:Int)=x0;generalize(r.byte:Int)=x1;generalize(r.left:Int)=x2;generalize(r.right:Int)=x3;generalize(r.times:Int)=x4;kernel_rfl

def qOb:Tryz.prog.underlying 147=some (.map 111 41):=by kernel_rfl

def qUg (L:List Rl)(r:Rl)(w:World)(bm:Nat)(h:w.heap[bm]?=some (.map (JA L) L.length)):
  (Instr.lookup 147 (.map (some bm)) (Ip r) true).run Tryz.prog w= .ok (.tuple #[.int .i64 (EA L r:Nat),.bool (!decide (EA L r=0))]) w:=by
 unfold Instr.lookup;simp only[Sem.run_bind,run_underlying qOb,Result.andThen_ok];simp only[getObj,Sem.run,h];simp only[Result.andThen,Sem.run_bind,Sem.run_pure,qLc,qRe];by_cases hz:EA L r=0
 ·simp[hz]
 simp[hz]

def qUh (L:List Rl)(r:Rl)(w:World)(bm:Nat)(h:w.heap[bm]?=some (.map (JA L) L.length))(hr:r∉L):
  ∃w',(Instr.mapUpdate 147 (.map (some bm)) (Ip r) (.int .i64 ((L.length:Int)+1))).run Tryz.prog w= .ok () w'/\w'.heap[bm]?=some (.map (JA (L++[r])) (L++[r]).length)/\w.grownBy w' (some bm):=by
 have hA:bm<w.heap.size:=(ic.1 h).1;refine⟨ChangeMaps.setBlock w bm (.map (JA (L++[r])) (L++[r]).length),?_,?_,?_⟩
 ·unfold Instr.mapUpdate;simp only[Sem.run_bind,run_underlying qOb,Result.andThen_ok];simp only[getObj,Sem.run,h];simp only[Result.andThen,Sem.run_bind,qLc,qRe,mZ.2 hr,if_true];simp only[setObj,Sem.run,qUm,aa,bf];rw[h];rfl
 ·simp[ChangeMaps.setBlock,hA]
 refine⟨O,O,O,by simp[ChangeMaps.setBlock],fun k _ hk=>?_⟩;simp only[ChangeMaps.setBlock];rw[oF (by intro e;exact hk (by rw[e]))]
end
section
open Go Go.RowKit Eg

def tV {k a b}(h:a=b):Ending.returned (.int k a)= .returned (.int k b):=by rw[h]

namespace Mul64
def maskN (a:Nat)(ha:a<18446744073709551616):bits .and .u64 (a:Int) 4294967295=((a%4294967296:Nat):Int):=by
 have h:=bits_and_u64_nat a 4294967295 ha oO;have e:a&&&4294967295=a%4294967296:=vv a 32;rw[e]at h;exact h
def divN (a:Nat):(a:Int)/4294967296=((a/4294967296:Nat):Int):=by omega
def mulN (a b:Nat):(a:Int)*(b:Int)=((a*b:Nat):Int):=(nz a b).symm
def addN (a b:Nat):(a:Int)+(b:Int)=((a+b:Nat):Int):=(zb a b).symm
def wrapN (a:Nat)(ha:a<18446744073709551616):IntKind.u64.wrap (a:Int)=(a:Int):=by rw[IntKind.wrap_u64];omega
def wrapM (a:Nat):IntKind.u64.wrap (a:Int)=((a%18446744073709551616:Nat):Int):=by rw[IntKind.wrap_u64];omega
end Mul64

def qSt (x y:Nat)(hx:x<18446744073709551616)(hy:y<18446744073709551616)(w:World):
  Calls Tryz.prog 191 #[.int .u64 x,.int .u64 y] w fun e w'=>e= .returned (.tuple #[.int .u64 ((x*y/18446744073709551616:Nat):Int),.int .u64 ((x*y%18446744073709551616:Nat):Int)])/\w=w':=by
 obtain⟨bd,bt,bw,hA⟩:=Lib.mul64_hi x y hx hy;have ba:=Lib.half_mul_le (a:=x/4294967296) (b:=y/4294967296) oO oO;have bb:=Lib.half_mul_le (a:=x/4294967296) (b:=y%4294967296) oO oO;have bc:=Lib.half_mul_le (a:=x%4294967296) (b:=y/4294967296) oO oO;have ba':x/4294967296*(y/4294967296)<18446744073709551616:=oO;have bb':x/4294967296*(y%4294967296)<18446744073709551616:=oO;have bc':x%4294967296*(y/4294967296)<18446744073709551616:=oO;have bh1:x/4294967296*(y/4294967296)+(x/4294967296*(y%4294967296)+x%4294967296*(y%4294967296)/4294967296)/4294967296<18446744073709551616:=oO;have bh:x/4294967296*(y/4294967296)+(x/4294967296*(y%4294967296)+x%4294967296*(y%4294967296)/4294967296)/4294967296+((x/4294967296*(y%4294967296)+x%4294967296*(y%4294967296)/4294967296)%4294967296+x%4294967296*(y/4294967296))/4294967296<18446744073709551616:=oO;go_enter Tryz.func191,Tryz.ntmps191
 go_wp2
 simp only[Mul64.maskN x hx,Mul64.maskN y hy,Mul64.divN,Mul64.mulN,Mul64.addN,Mul64.wrapN _ bd,Mul64.wrapN _ bb',Mul64.wrapN _ bt,Mul64.maskN _ bt,Mul64.wrapN _ bc',Mul64.wrapN _ bw,Mul64.wrapN _ ba',Mul64.wrapN _ bh1,Mul64.wrapN _ bh,Mul64.wrapM (x*y)];rw[hA];go_ret2
 exact⟨O,O⟩

def XZ (x:Nat)(hx:x<18446744073709551616):bits .and .u64 (x:Int) 2305843009213693951=((x%2305843009213693952:Nat):Int):=by
 rw[show(2305843009213693951:Int)=((2305843009213693951:Nat):Int)from rfl,u64_and_nat x _ hx oO,show(2305843009213693951:Nat)=2^61-1 from rfl,vv]

set_option maxRecDepth 100000 in
def mH (x:Nat)(w:World)(hx:x<Eh):
  Calls Tryz.prog 175 #[.int .u64 x] w fun e w'=>e= .returned (.int .u64 (DZ x:Nat))/\w=w':=by
 unfold Eh at hx;have h1:=XZ x hx;by_cases hc:2305843009213693951<=x%2305843009213693952+x/2305843009213693952
 ·have e:(x:Int)%2305843009213693952+(x:Int)/2305843009213693952-2305843009213693951=((DZ x:Nat):Int):=by unfold DZ Cg;omega
  have E:=Lib.hid e;have hb:decide ((2305843009213693951:Int)<=(x:Int)%2305843009213693952+(x:Int)/2305843009213693952)=true:=by simp;omega
  clear e;go_enter Tryz.func175,Tryz.ntmps175
  go_wp2
  go_ret
  exact⟨tV E.out,O⟩
 have e:(x:Int)%2305843009213693952+(x:Int)/2305843009213693952=((DZ x:Nat):Int):=by unfold DZ Cg;omega
 have E:=Lib.hid e;have hb:decide ((2305843009213693951:Int)<=(x:Int)%2305843009213693952+(x:Int)/2305843009213693952)=false:=by simp;omega
 clear e;go_enter Tryz.func175,Tryz.ntmps175
 go_wp2
 go_ret
 exact⟨tV E.out,O⟩

def wrap_u64 (a:Nat)(ha:a<Eh):IntKind.u64.wrap (a:Int)=(a:Int):=by unfold Eh at ha;rw[IntKind.wrap_u64];omega

def zK (a b:Nat)(w:World)(ha:a<Eh)(hb:b<Eh):
  Calls Tryz.prog 173 #[.int .u64 a,.int .u64 b] w fun e w'=>e= .returned (.int .u64 (Dc a b:Nat))/\w=w':=by
 have hs:=wrap_u64 _ (Zm a b);rw[zb]at hs;go_enter Tryz.func173,Tryz.ntmps173
 go_wp2_with fail
 refine(mH a w ha).mono ?_;rintro e w'⟨rfl,rfl⟩;go_wp2_with fail
 refine(mH b w hb).mono ?_;rintro e w'⟨rfl,rfl⟩;go_wp2_with fail
 rw[<-zb];refine(mH (DZ a+DZ b) w (Zm a b)).mono ?_;rintro e w'⟨rfl,rfl⟩;rw[Lp];go_wp2_with fail
 go_ret
 exact⟨O,O⟩

def Ib (p:Nat):Nat:=(p/18446744073709551616*8+p%18446744073709551616/2305843009213693952)+p%18446744073709551616%2305843009213693952
def Oc (p:Nat)(hp:p<5316911983139663491615228241121378304):
  IntKind.u64.wrap ((p:Int)/18446744073709551616*8+(p:Int)%18446744073709551616/2305843009213693952+bits .and .u64 ((p:Int)%18446744073709551616) 2305843009213693951)=((Ib p:Nat):Int):=by
 have h1:=XZ (p%18446744073709551616) (tq _ oO);rw[AU]at h1;rw[show((18446744073709551616:Nat):Int)=18446744073709551616 from rfl]at h1;rw[h1,IntKind.wrap_u64];unfold Ib;omega

def nS (a b:Nat)(w:World)(ha:a<Eh)(hb:b<Eh):
  Calls Tryz.prog 174 #[.int .u64 a,.int .u64 b] w fun e w'=>e= .returned (.int .u64 (CJ a b:Nat))/\w=w':=by
 obtain⟨f1,f2⟩:=Kc _ (ZT a b);rw[Lm]at f2;have hp:=ZT a b;have hA:=Gc (xH a);have hB:=Gc (xH b);unfold Eh at hA hB;have F1:=Lib.hid f1;have F2:=Lib.hid f2;clear f1 f2;go_enter Tryz.func174,Tryz.ntmps174
 go_wp2_with fail
 refine(mH a w ha).mono ?_;rintro e w'⟨rfl,rfl⟩;go_wp2_with fail
 refine(mH b w hb).mono ?_;rintro e w'⟨rfl,rfl⟩;go_wp2_with fail
 refine(qSt _ _ hA hB w).mono ?_;rintro e w'⟨rfl,rfl⟩;clear hA hB;generalize DZ a*DZ b=p at*;go_wp2_with fail
 rw[Oc p hp];refine(mH (Ib p) w F1.out).mono ?_;rintro e w'⟨rfl,rfl⟩;rw[show DZ (Ib p)=CJ a b from F2.out];go_wp2_with fail
 go_ret
 exact⟨O,O⟩

def qV (a n:Nat)(w:World)(ha:a<Eh)(hn:n<9223372036854775808):
  Calls Tryz.prog 157 #[.int .u64 a,.int .u64 n] w fun e w'=>e= .returned (.int .u64 (DC a n:Nat))/\w=w':=by
 go_enter Tryz.func157,Tryz.ntmps157
 go_wp2_with fail
 refine(mH a w ha).mono ?_;rintro e w'⟨rfl,rfl⟩;go_wp2_with fail
 go_loop [0,1,5] (fun x m r=>∃a' n' r':Nat,x= .int .u64 a'/\m= .int .u64 n'/\r= .int .u64 r'/\a'<Cg/\r'<Cg/\n'<9223372036854775808/\CJ r' (DC a' n')=DC a n) (fun _ m _=>(intOf m).toNat)
 case atStart=>exact⟨DZ a,n,1,rfl,rfl,rfl,xH a,by decide,hn,qZr a n⟩
 case round=>
  obtain⟨a',n',r',rfl,rfl,rfl,hA,hB,hC,he⟩:=hrel
  have HE:=Lib.hid he
  clear he
  have HA:=Lib.hid hA
  have HR:=Lib.hid hB
  clear hA hB
  by_cases h0:0<n'
  ·by_cases h1:n'%2=1
   ·go_wp2_with fail
    refine(nS r' a' w (Gc HR.out) (Gc HA.out)).mono ?_
    rintro e w'⟨rfl,rfl⟩
    go_wp2_with fail
    refine(nS a' a' w (Gc HA.out) (Gc HA.out)).mono ?_
    rintro e w'⟨rfl,rfl⟩
    go_wp2_with fail
    go_round
    case rel=>exact⟨CJ a' a',n'/2,CJ r' a',rfl,by go_num,rfl,Sr _ _,Sr _ _,oO,(Ov r' a' n' h1).trans HE.out⟩
    case measure=>simp[intOf];omega
   go_wp2_with fail
   refine(nS a' a' w (Gc HA.out) (Gc HA.out)).mono ?_
   rintro e w'⟨rfl,rfl⟩
   go_wp2_with fail
   go_round
   case rel=>exact⟨CJ a' a',n'/2,r',rfl,by go_num,rfl,Sr _ _,HR.out,oO,(Le r' a' n' oO).trans HE.out⟩
   case measure=>simp[intOf];omega
  go_wp2_with fail
  go_ret
  obtain rfl:n'=0:=by omega
  refine⟨tV ?_,O⟩
  rw[<-HE.out,Ou _ _ HR.out]

def Sm (k x y:Nat)(w:World)(hk:k<Eh)(hx:x<Eh)(hy:y<Eh):
  Calls Tryz.prog 232 #[.int .u64 k,.int .u64 x,.int .u64 y] w fun e w'=>e= .returned (.int .u64 (Gd k x y:Nat))/\w=w':=by
 go_enter Tryz.func232,Tryz.ntmps232
 go_wp2_with fail
 refine(nS 1234567890123456789 x w (by unfold Eh;omega) hx).mono ?_;rintro e w'⟨rfl,rfl⟩;go_wp2_with fail
 refine(nS 987654321987654321 y w (by unfold Eh;omega) hy).mono ?_;rintro e w'⟨rfl,rfl⟩;go_wp2_with fail
 refine(zK _ _ w (Gc (Sr _ _)) (Gc (Sr _ _))).mono ?_;rintro e w'⟨rfl,rfl⟩;go_wp2_with fail
 refine(zK _ _ w hk (Gc (YG _ _))).mono ?_;rintro e w'⟨rfl,rfl⟩;go_wp2_with fail
 refine(qV _ 17 w (Gc (YG _ _)) oO).mono ?_;rintro e w'⟨rfl,rfl⟩;go_wp2_with fail
 go_ret
 exact⟨O,O⟩
end
section
open Go Go.RowKit Eg
set_option maxRecDepth 100000

def ZZ (w:World):
  Calls Tryz.prog 125 #[] w fun e w'=>e= .returned (.agg #[.int .u64 0,.int .u64 1])/\Below w.heap.size w w':=by
 go_enter Tryz.func125,Tryz.ntmps125
 go_wp2
 refine bodyPost_ret (v:= .agg #[.int .u64 0,.int .u64 1]) (by simp[results,Tryz.results125,go_sem]) O ⟨O,by go_grown⟩

def same {P f args w v}(h:Calls P f args w fun e w'=>e= .returned v/\w=w'):Calls P f args w fun e w'=>e= .returned v/\w'=w:=
 h.mono fun _ _⟨he,hw⟩=>⟨he,hw.symm⟩

def kU {P:Program}{id:Nat}{Q:Exit->Act->World->Prop}{a:Act}{w:World}{l:List Oper}(n:Nat)(hm:P.follows .mixedOrders=true)(hB:Region.lexTailB .any l.toArray n=true)
  (h:wpStill P l.toArray w.drew (fun a'=>wpList P l.toArray Q (l.drop n) a' w.drew) (l.take n) a):(Code.region id l.toArray true).wp P Q a w:=
 wp_region_still_tail n hm hB h

def rJ (a b c d:Nat)(w:World)(ha:a<Cg)(hb:b<Cg)(hc:c<Cg)(hd:d<Cg):
  Calls Tryz.prog 154 #[.agg #[.int .u64 a,.int .u64 b],.agg #[.int .u64 c,.int .u64 d]] w fun e w'=>e= .returned (.agg #[.int .u64 (Dc (CJ a d) c:Nat),.int .u64 (CJ b d:Nat)])/\Below w.heap.size w w':=by
 go_enter Tryz.func154,Tryz.ntmps154
 go_wp2_with fail
 refine kU 14 oK oK ?_;simp only[oD,oJ,og,oU];repeat(first |still_step|still_call (same (nS _ _ _ (Gc (by assumption)) (Gc (by assumption))))|still_call (same (zK _ _ _ (Gc (Sr _ _)) (Gc (by assumption)))))
 refine wpStill_nil ?_;go_wp2_with fail
 refine bodyPost_ret (v:= .agg #[.int .u64 (Dc (CJ a d) c:Nat),.int .u64 (CJ b d:Nat)]) (by simp[results,Tryz.results154,go_sem]) O ⟨O,?_⟩;go_grown

def yD (b:UInt8)(w:World):
  Calls Tryz.prog 153 #[.int .u8 b.toNat] w fun e w'=>e= .returned (.agg #[.int .u64 (CS [b]:Nat),.int .u64 (fI [b]:Nat)])/\Below w.heap.size w w':=by
 have hb:=b.toNat_lt;have e1:=KT b;have e2:=qGp b;rw[e1,e2];clear e1 e2;unfold Di;generalize b.toNat=n at*;go_enter Tryz.func153,Tryz.ntmps153
 go_wp2
 refine bodyPost_ret (v:= .agg #[.int .u64 ((n+1:Nat):Int),.int .u64 1103515245]) (by simp[results,Tryz.results153,go_sem]) O ⟨O,by go_grown⟩

def jQ (n:Nat)(w:World)(hn:n<=dC):
  Calls Tryz.prog 133 #[.int .i64 n] w fun e w'=>e= .returned (.bool true)/\w=w':=by
 have h1:decide ((n:Int)<=1152921504606846976)=true:=by unfold dC at hn;simp;omega
 have h2:decide ((0:Int)<=(n:Int))=true:=by simp
 clear hn;go_enter Tryz.func133,Tryz.ntmps133
 go_wp2
 go_ret
 exact⟨O,O⟩

def vZ (a b:Nat)(w:World)(h:a+b<=dC):
  Calls Tryz.prog 93 #[.int .i64 a,.int .i64 b] w fun e w'=>e= .returned (.tuple #[.int .i64 ((a+b:Nat):Int),.nilIface])/\w=w':=by
 have ha:a<=dC:=oO;have hb:b<=dC:=oO;have h1:decide ((1152921504606846976:Int)-(b:Int)<(a:Int))=false:=by unfold dC at h;simp;omega
 have h2:b<=1152921504606846976:=hb;have h3:a<=1152921504606846976:=ha;have hA:=Lib.hid ha;have hB:=Lib.hid hb;clear ha hb h;go_enter Tryz.func93,Tryz.ntmps93
 go_wp2_with fail
 refine(jQ a w hA.out).mono ?_;rintro e w'⟨rfl,rfl⟩;go_wp2_with fail
 refine(jQ b w hB.out).mono ?_;rintro e w'⟨rfl,rfl⟩;go_wp2_with fail
 go_ret2
 exact⟨by simp,rfl⟩

end
section
open Go Go.RowKit Eg
set_option maxRecDepth 100000

def qGz (a k:Nat)(w:World)(ha:a<=dC)(h0:1<=a)(h:a*k<=dC):
  Calls Tryz.prog 96 #[.int .i64 a,.int .i64 k] w fun e w'=>e= .returned (.tuple #[.int .i64 ((a*k:Nat):Int),.nilIface])/\w=w':=by
 have hq:k<=1152921504606846976/a:=(Ah oO).2 (by rw[oN];exact h)
 have h1:decide ((1152921504606846976:Int)/(a:Int)<(k:Int))=false:=by
  rw[show(1152921504606846976:Int)/(a:Int)=((1152921504606846976/a:Nat):Int)from by rw[xk];rfl];rw[decide_eq_false_iff_not];intro hh;exact absurd hq (Nat.not_le.2 (Int.ofNat_lt.1 hh))
 have hw:wrap64 ((a:Int)*(k:Int))=((a*k:Nat):Int):=by
  rw[<-nz];unfold dC at h;exact IntWalk.wrap64_in _ ⟨oO,oO⟩
 have h3:a<=1152921504606846976:=ha;have h4:((a:Int)==0)=false:=by simp;omega
 have h5:decide ((k:Int)<0)=false:=by simp
 have hA:=Lib.hid ha;have HW:=Lib.hid hw;clear ha hq h hw;go_enter Tryz.func96,Tryz.ntmps96
 go_wp2_with fail
 refine(jQ a w hA.out).mono ?_;rintro e w'⟨rfl,rfl⟩;go_wp2_with fail
 go_ret2
 exact⟨by simp[HW.out],rfl⟩

def qPo (n lo hi:Int)(w:World):
  Calls Tryz.prog 46 #[.int .i64 n,.int .i64 lo,.int .i64 hi] w fun e w'=>e= .returned (.int .i64 (if n<lo then lo else if hi<n then hi else n))/\w=w':=by
 by_cases h1:n<lo
 ·rw[if_pos h1];go_enter Tryz.func46,Tryz.ntmps46
  go_wp2
  go_ret
  exact⟨O,O⟩
 rw[if_neg h1];by_cases h2:hi<n
 ·rw[if_pos h2];go_enter Tryz.func46,Tryz.ntmps46
  go_wp2
  go_ret
  exact⟨O,O⟩
 rw[if_neg h2];go_enter Tryz.func46,Tryz.ntmps46
 go_wp2
 go_ret
 exact⟨O,O⟩

def qIm (t:List UInt8)(k:Nat)(w:World)(hk:k<9223372036854775808):
  Calls Tryz.prog 139 #[.agg #[.int .u64 (CS t),.int .u64 (fI t)],.int .i64 k] w fun e w'=>e= .returned (.agg #[.int .u64 (CS (rep k t):Nat),.int .u64 (fI (rep k t):Nat)])/\Below w.heap.size w w':=by
 go_enter Tryz.func139,Tryz.ntmps139
 go_wp2_with fail
 refine(ZZ _).mono ?_;rintro e w1⟨rfl,hb⟩;have hz:w.heap.size+1<w1.heap.size:=by have:=hb.size;simp at this;omega
 have b1:CQ w1 w.heap.size [.int .u64 (CS t:Nat),.int .u64 (fI t:Nat)] 64:=((CQ.new w _ _).alloc _).below hb (by simp;omega)
 have b2:CQ w1 (w.heap.size+1) [.int .u64 0,.int .u64 0] 64:=by
  have:=(CQ.new (w.alloc (.cells #[.int .u64 (CS t:Nat),.int .u64 (fI t:Nat)] 64)) [.int .u64 0,.int .u64 0] 64).below hb BF;simpa using this
 have hG:Below w.heap.size w w1:=by
  refine Below.trans ?_ (hb.mono (by simp;omega));go_grown
 clear hb;go_wp2_with fail
 go_loopw [1] (fun x wr=>∃(m:Nat)(R D:List UInt8),x= .int .i64 m/\m<9223372036854775808/\R++rep m D=rep k t/\
   CQ wr w.heap.size [.int .u64 (CS D:Nat),.int .u64 (fI D:Nat)] 64/\CQ wr (w.heap.size+1) [.int .u64 0,.int .u64 0] 64/\
   CQ wr w1.heap.size [.int .u64 (CS R:Nat),.int .u64 (fI R:Nat)] 64/\Below w.heap.size w wr) (fun x _=>(intOf x).toNat)
 case atStart=>
  refine⟨k,[],t,O,hk,O,b1.alloc _,b2.alloc _,?_,?_⟩
  ·have:=CQ.new w1 [.int .u64 0,.int .u64 1] 64
   rw[yF,qGo];exact this
  exact hG.alloc oO _
 case round=>
  obtain⟨m,R,D,rfl,hm,he,c1,c2,c3,hC⟩:=hrel
  have HE:=Lib.hid he
  clear he
  have k1:=c1.cell 0 O
  have k2:=c1.cell 1 O
  have k3:=c3.cell 0 O
  have k4:=c3.cell 1 O
  have f1:=c1.frozen 0
  have f2:=c1.frozen 1
  have f3:=c3.frozen 0
  have f4:=c3.frozen 1
  have k5:=c2.cell 0 O
  have k6:=c2.cell 1 O
  have f5:=c2.frozen 0
  have f6:=c2.frozen 1
  have hH:=c3.lt
  by_cases h0:0<m
  ·by_cases h1:m%2=1
   ·go_wp2_with fail
    refine(rJ _ _ _ _ _ (pI R) (mX R) (pI D) (mX D)).mono ?_
    rintro e w2⟨rfl,hD⟩
    rw[<-rM,<-lL]
    have d1:=c1.below hD oO
    have d2:=c2.below hD oO
    have d3:=c3.below hD hH
    have hE:Below w.heap.size w w2:=hC.trans (hD.mono oO)
    have e1:=d1.cell 0 O
    have e2:=d1.cell 1 O
    have e3:=d3.cell 0 O
    have e4:=d3.cell 1 O
    have g3:=d3.frozen 0
    have g4:=d3.frozen 1
    have hI:=d3.lt
    clear k1 k2 k3 k4 k5 k6 f1 f2 f3 f4 f5 f6 c1 c2 c3 hD hC
    go_wp2_with fail
    refine(rJ _ _ _ _ _ (pI D) (mX D) (pI D) (mX D)).mono ?_
    rintro e w3⟨rfl,hA⟩
    rw[<-rM,<-lL]
    have hJ:((w2.setCell ⟨w1.heap.size,0,none⟩ (.int .u64 (CS (R++D):Nat))).setCell ⟨w1.heap.size,1,none⟩ (.int .u64 (fI (R++D):Nat))).heap.size=w2.heap.size:=by simp
    have q1:=((d1.set_other (b':=w1.heap.size) oO 0 (.int .u64 (CS (R++D):Nat))).set_other (b':=w1.heap.size) oO 1 (.int .u64 (fI (R++D):Nat))).below hA oO
    have q2:=((d2.set_other (b':=w1.heap.size) oO 0 (.int .u64 (CS (R++D):Nat))).set_other (b':=w1.heap.size) oO 1 (.int .u64 (fI (R++D):Nat))).below hA oO
    have q3:=((d3.set_same 0 (.int .u64 (CS (R++D):Nat))).set_same 1 (.int .u64 (fI (R++D):Nat))).below hA oO
    have hB:Below w.heap.size w w3:=((hE.setCell (p:=⟨w1.heap.size,0,none⟩) (by simp;omega) _).setCell (p:=⟨w1.heap.size,1,none⟩) (by simp;omega) _).trans (hA.mono oO)
    clear hJ hA e1 e2 e3 e4 g3 g4 d1 d2 d3 hE
    have k1:=q1.cell 0 O
    have k2:=q1.cell 1 O
    have f1:=q1.frozen 0
    have f2:=q1.frozen 1
    have hF:=q3.lt
    go_wp2_with fail
    go_roundw
    case rel=>
     refine⟨m/2,R++D,D++D,by go_num,oO,(rep_odd R D h1).trans HE.out,(q1.set_same 0 _).set_same 1 _,(q2.set_other oO 0 _).set_other oO 1 _,(q3.set_other oO 0 _).set_other oO 1 _,(hB.setCell BF _).setCell BF _⟩
    case measure=>simp[intOf];omega
   go_wp2_with fail
   refine(rJ _ _ _ _ _ (pI D) (mX D) (pI D) (mX D)).mono ?_
   rintro e w3⟨rfl,hA⟩
   rw[<-rM,<-lL]
   have q1:=c1.below hA oO
   have q2:=c2.below hA oO
   have q3:=c3.below hA oO
   have hB:Below w.heap.size w w3:=hC.trans (hA.mono oO)
   clear hA k1 k2 k3 k4 k5 k6 f1 f2 f3 f4 f5 f6 c1 c2 c3 hC
   have k1:=q1.cell 0 O
   have k2:=q1.cell 1 O
   have f1:=q1.frozen 0
   have f2:=q1.frozen 1
   have hF:=q3.lt
   go_wp2_with fail
   go_roundw
   case rel=>
    refine⟨m/2,R,D++D,by go_num,oO,(rep_even R D oO).trans HE.out,(q1.set_same 0 _).set_same 1 _,(q2.set_other oO 0 _).set_other oO 1 _,(q3.set_other oO 0 _).set_other oO 1 _,(hB.setCell BF _).setCell BF _⟩
   case measure=>simp[intOf];omega
  obtain rfl:m=0:=by omega
  have hR:R=rep k t:=by have:=HE.out;rwa [Xo,ax]at this
  subst hR
  go_wp2_with fail
  refine bodyPost_ret (v:= .agg #[.int .u64 (CS (rep k t):Nat),.int .u64 (fI (rep k t):Nat)]) ?_ O ⟨O,?_⟩
  ·simp[results,Tryz.results139,go_sem,k5,k6]
  exact(hC.setCell BF _).setCell BF _

def qQk (w:World):Calls Tryz.prog 78 #[] w fun e w'=>e= .returned (.agg #[.int .i64 0,.int .i64 0,.int .i64 0,.int .i64 0,.int .u64 0,.int .u64 1])/\Below w.heap.size w w':=by
 go_enter Tryz.func78,Tryz.ntmps78
 go_wp2_with fail
 refine(ZZ _).mono ?_;rintro e w1⟨rfl,hb⟩;obtain⟨hc,hf⟩:=QR hb;have hz:w.heap.size<w1.heap.size:=by have:=hb.size;simp at this;omega
 have hA:Below w.heap.size w w1:=by
  refine Below.trans ?_ (hb.mono BF);go_grown
 go_wp2_with fail
 refine bodyPost_ret (v:= .agg #[.int .i64 0,.int .i64 0,.int .i64 0,.int .i64 0,.int .u64 0,.int .u64 1]) (by simp[results,Tryz.results78,go_sem,hc]) O ⟨O,?_⟩;repeat(refine Below.setCell ?_ BF _)
 exact hA

def qKi (b:UInt8)(w:World):Calls Tryz.prog 131 #[.int .u8 b.toNat] w fun e w'=>e= .returned (.agg #[.int .i64 (List.length ([b]):Nat),.int .i64 (gQ ([b]):Nat),.int .i64 (kQ ([b]):Nat),.int .i64 (kR ([b]):Nat),.int .u64 (CS ([b]):Nat),.int .u64 (fI ([b]):Nat)])/\Below w.heap.size w w':=by
 have hb:=b.toNat_lt;by_cases hA:b=10
 ·subst hA;go_enter Tryz.func131,Tryz.ntmps131
  go_wp2_with fail
  refine(yD 10 _).mono ?_;rintro e w1⟨rfl,hb⟩;obtain⟨hc,hf⟩:=QR hb;have hz:w.heap.size<w1.heap.size:=by have:=hb.size;simp at this;omega
  have hB:Below w.heap.size w w1:=by
   refine Below.trans ?_ (hb.mono BF);go_grown
  go_wp2_with fail
  refine bodyPost_ret (v:= .agg #[.int .i64 1,.int .i64 1,.int .i64 0,.int .i64 0,.int .u64 (CS [10]:Nat),.int .u64 (fI [10]:Nat)]) (by simp[results,Tryz.results131,go_sem,hc]) O ⟨O,?_⟩;repeat(refine Below.setCell ?_ BF _)
  exact hB
 have hn:((b.toNat:Int)==10)=false:=by
  simp only[beq_eq_false_iff_ne];intro h;exact hA (UInt8.toNat_inj.1 (by have:(10:UInt8).toNat=10:=rfl;omega))
 have hl:gQ [b]=0:=by unfold gQ;rw[ym hA];rfl
 rw[wH hl,Wn hl,hl];go_enter Tryz.func131,Tryz.ntmps131
 go_wp2_with fail
 refine(yD b _).mono ?_;rintro e w1⟨rfl,hb⟩;obtain⟨hc,hf⟩:=QR hb;have hz:w.heap.size<w1.heap.size:=by have:=hb.size;simp at this;omega
 have hB:Below w.heap.size w w1:=by
  refine Below.trans ?_ (hb.mono BF);go_grown
 go_wp2_with fail
 refine bodyPost_ret (v:= .agg #[.int .i64 1,.int .i64 0,.int .i64 1,.int .i64 1,.int .u64 (CS [b]:Nat),.int .u64 (fI [b]:Nat)]) (by simp[results,Tryz.results131,go_sem,hc]) O ⟨O,?_⟩;repeat(refine Below.setCell ?_ BF _)
 exact hB
end
section
open Go Go.RowKit Eg
set_option maxRecDepth 100000

structure Bj where
 r:Rl
 t:List UInt8
 d:Int
 e:Bool
def Bj.cells (x:Bj):List Value:=[.int .i64 (Rl.kind (x.r):Nat),.int .u8 (Rl.byte (x.r):Nat),.int .i64 (Rl.left (x.r):Nat),.int .i64 (Rl.right (x.r):Nat),.int .i64 (Rl.times (x.r):Nat),.int .i64 (List.length (x.t):Nat),.int .i64 (gQ (x.t):Nat),.int .i64 (kQ (x.t):Nat),.int .i64 (kR (x.t):Nat),.int .u64 (CS (x.t):Nat),.int .u64 (fI (x.t):Nat),.int .i64 x.d,.bool x.e]
def Bj.cells_length (x:Bj):x.cells.length=13:=rfl
def BO (E:List Bj):List Rl:=E.map (·.r)
def bQ (E:List Bj):(BO E).length=E.length:=jr _
def dB (E M:List Bj):BO (E++M)=BO E++BO M:=kv
def tX {E:List Bj}{i:Nat}{x:Bj}(h:E[i]?=some x):(BO E)[i]?=some x.r:=by simp[BO,h]
def NB (E:List Bj):List Value:=E.flatMap Bj.cells
def qNm (E M:List Bj):NB (E++M)=NB E++NB M:=List.flatMap_append
def zAc {E i x}(h:E[i]?=some x)(j:Nat)(hj:j<13):(NB E)[i*13+j]?=x.cells[j]?:=by
 induction E generalizing i with
 |nil=>simp at h
 |cons y E ih=>
  unfold NB
  rw[qz]
  cases i with
  |zero=>
   obtain rfl:y=x:=by simpa using h
   rw[aj (by rw[Bj.cells_length];omega)]
   congr 1
   omega
  |succ i=>
   rw[bi (by rw[Bj.cells_length];omega)]
   have:=ih (i:=i) (by simpa using h)
   unfold NB at this
   rw[<-this,Bj.cells_length]
   congr 1
   omega

def vH (n:Int)(h: -9223372036854775808<=n/\n<=9223372036854775807):wrap64 n=n:=by unfold wrap64;omega
def Bj.deep (E:List Bj)(x:Bj)(i:Nat):Prop:=x.d=((dep (BO E) i:Nat):Int)/\x.e=Fs (BO E) i
def Deep (E:List Bj):Prop:=∀(i:Nat)(x:Bj),E[i]?=some x->x.deep E (i+1)
def Deep.snoc {E x}(h:Deep E)(hx:x.deep (E++[x]) (E.length+1)):Deep (E++[x]):=fun i y hy=>by
 by_cases hA:i<E.length
 ·rw[aj hA]at hy;unfold Bj.deep;rw[dB,wU _ (by rw[bQ];omega),VP _ (by rw[bQ];omega)];exact h i y hy
 have hB:i<(E++[x]).length:=(ae.1 hy).1;obtain rfl:i=E.length:=by simp at hB;omega
 rw[bi (ai _)]at hy;simp at hy;subst hy;exact hx
def Xq {E x}:(BO (E++[x]))[E.length]?=some x.r:=by
 rw[dB,bi (by rw[bQ];exact ai _),bQ];simp[BO]
def qPd {E:List Bj}{x:Bj}{b:UInt8}(hr:x.r= .letter b)(hd:x.d=0)(he:x.e=true):x.deep (E++[x]) (E.length+1):=by
 have hg:=Xq (E:=E) (x:=x);rw[hr]at hg;unfold Bj.deep dep Fs;rw[mF hg];exact⟨hd,he⟩
def qXp {E:List Bj}{x xl xr:Bj}{i j:Nat}(h:Deep E)(hr:x.r= .pair (i+1) (j+1))(hi:E[i]?=some xl)(hj:E[j]?=some xr)(hd:x.d=1+max xl.d xr.d)(he:x.e=(xl.e&&xr.e&&(decide (xl.d<=xr.d+1)&&decide (xr.d<=xl.d+1)))):x.deep (E++[x]) (E.length+1):=by
 have hg:=Xq (E:=E) (x:=x);rw[hr]at hg;have hA:i<E.length:=(ae.1 hi).1;have hB:j<E.length:=(ae.1 hj).1;obtain⟨a1,a2⟩:=h i xl hi;obtain⟨b1,b2⟩:=h j xr hj;have c1:dep (BO (E++[x])) (i+1)=dep (BO E) (i+1):=by rw[dB];exact wU _ (by rw[bQ];exact hA)
 have c2:dep (BO (E++[x])) (j+1)=dep (BO E) (j+1):=by rw[dB];exact wU _ (by rw[bQ];exact hB)
 have c3:Fs (BO (E++[x])) (i+1)=Fs (BO E) (i+1):=by rw[dB];exact VP _ (by rw[bQ];exact hA)
 have c4:Fs (BO (E++[x])) (j+1)=Fs (BO E) (j+1):=by rw[dB];exact VP _ (by rw[bQ];exact hB)
 have hp:=vN hg ⟨oO,oO,oO,oO⟩;rw[c1,c2,c3,c4,<-a2,<-b2]at hp;refine⟨?_,?_⟩
 ·rw[dep,hp,hd,a1,b1];show 1+max ((dep (BO E) (i+1):Nat):Int) ((dep (BO E) (j+1):Nat):Int)=((1+max (dep (BO E) (i+1)) (dep (BO E) (j+1)):Nat):Int);omega
 rw[Fs,hp,he,a1,b1];show(_&&_&&(_&&_))=(_&&_&&(_&&_));congr 2
 ·exact decide_eq_decide.2 oO
 exact decide_eq_decide.2 oO
def qTw {E:List Bj}{x xl:Bj}{i k:Nat}(h:Deep E)(hr:x.r= .power (i+1) k)(hk:2<=k)(hi:E[i]?=some xl)(hd:x.d=1+xl.d)(he:x.e=false):x.deep (E++[x]) (E.length+1):=by
 have hg:=Xq (E:=E) (x:=x);rw[hr]at hg;have hA:i<E.length:=(ae.1 hi).1;obtain⟨a1,a2⟩:=h i xl hi;have c1:dep (BO (E++[x])) (i+1)=dep (BO E) (i+1):=by rw[dB];exact wU _ (by rw[bQ];exact hA)
 have hp:=pG hg ⟨oO,oO,hk⟩;rw[c1]at hp;refine⟨?_,?_⟩
 ·rw[dep,hp,hd,a1];show 1+((dep (BO E) (i+1):Nat):Int)=((1+dep (BO E) (i+1):Nat):Int);omega
 rw[Fs,hp,he]
structure Bb (w:World)(s most:Nat)(E:List Bj)(lv:Value)(bm:Nat):Prop where
 top:CQ w s [.int .i64 most,lv,.map (some bm)] 150
 row:w.ownsRow 0 132 13 lv E.length (NB E)
 ids:w.heap[bm]?=some (.map (JA (BO E)) (BO E).length)
 wf:Wf (BO E)
 texts:∀(i:Nat)(x:Bj),E[i]?=some x->x.t=txt (BO E) (i+1)
 most_le:most<=fJ
 fits:E.length<=most
 deeps:Deep E

variable {w w':World}{s most bm:Nat}{E:List Bj}{lv:Value}
def Bb.slice (h:Bb w s most E lv bm):∃a c,lv= .slice a E.length c/\E.length<=c:=by
 rcases h.row.2 with⟨rfl,h0⟩|⟨g,cap,cur,rfl,_,_,hc,_⟩
 ·exact⟨none,0,by rw[h0],oO⟩
 exact⟨_,_,O,hc⟩
def Bb.below (h:Bb w s most E lv bm)(hb:Below w.heap.size w w'):Bb w' s most E lv bm:=by
 have hA:bm<w.heap.size:=(ic.1 h.ids).1;refine⟨h.top.below hb h.top.lt,?_,by rw[hb.block bm hA];exact h.ids,h.wf,h.texts,h.most_le,h.fits,h.deeps⟩;exact h.row.kept (row:=none) ⟨hb.os,hb.tape,hb.output,hb.size,fun k hk _=>hb.block k hk⟩ (by cases hv:lv.ownBlock<;>simp)
def Bb.cell (h:Bb w s most E lv bm){i x}(hi:E[i]?=some x):
  ∃g c,lv= .slice (some ⟨g,0,none⟩) E.length c/\E.length<=c/\g<w.heap.size/\∀j v,x.cells[j]?=some v->w.cell? ⟨g,i*13+j,none⟩=some v:=by
 have hB:i<E.length:=(ae.1 hi).1;rcases h.row.2 with⟨rfl,h0⟩|⟨g,cap,cur,rfl,_,hg,hc,_,_,ht⟩
 ·omega
 refine⟨g,cap,O,hc,(ic.1 hg).1,fun j v hj=>?_⟩;have hA:j<13:=by rw[<-Bj.cells_length x];exact(ae.1 hj).1
 have:=zAc hi j hA;rw[hj,<-ht,ni]at this;split at this
 ·rw[cell_of_row w g _ cur _ (0,0) hg];simpa using this
 cases this

def zAs (w:World)(h:Bb w s most E lv bm):
  Calls Tryz.prog 34 #[.pointer (some ⟨s,0,none⟩)] w fun e w'=>e= .returned (.int .i64 (E.length:Nat))/\w=w':=by
 obtain⟨a,c,rfl,hc⟩:=h.slice;have k1:=h.top.cell 1 O;have hl:E.length<=1048576:=jv h.fits h.most_le;clear h hc;go_enter Tryz.func34,Tryz.ntmps34
 go_wp2
 go_ret
 exact⟨O,O⟩
def pU (w:World)(n:Int)(h:Bb w s most E lv bm):
  Calls Tryz.prog 47 #[.pointer (some ⟨s,0,none⟩),.int .i64 n] w fun e w'=>e= .returned (.bool (decide (0<=n)&&decide (n<=(E.length:Int))))/\w=w':=by
 obtain⟨a,c,rfl,hc⟩:=h.slice;have k1:=h.top.cell 1 O;have hl:E.length<=1048576:=jv h.fits h.most_le;clear h hc;by_cases h0:0<=n
 ·have d0:decide (0<=n)=true:=by simpa using h0
  by_cases h1:n<=(E.length:Int)
  ·have d1:decide (n<=(E.length:Int))=true:=by simpa using h1
   rw[d0,d1];go_enter Tryz.func47,Tryz.ntmps47
   go_wp2
   go_ret
   exact⟨O,O⟩
  have d1:decide (n<=(E.length:Int))=false:=by simpa using h1
  rw[d0,d1];go_enter Tryz.func47,Tryz.ntmps47
  go_wp2
  go_ret
  exact⟨O,O⟩
 have d0:decide (0<=n)=false:=by simpa using h0
 rw[d0];go_enter Tryz.func47,Tryz.ntmps47
 go_wp2
 go_ret
 exact⟨O,O⟩
end
section
open Go Go.RowKit Eg
set_option maxRecDepth 100000
variable {w w':World}{s most bm:Nat}{E:List Bj}{lv:Value}

def zH (w:World)(i:Nat)(x:Bj)(h:Bb w s most E lv bm)(hi:E[i]?=some x):
  Calls Tryz.prog 48 #[.pointer (some ⟨s,0,none⟩),.int .i64 ((i+1:Nat):Int)] w fun e w'=>e= .returned (.agg #[.int .i64 (Rl.kind (x.r):Nat),.int .u8 (Rl.byte (x.r):Nat),.int .i64 (Rl.left (x.r):Nat),.int .i64 (Rl.right (x.r):Nat),.int .i64 (Rl.times (x.r):Nat),.int .i64 (List.length (x.t):Nat),.int .i64 (gQ (x.t):Nat),.int .i64 (kQ (x.t):Nat),.int .i64 (kR (x.t):Nat),.int .u64 (CS (x.t):Nat),.int .u64 (fI (x.t):Nat),.int .i64 x.d,.bool x.e])/\Below w.heap.size w w':=by
 obtain⟨g,c,rfl,hc,hg,hA⟩:=h.cell hi;have hB:i<E.length:=(ae.1 hi).1;have k1:=h.top.cell 1 O;have hl:E.length<=1048576:=jv h.fits h.most_le;have b0:=h.top.lt;have c0:=hA 0 _ O;rw[xh]at c0;have c1:=hA 1 _ O;have c2:=hA 2 _ O;have c3:=hA 3 _ O;have c4:=hA 4 _ O;have c5:=hA 5 _ O;have c6:=hA 6 _ O;have c7:=hA 7 _ O;have c8:=hA 8 _ O;have c9:=hA 9 _ O;have hC:=hA 10 _ O;have hD:=hA 11 _ O;have hE:=hA 12 _ O;clear h hc hA hi;go_enter Tryz.func48,Tryz.ntmps48
 go_wp2
 refine bodyPost_ret (v:= .agg #[.int .i64 (Rl.kind (x.r):Nat),.int .u8 (Rl.byte (x.r):Nat),.int .i64 (Rl.left (x.r):Nat),.int .i64 (Rl.right (x.r):Nat),.int .i64 (Rl.times (x.r):Nat),.int .i64 (List.length (x.t):Nat),.int .i64 (gQ (x.t):Nat),.int .i64 (kQ (x.t):Nat),.int .i64 (kR (x.t):Nat),.int .u64 (CS (x.t):Nat),.int .u64 (fI (x.t):Nat),.int .i64 x.d,.bool x.e]) (by simp[results,Tryz.results48,go_sem]) O ⟨O,by go_grown⟩

def qNy (w:World)(a:Addr):
  Calls Tryz.prog 48 #[.pointer (some a),.int .i64 0] w fun e w'=>e= .returned (.agg #[.int .i64 0,.int .u8 0,.int .i64 0,.int .i64 0,.int .i64 0,.int .i64 0,.int .i64 0,.int .i64 0,.int .i64 0,.int .u64 0,.int .u64 1,.int .i64 0,.bool true])/\Below w.heap.size w w':=by
 go_enter Tryz.func48,Tryz.ntmps48
 go_wp2_with fail
 refine(qQk _).mono ?_;rintro e w1⟨rfl,hb⟩;obtain⟨hc,hf⟩:=QR hb;have hz:w.heap.size<w1.heap.size:=by have:=hb.size;simp at this;omega
 have hA:Below w.heap.size w w1:=Below.trans (by go_grown) (hb.mono BF);go_wp2_with fail
 refine bodyPost_ret (v:= .agg #[.int .i64 0,.int .u8 0,.int .i64 0,.int .i64 0,.int .i64 0,.int .i64 0,.int .i64 0,.int .i64 0,.int .i64 0,.int .u64 0,.int .u64 1,.int .i64 0,.bool true]) (by simp[results,Tryz.results48,go_sem,hc]) O ⟨O,?_⟩;repeat(refine Below.setCell ?_ BF _)
 exact hA

def Wi (w:World)(r:Rl)(h:Bb w s most E lv bm)(hr:EA (BO E) r≠0\/E.length<most):
  Calls Tryz.prog 103 #[.pointer (some ⟨s,0,none⟩),.agg #[.int .i64 (Rl.kind (r):Nat),.int .u8 (Rl.byte (r):Nat),.int .i64 (Rl.left (r):Nat),.int .i64 (Rl.right (r):Nat),.int .i64 (Rl.times (r):Nat)]] w fun e w'=>e= .returned (.tuple #[.int .i64 (EA (BO E) r:Nat),.nilIface])/\Below w.heap.size w w':=by
 have hl:E.length<=1048576:=jv h.fits h.most_le;have hm:most<=1048576:=h.most_le
 have hA:∀nq,(Instr.lookup 147 (.map (some bm)) (.agg #[.int .i64 (Rl.kind (r):Nat),.int .u8 (Rl.byte (r):Nat),.int .i64 (Rl.left (r):Nat),.int .i64 (Rl.right (r):Nat),.int .i64 (Rl.times (r):Nat)]) true).run Tryz.prog ((w.alloc (.cells #[.int .i64 (Rl.kind (r):Nat),.int .u8 (Rl.byte (r):Nat),.int .i64 (Rl.left (r):Nat),.int .i64 (Rl.right (r):Nat),.int .i64 (Rl.times (r):Nat)] 111)).drewN nq)= .ok (.tuple #[.int .i64 (EA (BO E) r:Nat),.bool (!decide (EA (BO E) r=0))]) ((w.alloc (.cells #[.int .i64 (Rl.kind (r):Nat),.int .u8 (Rl.byte (r):Nat),.int .i64 (Rl.left (r):Nat),.int .i64 (Rl.right (r):Nat),.int .i64 (Rl.times (r):Nat)] 111)).drewN nq):=by
  intro nq;refine qUg (BO E) r _ bm ?_;show(w.alloc _).heap[bm]?=_;rw[Below.heap_alloc w _ bm (ic.1 h.ids).1];exact h.ids
 obtain⟨a,c,rfl,hc⟩:=h.slice;have k0:=h.top.cell 0 O;have k1:=h.top.cell 1 O;have k2:=h.top.cell 2 O;have b0:=h.top.lt;clear h hc;generalize EA (BO E) r=i at*;by_cases hi:i=0
 ·have hB:E.length<most:=oO;clear hr;subst hi;go_enter Tryz.func103,Tryz.ntmps103
  go_wp2_with fail
  go_quiet (fail)
  go_wp2_with fail
  go_quiet (fail)
  go_wp2_with fail
  go_ret2
  exact⟨O,YZ (YZ (by go_grown))⟩
 have hd:decide (i=0)=false:=by simp[hi]
 clear hr;go_enter Tryz.func103,Tryz.ntmps103
 go_wp2_with fail
 go_quiet (fail)
 go_wp2_with fail
 go_ret2
 exact⟨O,YZ (by go_grown)⟩

def qVa (w:World)(i:Nat)(x:Bj)(h:Bb w s most E lv bm)(hi:E[i]?=some x):
  Calls Tryz.prog 38 #[.pointer (some ⟨s,0,none⟩),.int .i64 ((i+1:Nat):Int)] w fun e w'=>e= .returned (.tuple #[.agg #[.int .i64 (Rl.kind (x.r):Nat),.int .u8 (Rl.byte (x.r):Nat),.int .i64 (Rl.left (x.r):Nat),.int .i64 (Rl.right (x.r):Nat),.int .i64 (Rl.times (x.r):Nat)],.nilIface])/\Below w.heap.size w w':=by
 have hC:i<E.length:=(ae.1 hi).1;have hB:=fun W(hW:Bb W s most E lv bm)=>pU W ((i+1:Nat):Int) hW
 have hd:(decide ((0:Int)<=((i+1:Nat):Int))&&decide (((i+1:Nat):Int)<=(E.length:Int)))=true:=by simp;omega
 rw[hd]at hB;have HKN:=Lib.hid hB;have HS:=Lib.hid h;obtain⟨g,c,rfl,hc,hg,hA⟩:=h.cell hi;have k1:=h.top.cell 1 O;have hl:E.length<=1048576:=jv h.fits h.most_le;have b0:=h.top.lt;have c0:=hA 0 _ O;rw[xh]at c0;have c1:=hA 1 _ O;have c2:=hA 2 _ O;have c3:=hA 3 _ O;have c4:=hA 4 _ O;have hz:(((i+1:Nat):Int)==0)=false:=by simp;omega
 clear h hc hA hi hB hd;go_enter Tryz.func38,Tryz.ntmps38
 go_wp2_with fail
 refine(HKN.out _ (HS.out.below (by go_grown))).mono ?_;rintro e w'⟨rfl,rfl⟩;go_wp2_with fail
 refine bodyPost_ret (v:= .tuple #[.agg #[.int .i64 (Rl.kind (x.r):Nat),.int .u8 (Rl.byte (x.r):Nat),.int .i64 (Rl.left (x.r):Nat),.int .i64 (Rl.right (x.r):Nat),.int .i64 (Rl.times (x.r):Nat)],.nilIface]) (by simp[results,Tryz.results38,go_sem]) O ⟨O,by go_grown⟩

def ZQ (v0 v1 v2 v3 v4 v5 v6 v7 v8 v9 hA hB hC:Value)(w:World):(Instr.field 132 (.agg #[v0,v1,v2,v3,v4,v5,v6,v7,v8,v9,hA,hB,hC]) 1).run Tryz.prog w= .ok (.agg #[v5,v6,v7,v8,v9,hA]) w:=by kernel_rfl

def qNz (w:World)(i:Nat)(x:Bj)(h:Bb w s most E lv bm)(hi:E[i]?=some x):
  Calls Tryz.prog 21 #[.pointer (some ⟨s,0,none⟩),.int .i64 ((i+1:Nat):Int)] w fun e w'=>e= .returned (.tuple #[.agg #[.int .i64 (List.length (x.t):Nat),.int .i64 (gQ (x.t):Nat),.int .i64 (kQ (x.t):Nat),.int .i64 (kR (x.t):Nat),.int .u64 (CS (x.t):Nat),.int .u64 (fI (x.t):Nat)],.nilIface])/\Below w.heap.size w w':=by
 have hB:i<E.length:=(ae.1 hi).1;have hA:=fun W(hW:Bb W s most E lv bm)=>pU W ((i+1:Nat):Int) hW
 have hd:(decide ((0:Int)<=((i+1:Nat):Int))&&decide (((i+1:Nat):Int)<=(E.length:Int)))=true:=by simp;omega
 rw[hd]at hA;have HKN:=Lib.hid hA;have HS:=Lib.hid h;have HI:=Lib.hid hi;clear h hi hA hd hB;go_enter Tryz.func21,Tryz.ntmps21
 go_wp2_with fail
 refine(HKN.out _ (HS.out.below (by go_grown))).mono ?_;rintro e w'⟨rfl,rfl⟩;go_wp2_with fail
 refine(zH _ i x (HS.out.below (by go_grown)) HI.out).mono ?_;rintro e w1⟨rfl,hb⟩;obtain⟨hc,hf⟩:=QR hb;have hz:w.heap.size<w1.heap.size:=by have:=hb.size;simp at this;omega
 have hC:Below w.heap.size w w1:=Below.trans (by go_grown) (hb.mono BF);have hD:=ZQ;go_wp2_with fail
 refine bodyPost_ret (v:= .tuple #[.agg #[.int .i64 (List.length (x.t):Nat),.int .i64 (gQ (x.t):Nat),.int .i64 (kQ (x.t):Nat),.int .i64 (kR (x.t):Nat),.int .u64 (CS (x.t):Nat),.int .u64 (fI (x.t):Nat)],.nilIface]) (by simp[results,Tryz.results21,go_sem,hc]) O ⟨O,?_⟩;repeat(refine Below.setCell ?_ BF _)
 exact hC

def qJz (w:World)(h:Bb w s most E lv bm):
  Calls Tryz.prog 21 #[.pointer (some ⟨s,0,none⟩),.int .i64 0] w fun e w'=>e= .returned (.tuple #[.agg #[.int .i64 0,.int .i64 0,.int .i64 0,.int .i64 0,.int .u64 0,.int .u64 1],.nilIface])/\Below w.heap.size w w':=by
 have hA:=fun W(hW:Bb W s most E lv bm)=>pU W 0 hW
 have hd:(decide ((0:Int)<=0)&&decide ((0:Int)<=(E.length:Int)))=true:=by simp
 rw[hd]at hA;have HKN:=Lib.hid hA;have HS:=Lib.hid h;clear h hA hd;go_enter Tryz.func21,Tryz.ntmps21
 go_wp2_with fail
 refine(HKN.out _ (HS.out.below (by go_grown))).mono ?_;rintro e w'⟨rfl,rfl⟩;go_wp2_with fail
 refine(qNy _ _).mono ?_;rintro e w1⟨rfl,hb⟩;obtain⟨hc,hf⟩:=QR hb;have hz:w.heap.size<w1.heap.size:=by have:=hb.size;simp at this;omega
 have hB:Below w.heap.size w w1:=Below.trans (by go_grown) (hb.mono BF);have hC:=ZQ;go_wp2_with fail
 refine bodyPost_ret (v:= .tuple #[.agg #[.int .i64 0,.int .i64 0,.int .i64 0,.int .i64 0,.int .u64 0,.int .u64 1],.nilIface]) (by simp[results,Tryz.results21,go_sem,hc]) O ⟨O,?_⟩;repeat(refine Below.setCell ?_ BF _)
 exact hB
end
section
open Go Go.RowKit Eg
set_option maxRecDepth 100000

def MU {v}(h:v<Cg):decide ((2305843009213693951:Int)<=(v:Int))=false:=by
 unfold Cg at h;simp;omega

def qKk (n v:Nat)(w:World)(hn:n<=dC)(hv:v<Cg)(h0:n=0->v=0):
  Calls Tryz.prog 138 #[.agg #[.int .i64 n,.int .i64 0,.int .i64 n,.int .i64 n,.int .u64 v,.int .u64 (DC Di n:Nat)]] w fun e w'=>e= .returned (.bool true)/\Below w.heap.size w w':=by
 have hB:=MU hv;have hp:=Lib.hid hn;have hA:n<9223372036854775808:=by unfold dC at hn;omega
 generalize hs:DC Di n=s at*;have HS:=Lib.hid hs;have H0:=Lib.hid h0;have hb:1103515245<Eh:=by unfold Eh;omega
 clear hn hv h0 hs;by_cases hz:n=0
 ·obtain rfl:=hz;obtain rfl:v=0:=H0.out rfl;go_enter Tryz.func138,Tryz.ntmps138
  go_wp2_with fail
  refine(jQ 0 _ hp.out).mono ?_;rintro e w1⟨rfl,rfl⟩;go_wp2_with fail
  refine kU 8 oK oK ?_;simp only[oD,oJ,og,oU];repeat(first |still_step|still_call (same (qV 1103515245 0 _ hb oO)))
  refine wpStill_nil ?_;rw[show DC 1103515245 0=s from HS.out];go_wp2_with fail
  go_ret
  exact⟨by simp,by go_grown⟩
 have hC:((n:Int)==0)=false:=by simp;omega
 have hD:IntKind.u64.wrap (n:Int)=n:=wrap_u64 n (by unfold Eh;omega);go_enter Tryz.func138,Tryz.ntmps138
 go_wp2_with fail
 refine(jQ n _ hp.out).mono ?_;rintro e w1⟨rfl,rfl⟩;go_wp2_with fail
 refine kU 8 oK oK ?_;simp only[oD,oJ,og,oU];repeat(first |still_step|still_call (same (qV 1103515245 n _ hb hA)))
 refine wpStill_nil ?_;rw[show DC 1103515245 n=s from HS.out];go_wp2_with fail
 go_ret
 exact⟨by simp,by go_grown⟩

def qKl (n l a b v:Nat)(w:World)(hn:n<=dC)(hv:v<Cg)(hl:1<=l)(h1:a+b+l<=n)(h2:l=1->a+b+1=n):
  Calls Tryz.prog 138 #[.agg #[.int .i64 n,.int .i64 l,.int .i64 a,.int .i64 b,.int .u64 v,.int .u64 (DC Di n:Nat)]] w fun e w'=>e= .returned (.bool true)/\Below w.heap.size w w':=by
 have hE:=MU hv;have hp:=Lib.hid hn;have hA:n<9223372036854775808:=by unfold dC at hn;omega
 generalize hs:DC Di n=s at*;have HS:=Lib.hid hs;have H2:=Lib.hid h2;have hb:1103515245<Eh:=by unfold Eh;omega
 have hF:IntKind.u64.wrap (n:Int)=n:=wrap_u64 n (by unfold Eh;omega);have hG:((n:Int)==0)=false:=by simp;omega
 have hH:((l:Int)==0)=false:=by simp;omega
 have hB:((n:Int)-a-b !=1)=true->((l:Int)==1)=false:=by
  intro hD;simp only[bne_iff_ne,beq_eq_false_iff_ne]at*;intro h;exact hD (by have:=h2 oO;omega)
 have HZ3:=Lib.hid hB;clear hn hv hs h2 hB;by_cases hc:(n:Int)-a-b=1
 ·have hC:((n:Int)-a-b !=1)=false:=by simp[hc]
  have HC:=Lib.hid hc;clear hc;by_cases hq:l=1
  ·obtain rfl:=hq;go_enter Tryz.func138,Tryz.ntmps138
   go_wp2_with fail
   refine(jQ n _ hp.out).mono ?_;rintro e w1⟨rfl,rfl⟩;go_wp2_with fail
   refine kU 8 oK oK ?_;simp only[oD,oJ,og,oU];repeat(first |still_step|still_call (same (qV 1103515245 n _ hb hA)))
   refine wpStill_nil ?_;rw[show DC 1103515245 n=s from HS.out];go_wp2_with fail
   go_ret
   exact⟨by simp,by go_grown⟩
  exfalso;have:=HC.out;omega
 have hC:((n:Int)-a-b !=1)=true:=by simp[hc]
 have hq:=HZ3.out hC;go_enter Tryz.func138,Tryz.ntmps138
 go_wp2_with fail
 refine(jQ n _ hp.out).mono ?_;rintro e w1⟨rfl,rfl⟩;go_wp2_with fail
 refine kU 8 oK oK ?_;simp only[oD,oJ,og,oU];repeat(first |still_step|still_call (same (qV 1103515245 n _ hb hA)))
 refine wpStill_nil ?_;rw[show DC 1103515245 n=s from HS.out];go_wp2_with fail
 go_ret
 exact⟨by simp,by go_grown⟩
end
