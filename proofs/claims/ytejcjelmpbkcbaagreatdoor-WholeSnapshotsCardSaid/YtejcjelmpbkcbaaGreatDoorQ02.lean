import Derived.Test.YtejcjelmpbkcbaaGreatDoorQ01
import Derived.BigQuiet
import Derived.Deep.QuietTactic
import Derived.Deep.RegionHeld3
import Derived.Laws.Bits64b
import Derived.Laws.StructEq
import Derived.Lib.Hide
import Derived.Lib.Mul64
import Derived.StillTailTactics
set_option linter.all false
set_option maxHeartbeats 1000000
namespace Sl
open Go Go.RowKit Go.Proofs.YtejcjelmpbkcbaaGreatDoor
variable {E:Env}{n:Nat}{L:Fr}{S H H':List HP}{ty:TypeId}{pos:String}{af:Array Edge}{d:Option Nat}{gd:Option (Nat×Bool)}{K:Value→List HP→Prop}
def fU {x y:Operand}{t e:TypeId}{p:Option Addr}{len cap:Nat}{s b sz:Nat}{zs:List Value}{k:IntKind}{i:Int}(m:Nat)(hx:ev L x=some (.slice p len cap))(hy:ev L y=some (.int k i))(ht:E.tab t=some ⟨.slice e s b,sz,zs⟩)(hi:i=(m:Nat))(hm:m≤cap):
  Yl E n L S ⟨d,.slice t x none (some y) none,ty,pos,af,gd⟩ (.slice p m cap):=fun a w g hs=>by
 subst hi;have:=qJv (S:=S) (d:=d) (ty:=ty) (pos:=pos) (af:=af) (gd:=gd) (lo:=none) (hi:=some y) (l:=0) (h:=m) hx ht rfl ⟨k,hy⟩ (au _) hm a w g hs;rw[this];have e0:(p.map (·.add (0*s)))=p:=by cases p<;>simp[Addr.add]
 simp only[e0,ite_self,Nat.sub_zero]
def qCy {x y:Operand}{t tn e:TypeId}{p:Option Addr}{c m k es by_ sz sz' szn:Nat}{xs zs zs' zsn:List Value}{kk:TK}{kn:IntKind}{i:Int}(ht:E.tab t=some ⟨.slice e es by_,sz,zs⟩)(he:E.tab e=some ⟨kk,sz',zs'⟩)(htn:E.tab tn=some ⟨.int kn,szn,zsn⟩)(hz:(Nat.beq zs'.length es&&(Nat.blt 0 es&&iR zs'))=true)
  (hx:ev L x=some (.slice p m c)) (hy:ev L y=some (.int .i64 i)) (hi:i=(k:Nat)) (hm:Take (sl p c e es m xs) H H') (h0:0<k) (hb:(m+k)*by_≤140737488355328) (hb2:m+k≤maxLen)
  (hk:∀g' c' us,(∀z:Value,z.cells.toList=zs'→us=(Builtin.zeroCells z.cells k).toList)→K (.slice (some ⟨g',0,none⟩) (m+k) c') (sl (some ⟨g',0,none⟩) c' e es (m+k) (xs++us)::H')):Ld E n L H ⟨d,.call {callee:= .builtin .append,args:= #[x,y],argTypes:= #[t,tn]},ty,pos,af,gd⟩ K:=fun Q next a w G hn=>by
 obtain⟨hu,j,hj,hs,hby⟩:=fQ ht;obtain⟨i',z,hi',hi2,hiz,hzc,_⟩:=fH he;obtain rfl:i'=j:=by rw[hi']at hj;simpa using hj
 simp only[dz]at hz;have z1:=lh hz.1;have z2:0<es:=by simpa[vz]using hz.2.1
 have s2:=G.hp.take hm;subst hi;obtain⟨g',c',w',hr,ho,hgr,hat,_⟩:=qAs (P:=E.P) w t tn ty E.w0.heap.size e i' z kn es by_ hu (nE htn) hi' hiz hs hby (by rw[←lq,hzc];exact z1) z2 (by rw[hzc];exact zI hz.2.2) (.slice p m c) m xs s2.owns k h0 hb2 hb s2.size
 have hrun:(execOp a.eval ⟨d,.call {callee:= .builtin .append,args:= #[x,y],argTypes:= #[t,tn]},ty,pos,af,gd⟩).run E.P w= .ok (.value (.slice (some ⟨g',0,none⟩) (m+k) c')) w':=by
  simp[execOp,resolve,invoke,builtin,G.f.ev hx,G.f.ev hy,hr]
 unfold Oper.wp;rw[hrun,Oper.upon_value];refine hn _ _ _ (hk g' c' _ (fun z' hz'=>?_)) (s2.resl ho hgr hat);have:z.cells=z'.cells:=yz.1 (by rw[hzc,hz']);rw[this]
def nM {ι:Type}{Q:Exit→Act→World→Prop}(I:ι→Fr)(J:ι→List HP)(ok:ι→Prop){x y:Code}(h1:WP E x (Exit.then (fun a w=>∃i,ok i∧Good E n (I i) (J i) a w) Q) n L H) (h2:∀i,ok i→WP E y Q n (I i) (J i)):WP E (.seq x y) Q n L H:=fun a w g=>
 wp_seq (Code.wp_mono (fun e a w q=>by
  cases e with
  |normal=>obtain⟨i,hi,hg⟩:=q;exact h2 i hi a w hg
  |_=>exact q) (h1 a w g))
def fZ {ι:Type}{Q:Exit→Act→World→Prop}{I:ι→Fr}{J:ι→List HP}{ok:ι→Prop}(i:ι)(hi:ok i)(hL:wk L (I i))(hH:∀k,dU H k→dU (J i) k):AT E (Exit.then (fun a w=>∃i,ok i∧Good E n (I i) (J i) a w) Q) .normal n L H:=fun _ _ g=>⟨i,hi,g.f.wk hL,g.hp.imp hH⟩
end Sl
namespace Go
section
variable {P:Program}{ops:Array Oper}{Q:Exit→Act→World→Prop}{md:Region.Mode}{S:World→Prop}{m:Nat}
def qGt (P:Program)(md:Region.Mode)(ops:Array Oper)(Q:Exit→Act→World→Prop)(S:World→Prop)(m:Nat):Nat→Array Bool→Act→World→Prop
 |0,listed,a,w=>Region.ready md ops listed=[]∧Q .normal a w
 |fuel+1,listed,a,w=>
  (Region.ready md ops listed=[]→Q .normal a w)∧
  ∀i∈Region.ready md ops listed,wpOp P ops Q i (fun a' w'=>(i≠m→S w')∧qGt P md ops Q S m fuel (listed.setIfInBounds i true) a' w') a w
def qGu:∀(fuel:Nat)(listed:Array Bool)(a:Act)(w:World),qGt P md ops Q S m fuel listed a w→wpAny P md ops Q fuel listed a w
 |0,_,_,_,h=>h
 |fuel+1,_,_,_,h=>⟨h.1,fun i hi=>wpOp_mono (fun a' w' h'=>qGu fuel _ a' w' h'.2) (h.2 i hi)⟩
def wI {i j:Nat}{listed:Array Bool}(hj:j∈Region.ready md ops listed)(hi:i∈Region.ready md ops listed)(hw:Region.waitsFor md ops j i=true):False:=by
 obtain⟨oj,hoj,e,he,hb,heq⟩:=Region.waitsFor_spec hw;obtain⟨_,oj',hoj',hall⟩:=mem_ready.1 hj;rw[hoj]at hoj';cases hoj'
 have h1:=hall e he hb;have h0:=(mem_ready.1 hi).1;rw[heq]at h1;rcases ed i listed.size with h'|h'
 ·simp[h']at h0 h1;rw[h0]at h1;cases h1
 simp[oM h']at h1
def qMy {i:Nat}{oi:Oper}{v:Value}(hi:ops[i]?=some oi)(hsel:∀(j:Nat)(o:Oper)cs b,ops[j]?=some o→o.op≠ .select cs b)
  (hQ:∀c a w,Q (.panic c) (a.put oi.dst v) w→Q (.panic c) a w) (him:i≠m) (hw:Region.waitsFor md ops m i=true):
  ∀(fuel:Nat)(listed:Array Bool)(a:Act)(w:World),
   (∀j oj,ops[j]?=some oj→j≠i→listed.getD j true=false→(∀e∈oj.after,Region.binds md e=true→e.on≠i)→oi.apart ops oj=true)→
   i∈Region.ready md ops listed→YieldsIf P ops S oi v a→S w→
   qGt P md ops Q S m fuel (listed.setIfInBounds i true) (a.put oi.dst v) w→qGt P md ops Q S m (fuel+1) listed a w:=by
 intro fuel;induction fuel with
 |zero=>
  intro listed a w _ hr hy hS H
  refine⟨fun h=>(by rw[h]at hr;cases hr),fun j hj=>?_⟩
  by_cases hji:j=i
  ·subst hji;exact hy.wpOp hi hS ⟨fun _=>hS,H⟩
  have:=ready_mono hj hji
  rw[H.1]at this
  cases this
 |succ fuel ih=>
  intro listed a w hfree hr hy hS H
  refine⟨fun h=>(by rw[h]at hr;cases hr),fun j hj=>?_⟩
  by_cases hji:j=i
  ·subst hji;exact hy.wpOp hi hS ⟨fun _=>hS,H⟩
  have hjm:j≠m:=fun e=>wI (e▸hj) hr hw
  have h1:=H.2 j (ready_mono hj hji)
  obtain⟨hjun,oj,hoj,hall⟩:=mem_ready.1 hj
  have hnot:∀e∈oj.after,Region.binds md e=true→e.on≠i:=fun e he hb heq=>by
   have h1:=hall e he hb;have h0:=(mem_ready.1 hr).1;rw[heq]at h1;rcases ed i listed.size with h'|h'
   ·simp[h']at h0 h1;rw[h0]at h1;cases h1
   simp[oM h']at h1
  have h2:=wpOp_putIf hoj (hfree j oj hoj hji hjun hnot) (fun cs b=>hsel i oi cs b hi) (fun cs b=>hsel j oj cs b hoj) hQ hy h1
  have hfree':∀k ok,ops[k]?=some ok→k≠i→(listed.setIfInBounds j true).getD k true=false→
    (∀e∈ok.after,Region.binds md e=true→e.on≠i)→oi.apart ops ok=true:=fun k ok hk hki hun hno=>by
   refine hfree k ok hk hki ?_ hno;by_cases hjk:j=k
   ·subst hjk;exact hjun
   rw[getD_set_ne true hjk]at hun;exact hun
  refine wpOp_mono (fun a' w' h3=>⟨h3.2.1,ih (listed.setIfInBounds j true) a' w' hfree' (ready_mono hr (Ne.symm hji)) h3.1 (h3.2.1 hjm) ?_⟩) h2
  rw[qd _ _ hji]
  exact h3.2.2
end
end Go
namespace Sl
section
open Go Go.RowKit
variable {E:Env}{n:Nat}{L:Fr}{H:List HP}{Q:Exit→Act→World→Prop}{m:Nat}
def WPM (E:Env)(ops:List Oper)(m:Nat)(S:List HP)(Q:Exit→Act→World→Prop)(fuel:Nat)(listed:Array Bool)(n:Nat)(L:Fr)(H:List HP):Prop:=
 (∀k,dU H k→dU S k)→∀a w,Good E n L H a w→qGt E.P .any ops.toArray Q (fun w=>Sat E.w0 w S) m fuel listed a w
def w_until (m:Nat)(S:List HP){id:Nat}{ops:List Oper}(hS:∀k,dU H k→dU S k) (h:WPM E ops m S Q ops.toArray.size (Array.replicate ops.toArray.size false) n L H):WP E (.region id ops.toArray true) Q n L H:=fun a _ g=>
 wp_region_any E.mixed (qGu _ _ _ _ (h hS a _ ⟨g.f,g.hp.drew⟩))
def qMv (ops:Array Oper)(m:Nat)(listed:Array Bool)(i:Nat):Bool:=Region.noSelect ops&&(Region.free .any ops listed i&&((Region.ready .any ops listed).contains i&&(!(i==m)&&Region.waitsFor .any ops m i)))
def bY {ops:List Oper}{S:List HP}{fuel:Nat}{listed:Array Bool}(i:Nat){d:Option Nat}{op:Op}{ty:TypeId}{pos:String}{af:Array Edge}{v:Value}(hi:ops[i]?=some ⟨d,op,ty,pos,af,none⟩)
  (hy:Yl E n L S ⟨d,op,ty,pos,af,none⟩ v) (hQ:Calm Q) (hf:qMv ops.toArray m listed i=true) (hd:inB n d=true)
  (k:WPM E ops m S Q fuel (listed.setIfInBounds i true) n (putL d v L) H):WPM E ops m S Q (fuel+1) listed n L H:=fun hS a w g=>by
 simp only[qMv,dz,uw,beq_eq_false_iff_ne]at hf;exact qMy (eH hi) (Region.noSelect_spec hf.1) (fun c a w h=>hQ c a w d v h) hf.2.2.2.1 hf.2.2.2.2 fuel listed a w (Region.free_spec (eH hi) hf.2.1) (by simpa using hf.2.2.1) (.inl ⟨O,fun w hw=>hy a w g.f hw⟩) (g.hp.imp hS) (k hS _ _ ⟨g.f.put d v hd,g.hp⟩)
def qEq {P:Program}{ops:Array Oper}{md:Region.Mode}{S:World→Prop}{listed:Array Bool}{a:Act}{w:World}(hr:Region.ready md ops listed=[])(h:Q .normal a w):∀fuel,qGt P md ops Q S m fuel listed a w
 |0=>⟨hr,h⟩
 |_+1=>⟨fun _=>h,by rw[hr];simp⟩
def m_nil {ops:List Oper}{S:List HP}{fuel:Nat}{listed:Array Bool}(hr:Region.ready .any ops.toArray listed=[])(k:AT E Q .normal n L H):WPM E ops m S Q fuel listed n L H:=fun _ a w g=>qEq hr (k a w g) fuel
def fI {ops:List Oper}{S:List HP}{fuel:Nat}{listed:Array Bool}(i:Nat){d:Option Nat}{op:Op}{ty:TypeId}{pos:String}{af:Array Edge}(hi:ops[i]?=some ⟨d,op,ty,pos,af,none⟩)(hr:Region.ready .any ops.toArray listed=[i])(hd:inB n d=true)
  (h:Ld E n L H ⟨d,op,ty,pos,af,none⟩ (fun v H'=>(∀k,dU H' k→dU S k)∧WPM E ops m S Q fuel (listed.setIfInBounds i true) n (putL d v L) H')):WPM E ops m S Q (fuel+1) listed n L H:=fun _ a w g=>
 ⟨fun h0=>(by rw[hr]at h0;cases h0),fun j hj=>by
  obtain rfl:j=i:=by rw[hr]at hj;simpa using hj
  unfold wpOp;simp only[eH hi,Region.wanted,if_true];exact .inl (h _ _ a w g (fun v H' w' hk hs=>⟨fun _=>hs.imp hk.1,hk.2 hk.1 _ _ ⟨g.f.put d v hd,hs⟩⟩))⟩
def dG {ops:List Oper}{S:List HP}{fuel:Nat}{listed:Array Bool}(i:Nat){d:Option Nat}{op:Op}{ty:TypeId}{pos:String}{af:Array Edge}{v:Value}(hi:ops[i]?=some ⟨d,op,ty,pos,af,none⟩)(hr:Region.ready .any ops.toArray listed=[i])
  (hy:Yl E n L H ⟨d,op,ty,pos,af,none⟩ v) (hd:inB n d=true) (k:WPM E ops m S Q fuel (listed.setIfInBounds i true) n (putL d v L) H):WPM E ops m S Q (fuel+1) listed n L H:=fun hS a w g=>
 ⟨fun h0=>(by rw[hr]at h0;cases h0),fun j hj=>by
  obtain rfl:j=i:=by rw[hr]at hj;simpa using hj
  unfold wpOp;simp only[eH hi,Region.wanted,if_true];refine .inl ?_;unfold Oper.wp;rw[hy a w g.f g.hp,Oper.upon_value];exact⟨fun _=>g.hp.imp hS,k hS _ _ ⟨g.f.put d v hd,g.hp⟩⟩⟩
def iH {ops:List Oper}{S:List HP}{fuel:Nat}{listed:Array Bool}{d:Option Nat}{op:Op}{ty:TypeId}{pos:String}{af:Array Edge}(hi:ops[m]?=some ⟨d,op,ty,pos,af,none⟩)(hr:Region.ready .any ops.toArray listed=[m])(hr2:Region.ready .any ops.toArray (listed.setIfInBounds m true)=[])(hd:inB n d=true)
  (h:Ld E n L H ⟨d,op,ty,pos,af,none⟩ (fun v H'=>AT E Q .normal n (putL d v L) H')):WPM E ops m S Q (fuel+1) listed n L H:=fun _ a w g=>
 ⟨fun h0=>(by rw[hr]at h0;cases h0),fun j hj=>by
  obtain rfl:j=m:=by rw[hr]at hj;simpa using hj
  unfold wpOp;simp only[eH hi,Region.wanted,if_true];exact .inl (h _ _ a w g (fun v H' w' hk hs=>⟨fun h=>absurd O h,qEq hr2 (hk _ _ ⟨g.f.put d v hd,hs⟩) fuel⟩))⟩
def GoodF.eq {a:Act}(g:GoodF n L a){t:Nat}{v v':Value}(hl:look L t=some v)(e:v=v'):GoodF n ((t,v')::L) a:=⟨g.sz,g.df,fun u x hx=>by
 rw[qU]at hx;by_cases hu:t=u
 ·subst hu;rw[if_pos rfl]at hx;cases hx;subst e;exact g.fr t _ hl
 rw[if_neg hu]at hx;exact g.fr u x hx⟩
def l_eq {all:Array Oper}{s:Nat}{l:List Oper}(t:Nat){v:Value}(v':Value)(hl:look L t=some v)(e:v=v')(k:WPL E all Q s l n ((t,v')::L) H):WPL E all Q s l n L H:=fun a w g=>k a w ⟨g.f.eq hl e,g.hp⟩
def w_eq {c:Code}(t:Nat){v:Value}(v':Value)(hl:look L t=some v)(e:v=v')(k:WP E c Q n ((t,v')::L) H):WP E c Q n L H:=fun a w g=>k a w ⟨g.f.eq hl e,g.hp⟩
def jR {ex:Exit}(t:Nat){v:Value}(v':Value)(hl:look L t=some v)(e:v=v')(k:AT E Q ex n ((t,v')::L) H):AT E Q ex n L H:=fun a w g=>k a w ⟨g.f.eq hl e,g.hp⟩
def bW {k:IntKind}{i j:Int}(h:i=j):Value.int k i= .int k j:=by rw[h]
def l_off_u {all:Array Oper}{s:Nat}{d:Option Nat}{op:Op}{ty:TypeId}{pos:String}{af:Array Edge}{rest:List Oper}{j t:Nat}{b:Bool}(hj:(all[j]?).bind (·.dst)=some t)(hl:look L t=some undef)(hd:inB n d=true)
  (k:WPL E all Q (s-1) rest n (putL d undef L) H):WPL E all Q s (⟨d,op,ty,pos,af,some (j,b)⟩::rest) n L H:=fun a w g=>by
 have hk:=k _ _ ⟨g.f.put d undef hd,g.hp⟩;have hy:yielded all a.tmps j=none:=by simp[yielded,hj,g.f.fr t _ hl,undef]
 have hw:Region.wanted ⟨d,op,ty,pos,af,some (j,b)⟩ (yielded all a.tmps)=false:=by simp[Region.wanted,hy]
 cases s with
 |zero=>
  simp only[nk,oU,wpStill]
  unfold wpList
  rw[if_neg (by rw[hw];simp)]
  exact hk
 |succ s=>
  simp only[lu,oF]
  unfold wpStill
  rw[if_neg (by rw[hw];simp)]
  exact hk
end
section
open Go Go.RowKit
variable {E:Env}{n:Nat}{L:Fr}{H H' S:List HP}{ty:TypeId}{pos:String}{af:Array Edge}{d:Option Nat}{gd:Option (Nat×Bool)}{K:Value→List HP→Prop}{Q:Exit→Act→World→Prop}{all:Array Oper}{s:Nat}{rest:List Oper}
abbrev uPt (b:Nat):Value:= .pointer (some ⟨b,0,none⟩)
def uM {d:Nat}{x:Operand}{v:Value}(h:ev L x=some v)(k:WPL E all Q (s-1) rest n ((d,v)::L) H)(hd:Nat.blt d n=true:=by exact rfl):WPL E all Q s (⟨some d,.move x,ty,pos,af,none⟩::rest) n L H:=aA (aB h) hd k
def uA {d:Nat}{x:Operand}{v:Value}(h:ev L x=some v)(k:WPL E all Q (s-1) rest n ((d,v)::L) H)(hd:Nat.blt d n=true:=by exact rfl):WPL E all Q s (⟨some d,.assign x,ty,pos,af,none⟩::rest) n L H:=aA (aC h) hd k
def uL {d:Nat}{x:Operand}{t:TypeId}{b o:Nat}{k:TK}{sz:Nat}{zs:List Value}{v:Value}(w:WPL E all Q (s-1) rest n ((d,v)::L) H)(ht:E.tab t=some ⟨k,sz,zs⟩:=by exact hE.t rfl)(h:ev L x=some (.pointer (some ⟨b,o,none⟩)):=by exact rfl)(hk:k.agg=false:=by exact rfl)
  (hm:HasC H b o v:=by(repeat(first |rfl|assumption|constructor))) (hd:Nat.blt d n=true:=by exact rfl):WPL E all Q s (⟨some d,.load t x,ty,pos,af,none⟩::rest) n L H:=aA (aO h ht hk hm) hd w
def uY {x:Operand}{t:TypeId}{b o:Nat}{k:TK}{sz:Nat}{zs:List Value}{v:Value}(ht:E.tab t=some ⟨k,sz,zs⟩:=by exact hE.t rfl)(h:ev L x=some (.pointer (some ⟨b,o,none⟩)):=by exact rfl)(hk:k.agg=false:=by exact rfl)
  (hm:HasC S b o v:=by(repeat(first |rfl|assumption|constructor))):Yl E n L S ⟨d,.load t x,ty,pos,af,gd⟩ v:=aO h ht hk hm
def uF {d:Nat}{x:Operand}{t:TypeId}{k b o fo fs_:Nat}{fs:List (Nat×Nat)}{sz:Nat}{zs:List Value}(w:WPL E all Q (s-1) rest n ((d,.pointer (some ⟨b,o+fo,none⟩))::L) H)(ht:E.tab t=some ⟨.struct fs,sz,zs⟩:=by exact hE.t rfl)(h:ev L x=some (.pointer (some ⟨b,o,none⟩)):=by exact rfl)(hk:fs[k]?=some (fo,fs_):=by exact rfl)(hd:Nat.blt d n=true:=by exact rfl):
  WPL E all Q s (⟨some d,.fieldAddr t x k,ty,pos,af,none⟩::rest) n L H:=aA (aD h ht hk) hd w
def uD {ops:List Oper}{fuel:Nat}{listed:Array Bool}(i:Nat){op:Op}{v:Value}(hi:ops[i]?=some ⟨d,op,ty,pos,af,none⟩)(hy:Yl E n L S ⟨d,op,ty,pos,af,none⟩ v)(k:WPD E ops S Q fuel (listed.setIfInBounds i true) n (putL d v L) H)
  (hQ:Calm Q:=by with_reducible (repeat(first |exact aF|apply aG|apply aH))) (hf:(Region.noSelect ops.toArray&&(Region.free .any ops.toArray listed i&&(Region.ready .any ops.toArray listed).contains i))=true:=by kernel_rfl) (hd:inB n d=true:=by exact rfl):WPD E ops S Q (fuel+1) listed n L H:=bG i hi hy hQ hf hd k
def uT {ops:List Oper}{fuel m:Nat}{listed:Array Bool}(i:Nat){op:Op}{v:Value}(hi:ops[i]?=some ⟨d,op,ty,pos,af,none⟩)(hy:Yl E n L S ⟨d,op,ty,pos,af,none⟩ v)(k:WPM E ops m S Q fuel (listed.setIfInBounds i true) n (putL d v L) H)
  (hQ:Calm Q:=by with_reducible (repeat(first |exact aF|apply aG|apply aH))) (hf:qMv ops.toArray m listed i=true:=by kernel_rfl) (hd:inB n d=true:=by exact rfl):WPM E ops m S Q (fuel+1) listed n L H:=bY i hi hy hQ hf hd k
def uU {op:Op}(h:Ld E n L H ⟨d,op,ty,pos,af,none⟩ (fun v H'=>WPL E all Q 0 rest n (putL d v L) H')) (hs:Nat.beq s 0=true:=by kernel_rfl) (hd:inB n d=true:=by exact rfl):WPL E all Q s (⟨d,op,ty,pos,af,none⟩::rest) n L H:=aI hs hd h
def uE {P:Prop}(k:P)(h:∀k,dU H k→dU S k:=by(apply ent;(repeat constructor);done)):(∀k,dU H k→dU S k)∧P:=⟨h,k⟩
def uC {f:FuncId}{args:List Operand}{ts:Array TypeId}{vs:List Value}{Pre:List HP}{Φ:Value→List HP→Prop}(hc:Ct E f vs Pre Φ)(ha:evs L args=some vs)(hk:∀v Qs,Φ v Qs→K v (Qs++H')) (hf:goFn E.P f=true:=by exact hE.f oK) (hs:Sub Pre H H':=by((repeat constructor);done)):
  Ld E n L H ⟨d,.call {callee:= .value (.func f),args:=args.toArray,argTypes:=ts},ty,pos,af,gd⟩ K:=aZ hc ha hf hs hk
def uS {x y:Operand}{t:TypeId}{b o:Nat}{vs:List Value}{bt:TypeId}{k:TK}{sz:Nat}{zs:List Value}{v:Value}(hk:K undef (cells b (bX vs o (bP v)) bt::H'))(ht:E.tab t=some ⟨k,sz,zs⟩:=by exact hE.t rfl)(h:ev L x=some (.pointer (some ⟨b,o,none⟩)):=by exact rfl)(hy:ev L y=some v:=by exact rfl)
  (hsz:(bP v).length=sz:=by exact rfl) (hm:Take (cells b vs bt) H H':=by((repeat constructor);done)) (hp:iR (bP v)=true:=by exact rfl) (hl:o+sz≤vs.length:=by exact bi rfl):Ld E n L H ⟨d,.store t x y,ty,pos,af,gd⟩ K:=bL h hy ht hsz hm hp hl hk
def uH (S:List HP){id:Nat}{ops:List Oper}(h:WPD E ops S Q ops.toArray.size (Array.replicate ops.toArray.size false) n L H)(hS:∀k,dU H k→dU S k:=by(apply ent;(repeat constructor);done)):WP E (.region id ops.toArray true) Q n L H:=qZm S hS h
def uN (m:Nat)(S:List HP){id:Nat}{ops:List Oper}(h:WPM E ops m S Q ops.toArray.size (Array.replicate ops.toArray.size false) n L H)(hS:∀k,dU H k→dU S k:=by(apply ent;(repeat constructor);done)):WP E (.region id ops.toArray true) Q n L H:=w_until m S hS h
def uO {ops:List Oper}{fuel:Nat}{listed:Array Bool}(i:Nat){op:Op}{v:Value}{j t:Nat}{b:Bool}(hi:ops[i]?=some ⟨d,op,ty,pos,af,some (j,b)⟩)(hj:(ops[j]?).bind (·.dst)=some t)(hl:look L t=some (.bool b))(hy:Yl E n L S ⟨d,op,ty,pos,af,some (j,b)⟩ v)
  (k:WPD E ops S Q fuel (listed.setIfInBounds i true) n (putL d v L) H) (hQ:Calm Q:=by with_reducible (repeat(first |exact aF|apply aG|apply aH))) (hf:(Region.noSelect ops.toArray&&(Region.free .any ops.toArray listed i&&(Region.ready .any ops.toArray listed).contains i))=true:=by kernel_rfl) (hd:inB n d=true:=by exact rfl):WPD E ops S Q (fuel+1) listed n L H:=d_on i hi hj hl hy hQ hf hd k
def uR {ops:List Oper}{fuel:Nat}{listed:Array Bool}(i:Nat){op:Op}{j t:Nat}{b c:Bool}(hi:ops[i]?=some ⟨d,op,ty,pos,af,some (j,b)⟩)(hj:(ops[j]?).bind (·.dst)=some t)(hl:look L t=some (.bool c))(hbc:(c==b)=false)
  (k:WPD E ops S Q fuel (listed.setIfInBounds i true) n (putL d undef L) H) (hQ:Calm Q:=by with_reducible (repeat(first |exact aF|apply aG|apply aH))) (hf:(Region.noSelect ops.toArray&&(Region.free .any ops.toArray listed i&&(Region.ready .any ops.toArray listed).contains i))=true:=by kernel_rfl) (hd:inB n d=true:=by exact rfl):WPD E ops S Q (fuel+1) listed n L H:=d_off i hi hj hl hbc hQ hf hd k
def uI {H H':List HP}(h:∀k,dU H k→dU H' k:=by(apply ent;(repeat constructor);done)):∀k,dU H k→dU H' k:=h
def uK {P:Prop}(h:P:=by((repeat constructor);done)):P:=h
def uV {α:Type}(a:α)(s t:List α):(a::s)++t=a::(s++t):=rfl
def uW {α:Type}(t:List α):[]++t=t:=rfl
def uAa {x y:Operand}{xt yt:TypeId}{i j:Int}(hx:ev L x=some (.int .i64 i))(hy:ev L y=some (.int .i64 j))(h0: -9223372036854775808≤i+j:=by omega)(h1:i+j≤9223372036854775807:=by omega):Yl E n L S ⟨d,.binOp .add xt x y yt,ty,pos,af,gd⟩ (.int .i64 (i+j)):=y_add hx hy h0 h1
def uAs {x y:Operand}{xt yt:TypeId}{i j:Int}(hx:ev L x=some (.int .i64 i))(hy:ev L y=some (.int .i64 j))(h0: -9223372036854775808≤i-j:=by omega)(h1:i-j≤9223372036854775807:=by omega):Yl E n L S ⟨d,.binOp .sub xt x y yt,ty,pos,af,gd⟩ (.int .i64 (i-j)):=y_sub hx hy h0 h1
def uAi {x y:Operand}{t e:TypeId}{b o len cap:Nat}{k:IntKind}{i:Int}{s by_ sz:Nat}{zs:List Value}(h:ev L x=some (.slice (some ⟨b,o,none⟩) len cap))(hy:ev L y=some (.int k i))(ht:E.tab t=some ⟨.slice e s by_,sz,zs⟩:=by exact hE.t rfl)(h0:0≤i:=by omega)(h1:i<len:=by omega):Yl E n L S ⟨d,.indexAddr t x y,ty,pos,af,gd⟩ (.pointer (some ⟨b,o+i.toNat*s,none⟩)):=aP h hy ht h0 h1
def uAj {x y:Operand}{t e:TypeId}{b len cap:Nat}{k:IntKind}{i:Int}{by_ sz:Nat}{zs:List Value}(h:ev L x=some (.slice (some ⟨b,0,none⟩) len cap))(hy:ev L y=some (.int k i))(ht:E.tab t=some ⟨.slice e 1 by_,sz,zs⟩:=by exact hE.t rfl)(h0:0≤i:=by omega)(h1:i<len:=by omega):Yl E n L S ⟨d,.indexAddr t x y,ty,pos,af,gd⟩ (.pointer (some ⟨b,i.toNat,none⟩)):=bM h hy ht h0 h1
def uAc {x:Operand}{s t:TypeId}{kd k' ks:IntKind}{i:Int}{sz sz':Nat}{zs zs':List Value}(hx:ev L x=some (.int kd i))(hs:E.tab s=some ⟨.int ks,sz,zs⟩:=by exact hE.t rfl)(ht:E.tab t=some ⟨.int k',sz',zs'⟩:=by exact hE.t rfl)(hw:k'.wrap i=i:=by first |exact dJ oO oO|exact dK oO oO):Yl E n L S ⟨d,.convert s t x,ty,pos,af,gd⟩ (.int k' i):=dI hx hs ht hw
def uJ {x y:Operand}{t:TypeId}{b o:Nat}{xs:List Value}{c m esz:Nat}{bt:TypeId}{k:TK}{sz:Nat}{zs:List Value}{v:Value}(hk:K undef (sl (some ⟨b,0,none⟩) c bt esz m (bX xs o (bP v))::H'))(ht:E.tab t=some ⟨k,sz,zs⟩:=by exact hE.t rfl)(h:ev L x=some (.pointer (some ⟨b,o,none⟩)):=by exact rfl)(hy:ev L y=some v:=by exact rfl)
  (hsz:(bP v).length=sz:=by exact rfl) (hm:Take (sl (some ⟨b,0,none⟩) c bt esz m xs) H H':=by((repeat constructor);done)) (hp:iR (bP v)=true:=by exact rfl) (hl:o+sz≤m*esz:=by first |omega |(simp only[bP,aN,av,di];omega)):Ld E n L H ⟨d,.store t x y,ty,pos,af,gd⟩ K:=aS h hy ht hsz hm hp hl hk
def uB {d:Nat}{op:Op}{v:Value}(h:Yl E n L H ⟨some d,op,ty,pos,af,none⟩ v)(k:WPL E all Q (s-1) rest n ((d,v)::L) H)(hd:Nat.blt d n=true:=by exact rfl):WPL E all Q s (⟨some d,op,ty,pos,af,none⟩::rest) n L H:=aA h hd k
def uBl {x:Operand}{t e:TypeId}{p:Option Addr}{len cap:Nat}{s b sz:Nat}{zs:List Value}(hx:ev L x=some (.slice p len cap))(ht:E.tab t=some ⟨.slice e s b,sz,zs⟩:=by exact hE.t rfl):Yl E n L S ⟨d,.call {callee:= .builtin .len,args:= #[x],argTypes:= #[t]},ty,pos,af,gd⟩ (.int .i64 (len:Nat)):=aR hx ht
def uBf {x:Operand}{t:TypeId}{k b o fo fs_:Nat}{fs:List (Nat×Nat)}{sz:Nat}{zs:List Value}(h:ev L x=some (.pointer (some ⟨b,o,none⟩)))(ht:E.tab t=some ⟨.struct fs,sz,zs⟩:=by exact hE.t rfl)(hk:fs[k]?=some (fo,fs_):=by exact rfl):Yl E n L S ⟨d,.fieldAddr t x k,ty,pos,af,gd⟩ (.pointer (some ⟨b,o+fo,none⟩)):=aD h ht hk
def uX {f:FuncId}{args:List Operand}{ts:Array TypeId}{vs:List Value}{Pre:List HP}{Φ:Value→List HP→Prop}(hc:Ct E f vs Pre Φ)(ha:evs L args=some vs)(hk:∀v Qs,Φ v Qs→WPL E all Q 0 rest n (putL d v L) (Qs++H')) (h0:Nat.beq s 0=true:=by kernel_rfl) (hd:inB n d=true:=by exact rfl) (hf:goFn E.P f=true:=by exact hE.f oK) (hs:Sub Pre H H':=by((repeat constructor);done)):
  WPL E all Q s (⟨d,.call {callee:= .value (.func f),args:=args.toArray,argTypes:=ts},ty,pos,af,none⟩::rest) n L H:=aI h0 hd (aZ hc ha hf hs hk)
def uZ {fn:Func}{rs:List ResultVar}{vs:List Value}{Φ:Value→List HP→Prop}{R:HP}{Qs:List HP}(hrs:fn.results=⟨rs⟩)(h:Rs E L H rs vs)(hΦ:Φ (one vs) Qs)(hH:∀k,dU H k→dU (Qs++[R]) k:=by(apply ent;(repeat constructor);done)):AT E (bodyPost E.P fn (RetP E Φ R)) .ret n L H:=cB Qs hrs h hΦ hH
def uZe {fn:Func}{rs:List ResultVar}{vs:List Value}{Φ:Value→List HP→Prop}{R:HP}{Qs:List HP}(hrs:fn.results=⟨rs⟩)(h:Rs E L H rs vs)(hΦ:Φ (one vs) Qs)(hH:∀k,dU H k→dU (Qs++[R]) k:=by(apply ent;(repeat constructor);done)):AT E (bodyPost E.P fn (RetP E Φ R)) .normal n L H:=yM Qs hrs h hΦ hH
def uYa {x:Operand}{t:TypeId}{b o:Nat}{k:TK}{sz:Nat}{zs:List Value}{v:Value}(ht:E.tab t=some ⟨k,sz,zs⟩:=by exact hE.t rfl)(h:ev L x=some (.pointer (some ⟨b,o,none⟩)):=by exact rfl)(hk:k.agg=false:=by exact rfl)
  (hm:HasC S b o v:=by(repeat(first |rfl|assumption|exact ap_0|exact ap_1|exact ap_2|exact ap_3|exact ap_4|exact ap_5|exact ap_6|exact ap_7|constructor))):Yl E n L S ⟨d,.load t x,ty,pos,af,gd⟩ v:=aO h ht hk hm
def uGa {x:Operand}{t:TypeId}{b o:Nat}{k:TK}{sz:Nat}{zs us:List Value}(ht:E.tab t=some ⟨k,sz,zs⟩:=by exact hE.t rfl)(h:ev L x=some (.pointer (some ⟨b,o,none⟩)):=by exact rfl)(hk:k.agg=true:=by exact rfl)
  (hm:HasCs S b o sz us:=by(repeat(first |rfl|assumption|exact ap_0|exact ap_1|exact ap_2|exact ap_3|exact ap_4|exact ap_5|exact ap_6|exact ap_7|constructor))):Yl E n L S ⟨d,.load t x,ty,pos,af,gd⟩ (.agg ⟨us⟩):=bV h ht hk hm
def uSa {x y:Operand}{t:TypeId}{b o:Nat}{vs:List Value}{bt:TypeId}{k:TK}{sz:Nat}{zs:List Value}{v:Value}(hk:K undef (cells b (bX vs o (bP v)) bt::H'))(ht:E.tab t=some ⟨k,sz,zs⟩:=by exact hE.t rfl)(h:ev L x=some (.pointer (some ⟨b,o,none⟩)):=by exact rfl)(hy:ev L y=some v:=by exact rfl)
  (hsz:(bP v).length=sz:=by exact rfl) (hm:Take (cells b vs bt) H H':=by((repeat constructor);done)) (hp:iR (bP v)=true:=by exact rfl) (hl:o+sz≤vs.length:=by first |exact bi rfl|(simp only[bP,aa,av,di];omega)):Ld E n L H ⟨d,.store t x y,ty,pos,af,gd⟩ K:=bL h hy ht hsz hm hp hl hk
def dN {all:Array Oper}{y:Code}{Q':Exit→Act→World→Prop}(h:WP E y Q n L H):WPL E all (Exit.then (y.wp E.P Q) Q') s [] n L H:=aM (aK h)
def dO {id:Nat}{y:Code}{l:List Oper}(h:WPL E l.toArray (Exit.then (y.wp E.P Q) Q) 0 l n L H):WP E (.seq (.region id l.toArray false) y) Q n L H:=aL (aJ h)
def dP {op:Op}{j t:Nat}{b:Bool}(k:WPL E all Q s (⟨d,op,ty,pos,af,none⟩::rest) n L H)(hj:(all[j]?).bind (·.dst)=some t:=by exact rfl)(hl:look L t=some (.bool b):=by exact rfl):WPL E all Q s (⟨d,op,ty,pos,af,some (j,b)⟩::rest) n L H:=dM hj hl k
def dQ {op:Op}{j t:Nat}{b c:Bool}(k:WPL E all Q (s-1) rest n (putL d undef L) H)(hj:(all[j]?).bind (·.dst)=some t:=by exact rfl)(hl:look L t=some (.bool c):=by exact rfl)(hbc:(c==b)=false:=by exact rfl)(hd:inB n d=true:=by exact rfl):WPL E all Q s (⟨d,op,ty,pos,af,some (j,b)⟩::rest) n L H:=bT hj hl hbc hd k
end
section
open Go Go.RowKit
variable {E:Env}{n:Nat}{L:Fr}{H H' S:List HP}{ty:TypeId}{pos:String}{af:Array Edge}{d:Option Nat}{gd:Option (Nat×Bool)}{K:Value→List HP→Prop}{Q:Exit→Act→World→Prop}{all:Array Oper}{s:Nat}{rest:List Oper}
def jm {x:Operand}{v:Value}(h:Yl E n L S ⟨d,.move x,ty,pos,af,gd⟩ v):Yl E n L S ⟨d,.move x,ty,pos,af,gd⟩ v:=h
def ja {x:Operand}{v:Value}(h:Yl E n L S ⟨d,.assign x,ty,pos,af,gd⟩ v):Yl E n L S ⟨d,.assign x,ty,pos,af,gd⟩ v:=h
def jl {x:Operand}{t:TypeId}{v:Value}(h:Yl E n L S ⟨d,.load t x,ty,pos,af,gd⟩ v):Yl E n L S ⟨d,.load t x,ty,pos,af,gd⟩ v:=h
def jf {x:Operand}{t:TypeId}{k:Nat}{v:Value}(h:Yl E n L S ⟨d,.fieldAddr t x k,ty,pos,af,gd⟩ v):Yl E n L S ⟨d,.fieldAddr t x k,ty,pos,af,gd⟩ v:=h
def je {x:Operand}{k:Nat}{v:Value}(h:Yl E n L S ⟨d,.extract x k,ty,pos,af,gd⟩ v):Yl E n L S ⟨d,.extract x k,ty,pos,af,gd⟩ v:=h
def ji {x:Operand}{y:Operand}{t:TypeId}{v:Value}(h:Yl E n L S ⟨d,.indexAddr t x y,ty,pos,af,gd⟩ v):Yl E n L S ⟨d,.indexAddr t x y,ty,pos,af,gd⟩ v:=h
def jb {x:Operand}{y:Operand}{t:TypeId}{u:TypeId}{b:BinOp}{v:Value}(h:Yl E n L S ⟨d,.binOp b t x y u,ty,pos,af,gd⟩ v):Yl E n L S ⟨d,.binOp b t x y u,ty,pos,af,gd⟩ v:=h
def jk {c:Call}{v:Value}(h:Yl E n L S ⟨d,.call c,ty,pos,af,gd⟩ v):Yl E n L S ⟨d,.call c,ty,pos,af,gd⟩ v:=h
def jp {x:Operand}{y:Operand}{z:Operand}{v:Value}(h:Yl E n L S ⟨d,.pick x y z,ty,pos,af,gd⟩ v):Yl E n L S ⟨d,.pick x y z,ty,pos,af,gd⟩ v:=h
def jn {x:Operand}{v:Value}(h:Yl E n L S ⟨d,.nilCheck x,ty,pos,af,gd⟩ v):Yl E n L S ⟨d,.nilCheck x,ty,pos,af,gd⟩ v:=h
def ju {x:Operand}{t:TypeId}{o:UnOp}{v:Value}(h:Yl E n L S ⟨d,.unOp o t x,ty,pos,af,gd⟩ v):Yl E n L S ⟨d,.unOp o t x,ty,pos,af,gd⟩ v:=h
def jc {x:Operand}{t:TypeId}{u:TypeId}{v:Value}(h:Yl E n L S ⟨d,.convert t u x,ty,pos,af,gd⟩ v):Yl E n L S ⟨d,.convert t u x,ty,pos,af,gd⟩ v:=h
def jd {t:TypeId}{ps:Array (Nat×Operand)}{v:Value}(h:Yl E n L S ⟨d,.build t ps,ty,pos,af,gd⟩ v):Yl E n L S ⟨d,.build t ps,ty,pos,af,gd⟩ v:=h
def uYo {x:Operand}{t:TypeId}{v:Value}(h:Yl E n L S ⟨d,.load t x,ty,pos,af,gd⟩ v:=by exact aY rfl (hE.t rfl) rfl (by assumption)):Yl E n L S ⟨d,.load t x,ty,pos,af,gd⟩ v:=h
def uYr {x:Operand}{t:TypeId}{v:Value}(h:Yl E n L S ⟨d,.load t x,ty,pos,af,gd⟩ v:=by apply bB rfl (hE.t rfl) rfl;(focus(((repeat constructor);done)));(focus assumption)):Yl E n L S ⟨d,.load t x,ty,pos,af,gd⟩ v:=h
def uYq {x:Operand}{t:TypeId}{v:Value}(h:Yl E n L S ⟨d,.load t x,ty,pos,af,gd⟩ v:=by(apply bJ rfl (hE.t rfl) rfl (by assumption);(focus(((repeat constructor);done)));(first |((focus exact f0);(focus omega))|((focus exact f1);(focus omega))|((focus assumption);(focus omega))))):Yl E n L S ⟨d,.load t x,ty,pos,af,gd⟩ v:=h
def gY {o:Oper}{v:Value}(h:Yl E n L S o v:=by first |((with_reducible apply jm);first |exact aB rfl)|((with_reducible apply ja);first |exact aC rfl)|((with_reducible apply jl);first |exact uYa|exact uYo|exact uYr|exact uYq|exact uGa)|((with_reducible apply jf);first |exact uBf rfl)|((with_reducible apply je);first |exact aT rfl rfl)|((with_reducible apply ji);first |exact uAj rfl rfl|exact uAi rfl rfl|exact qTu rfl rfl (hE.t rfl) oO oO)|((with_reducible apply jb);first |((with_reducible apply y_lt)<;>first |exact rfl|exact hE.t rfl|omega)|((with_reducible apply y_le)<;>first |exact rfl|exact hE.t rfl|omega)|((with_reducible apply y_gt)<;>first |exact rfl|exact hE.t rfl|omega)|((with_reducible apply y_ge)<;>first |exact rfl|exact hE.t rfl|omega)|((with_reducible apply uAa)<;>first |exact rfl|exact hE.t rfl|omega)|((with_reducible apply uAs)<;>first |exact rfl|exact hE.t rfl|omega)|((with_reducible apply y_eq)<;>first |exact rfl|exact hE.t rfl|omega)|((with_reducible apply y_ne)<;>first |exact rfl|exact hE.t rfl|omega)|((with_reducible apply y_err_ne)<;>first |exact rfl|exact hE.t rfl|omega)|((with_reducible apply y_ok_ne)<;>first |exact rfl|exact hE.t rfl|omega)|((with_reducible apply qRm)<;>first |exact rfl|exact hE.t rfl|omega)|((with_reducible apply zAa)<;>first |exact rfl|exact hE.t rfl|omega)|((with_reducible apply qBl)<;>first |exact rfl|exact hE.t rfl|omega)|((with_reducible apply y_ne_ptr)<;>first |exact rfl|exact hE.t rfl|omega)|((with_reducible apply qBk)<;>first |exact rfl|exact hE.t rfl|omega)|((with_reducible apply y_ne_nil)<;>first |exact rfl|exact hE.t rfl|omega)|((with_reducible apply y_and1)<;>first |exact rfl|exact hE.t rfl|omega)|((with_reducible apply y_and_i)<;>first |exact rfl|exact hE.t rfl|omega)|((with_reducible apply y_and)<;>first |exact rfl|exact hE.t rfl|omega)|((with_reducible apply y_shr)<;>first |exact rfl|exact hE.t rfl|omega)|exact qEt rfl rfl (by show _≤64;first |omega |exact bi rfl)|((with_reducible apply y_rem)<;>first |exact rfl|exact hE.t rfl|omega)|((with_reducible apply y_quo)<;>first |exact rfl|exact hE.t rfl|omega)|((with_reducible apply y_mul)<;>first |exact rfl|exact hE.t rfl|omega)|((with_reducible apply qZv)<;>first |exact rfl|exact hE.t rfl|omega)|((with_reducible apply y_eq_sl)<;>first |exact rfl|exact hE.t rfl|omega)|((with_reducible apply y_ne_sl)<;>first |exact rfl|exact hE.t rfl|omega)|((with_reducible apply y_eq_str)<;>first |exact rfl|exact hE.t rfl|omega)|((with_reducible apply y_ne_str)<;>first |exact rfl|exact hE.t rfl|omega))|((with_reducible apply jk);first |exact uBl rfl|exact qZy rfl (hE.t rfl)|exact y_min rfl rfl|exact y_max rfl rfl)|((with_reducible apply jp);first |exact aW rfl rfl|exact aX rfl rfl)|((with_reducible apply jn);first |exact bA rfl)|((with_reducible apply ju);first |exact y_not rfl|exact y_neg rfl oO oO)|((with_reducible apply jc);first |exact uAc rfl)|((with_reducible apply jd);first |exact jK (hE.t rfl) rfl rfl|exact qJr (hE.t rfl) rfl rfl)|exact y_iface rfl (hE.t rfl) rfl|exact y_idx rfl rfl (hE.t rfl) (hE.t rfl) rfl oO oO rfl|exact qAa rfl rfl (hE.t rfl) oO (by assumption)|exact qTv rfl):Yl E n L S o v:=h
def uD0 {ops:List Oper}{fuel:Nat}{op:Op}{v:Value}{m:Nat}(hi:ops[0]?=some ⟨d,op,ty,pos,af,none⟩)(hy:Yl E n L S ⟨d,op,ty,pos,af,none⟩ v)(k:WPD E ops S Q fuel ((Array.replicate m false).setIfInBounds 0 true) n (putL d v L) H)(hQ:Calm Q:=by with_reducible (repeat(first |exact aF|apply aG|apply aH)))(hf:(Region.noSelect ops.toArray&&(Region.free .any ops.toArray (Array.replicate m false) 0&&(Region.ready .any ops.toArray (Array.replicate m false)).contains 0))=true:=by kernel_rfl)(hd:inB n d=true:=by exact rfl):WPD E ops S Q (fuel+1) (Array.replicate m false) n L H:=bG 0 hi hy hQ hf hd k
def uT0 {ops:List Oper}{fuel:Nat}{op:Op}{v:Value}{m:Nat}{m':Nat}(hi:ops[0]?=some ⟨d,op,ty,pos,af,none⟩)(hy:Yl E n L S ⟨d,op,ty,pos,af,none⟩ v)(k:WPM E ops m' S Q fuel ((Array.replicate m false).setIfInBounds 0 true) n (putL d v L) H)(hQ:Calm Q:=by with_reducible (repeat(first |exact aF|apply aG|apply aH)))(hf:qMv ops.toArray m' (Array.replicate m false) 0=true:=by kernel_rfl)(hd:inB n d=true:=by exact rfl):WPM E ops m' S Q (fuel+1) (Array.replicate m false) n L H:=bY 0 hi hy hQ hf hd k
def uDn {ops:List Oper}{fuel:Nat}{op:Op}{v:Value}{j:Nat}{listed:Array Bool}(hi:ops[(j+1)]?=some ⟨d,op,ty,pos,af,none⟩)(hy:Yl E n L S ⟨d,op,ty,pos,af,none⟩ v)(k:WPD E ops S Q fuel ((listed.setIfInBounds j true).setIfInBounds (j+1) true) n (putL d v L) H)(hQ:Calm Q:=by with_reducible (repeat(first |exact aF|apply aG|apply aH)))(hf:(Region.noSelect ops.toArray&&(Region.free .any ops.toArray (listed.setIfInBounds j true) (j+1)&&(Region.ready .any ops.toArray (listed.setIfInBounds j true)).contains (j+1)))=true:=by kernel_rfl)(hd:inB n d=true:=by exact rfl):WPD E ops S Q (fuel+1) (listed.setIfInBounds j true) n L H:=bG (j+1) hi hy hQ hf hd k
def uTn {ops:List Oper}{fuel:Nat}{op:Op}{v:Value}{j:Nat}{m':Nat}{listed:Array Bool}(hi:ops[(j+1)]?=some ⟨d,op,ty,pos,af,none⟩)(hy:Yl E n L S ⟨d,op,ty,pos,af,none⟩ v)(k:WPM E ops m' S Q fuel ((listed.setIfInBounds j true).setIfInBounds (j+1) true) n (putL d v L) H)(hQ:Calm Q:=by with_reducible (repeat(first |exact aF|apply aG|apply aH)))(hf:qMv ops.toArray m' (listed.setIfInBounds j true) (j+1)=true:=by kernel_rfl)(hd:inB n d=true:=by exact rfl):WPM E ops m' S Q (fuel+1) (listed.setIfInBounds j true) n L H:=bY (j+1) hi hy hQ hf hd k
def uOn {ops:List Oper}{fuel:Nat}{op:Op}{i t:Nat}{b:Bool}{v:Value}{j:Nat}{listed:Array Bool}(hi:ops[(j+1)]?=some ⟨d,op,ty,pos,af,some (i,b)⟩)(hj:(ops[i]?).bind (·.dst)=some t)(hl:look L t=some (.bool b))(hy:Yl E n L S ⟨d,op,ty,pos,af,some (i,b)⟩ v)(k:WPD E ops S Q fuel ((listed.setIfInBounds j true).setIfInBounds (j+1) true) n (putL d v L) H)(hQ:Calm Q:=by with_reducible (repeat(first |exact aF|apply aG|apply aH)))(hf:(Region.noSelect ops.toArray&&(Region.free .any ops.toArray (listed.setIfInBounds j true) (j+1)&&(Region.ready .any ops.toArray (listed.setIfInBounds j true)).contains (j+1)))=true:=by kernel_rfl)(hd:inB n d=true:=by exact rfl):WPD E ops S Q (fuel+1) (listed.setIfInBounds j true) n L H:=d_on (j+1) hi hj hl hy hQ hf hd k
def uRn {ops:List Oper}{fuel:Nat}{op:Op}{i t:Nat}{b c:Bool}{j:Nat}{listed:Array Bool}(hi:ops[(j+1)]?=some ⟨d,op,ty,pos,af,some (i,b)⟩)(hj:(ops[i]?).bind (·.dst)=some t)(hl:look L t=some (.bool c))(hbc:(c==b)=false)(k:WPD E ops S Q fuel ((listed.setIfInBounds j true).setIfInBounds (j+1) true) n (putL d undef L) H)(hQ:Calm Q:=by with_reducible (repeat(first |exact aF|apply aG|apply aH)))(hf:(Region.noSelect ops.toArray&&(Region.free .any ops.toArray (listed.setIfInBounds j true) (j+1)&&(Region.ready .any ops.toArray (listed.setIfInBounds j true)).contains (j+1)))=true:=by kernel_rfl)(hd:inB n d=true:=by exact rfl):WPD E ops S Q (fuel+1) (listed.setIfInBounds j true) n L H:=d_off (j+1) hi hj hl hbc hQ hf hd k
def uDz {ops:List Oper}{fuel:Nat}{listed:Array Bool}(hz:Nat.beq fuel 0=true)(k:AT E Q .normal n L H)(hr:Region.ready .any ops.toArray listed=[]:=by kernel_rfl):WPD E ops S Q fuel listed n L H:=d_nil hr k
def uTz {ops:List Oper}{m fuel:Nat}{listed:Array Bool}(hz:Nat.beq fuel 0=true)(k:AT E Q .normal n L H)(hr:Region.ready .any ops.toArray listed=[]:=by kernel_rfl):WPM E ops m S Q fuel listed n L H:=m_nil hr k
def iL {B:Prop}{l:List Oper}(h:B→WPL E all Q s l n L H):B→WPL E all Q s l n L H:=h
def iLm {B:Prop}{x:Operand}{k:Nat}(h:B→WPL E all Q s (⟨some k,.move x,ty,pos,af,none⟩::rest) n L H):B→WPL E all Q s (⟨some k,.move x,ty,pos,af,none⟩::rest) n L H:=h
def iLa {B:Prop}{x:Operand}{k:Nat}(h:B→WPL E all Q s (⟨some k,.assign x,ty,pos,af,none⟩::rest) n L H):B→WPL E all Q s (⟨some k,.assign x,ty,pos,af,none⟩::rest) n L H:=h
def iLf {B:Prop}{x:Operand}{t:TypeId}{k:Nat}{j:Nat}(h:B→WPL E all Q s (⟨some k,.fieldAddr t x j,ty,pos,af,none⟩::rest) n L H):B→WPL E all Q s (⟨some k,.fieldAddr t x j,ty,pos,af,none⟩::rest) n L H:=h
def iLl {B:Prop}{x:Operand}{t:TypeId}{k:Nat}(h:B→WPL E all Q s (⟨some k,.load t x,ty,pos,af,none⟩::rest) n L H):B→WPL E all Q s (⟨some k,.load t x,ty,pos,af,none⟩::rest) n L H:=h
def iLs {B:Prop}{x:Operand}{y:Operand}{t:TypeId}(h:B→WPL E all Q s (⟨d,.store t x y,ty,pos,af,none⟩::rest) n L H):B→WPL E all Q s (⟨d,.store t x y,ty,pos,af,none⟩::rest) n L H:=h
def iLg {B:Prop}{o:Op}{p:Nat×Bool}(h:B→WPL E all Q s (⟨d,o,ty,pos,af,some p⟩::rest) n L H):B→WPL E all Q s (⟨d,o,ty,pos,af,some p⟩::rest) n L H:=h
def iLo {B:Prop}{k:Nat}{o:Op}(h:B→WPL E all Q s (⟨some k,o,ty,pos,af,none⟩::rest) n L H):B→WPL E all Q s (⟨some k,o,ty,pos,af,none⟩::rest) n L H:=h
def iLn {B:Prop}  (h:B→WPL E all Q s ([]) n L H):B→WPL E all Q s ([]) n L H:=h
def iW {B:Prop}{c:Code}(h:B→WP E c Q n L H):B→WP E c Q n L H:=h
def iA {B:Prop}{x:Exit}(h:B→AT E Q x n L H):B→AT E Q x n L H:=h
def iD {B:Prop}{ops:List Oper}{fuel:Nat}{listed:Array Bool}(h:B→WPD E ops S Q fuel listed n L H):B→WPD E ops S Q fuel listed n L H:=h
def iM {B:Prop}{ops:List Oper}{fuel m:Nat}{listed:Array Bool}(h:B→WPM E ops m S Q fuel listed n L H):B→WPM E ops m S Q fuel listed n L H:=h
def iD0 {B:Prop}{ops:List Oper}{fuel m:Nat}(h:B→WPD E ops S Q fuel (Array.replicate m false) n L H):B→WPD E ops S Q fuel (Array.replicate m false) n L H:=h
def iDn {B:Prop}{ops:List Oper}{fuel j:Nat}{listed:Array Bool}(h:B→WPD E ops S Q fuel (listed.setIfInBounds j true) n L H):B→WPD E ops S Q fuel (listed.setIfInBounds j true) n L H:=h
def iM0 {B:Prop}{ops:List Oper}{fuel m m':Nat}(h:B→WPM E ops m S Q fuel (Array.replicate m' false) n L H):B→WPM E ops m S Q fuel (Array.replicate m' false) n L H:=h
def iMn {B:Prop}{ops:List Oper}{fuel j m:Nat}{listed:Array Bool}(h:B→WPM E ops m S Q fuel (listed.setIfInBounds j true) n L H):B→WPM E ops m S Q fuel (listed.setIfInBounds j true) n L H:=h
def gS {A B:Prop}(h:B→A:=by first |(with_reducible apply iL);(first |((with_reducible apply iLm);first |exact fun k=>uM rfl k)|((with_reducible apply iLa);first |exact fun k=>uA rfl k)|((with_reducible apply iLf);first |exact fun k=>uF k)|((with_reducible apply iLl);first |exact fun k=>uL k|exact fun k=>uB gY k)|((with_reducible apply iLs);first |exact fun k=>uU (uS k)|exact fun k=>uU (uSa k)|exact fun k=>uU (uJ k))|((with_reducible apply iLg);first |exact fun k=>dP k|exact fun k=>dQ k|exact fun k=>l_off_u rfl rfl rfl k)|((with_reducible apply iLo);first |exact fun k=>uB gY k)|((with_reducible apply iLn);first |exact fun k=>aM k))|(with_reducible apply iW);(first |(with_reducible exact fun k=>aL k)|(with_reducible exact fun k=>aJ k)|(with_reducible exact fun k=>bK k)|(with_reducible exact fun k=>bC k)|(with_reducible exact fun k=>dF k)|(with_reducible exact fun k=>bZ k)|exact fun k=>bD rfl k|exact fun k=>bF rfl k|exact fun k=>w_draws oK k)|(with_reducible apply iA);(first |(with_reducible exact fun k=>aK k)|(with_reducible exact fun k=>bI k)|(with_reducible exact fun k=>aQ k)|(with_reducible exact fun k=>bH k)|(with_reducible exact fun k=>aV k)|(with_reducible exact fun k=>bN k)|(with_reducible exact fun k=>a_rd k)|exact fun k=>qNb rfl k)|(with_reducible apply iD);(first |((with_reducible apply iDn);first |exact fun k=>uDz rfl k|exact fun k=>uDn rfl gY k|exact fun k=>uOn rfl rfl rfl gY k|exact fun k=>uRn rfl rfl rfl rfl k)|((with_reducible apply iD0);exact fun k=>uD0 rfl gY k))|(with_reducible apply iM);(first |((with_reducible apply iMn);first |exact fun k=>uTz rfl k|exact fun k=>uTn rfl gY k)|((with_reducible apply iM0);exact fun k=>uT0 rfl gY k))|exact fun k=>r_succ k):B→A:=h
def gI {A:Prop}(a:A):A:=a
def gC {A B C:Prop}(h:B→A)(k:C→B):C→A:=fun x=>h (k x)
def gg1 {A B:Prop}(b:B)(h:B→A:=by(iterate 1 ((with_reducible apply gC);focus exact gS));exact gI):A:=h b
def gg2 {A B:Prop}(b:B)(h:B→A:=by(iterate 2 ((with_reducible apply gC);focus exact gS));exact gI):A:=h b
def gg3 {A B:Prop}(b:B)(h:B→A:=by(iterate 3 ((with_reducible apply gC);focus exact gS));exact gI):A:=h b
def gg4 {A B:Prop}(b:B)(h:B→A:=by(iterate 4 ((with_reducible apply gC);focus exact gS));exact gI):A:=h b
def gg5 {A B:Prop}(b:B)(h:B→A:=by(iterate 5 ((with_reducible apply gC);focus exact gS));exact gI):A:=h b
def gg6 {A B:Prop}(b:B)(h:B→A:=by(iterate 6 ((with_reducible apply gC);focus exact gS));exact gI):A:=h b
def gg7 {A B:Prop}(b:B)(h:B→A:=by(iterate 7 ((with_reducible apply gC);focus exact gS));exact gI):A:=h b
def gg8 {A B:Prop}(b:B)(h:B→A:=by(iterate 8 ((with_reducible apply gC);focus exact gS));exact gI):A:=h b
def gg9 {A B:Prop}(b:B)(h:B→A:=by(iterate 9 ((with_reducible apply gC);focus exact gS));exact gI):A:=h b
def gg10 {A B:Prop}(b:B)(h:B→A:=by(iterate 10 ((with_reducible apply gC);focus exact gS));exact gI):A:=h b
def gg11 {A B:Prop}(b:B)(h:B→A:=by(iterate 11 ((with_reducible apply gC);focus exact gS));exact gI):A:=h b
def gg12 {A B:Prop}(b:B)(h:B→A:=by(iterate 12 ((with_reducible apply gC);focus exact gS));exact gI):A:=h b
def gg13 {A B:Prop}(b:B)(h:B→A:=by(iterate 13 ((with_reducible apply gC);focus exact gS));exact gI):A:=h b
def gg14 {A B:Prop}(b:B)(h:B→A:=by(iterate 14 ((with_reducible apply gC);focus exact gS));exact gI):A:=h b
def gg15 {A B:Prop}(b:B)(h:B→A:=by(iterate 15 ((with_reducible apply gC);focus exact gS));exact gI):A:=h b
def gg16 {A B:Prop}(b:B)(h:B→A:=by(iterate 16 ((with_reducible apply gC);focus exact gS));exact gI):A:=h b
def gg17 {A B:Prop}(b:B)(h:B→A:=by(iterate 17 ((with_reducible apply gC);focus exact gS));exact gI):A:=h b
def gg18 {A B:Prop}(b:B)(h:B→A:=by(iterate 18 ((with_reducible apply gC);focus exact gS));exact gI):A:=h b
def gg19 {A B:Prop}(b:B)(h:B→A:=by(iterate 19 ((with_reducible apply gC);focus exact gS));exact gI):A:=h b
def gg20 {A B:Prop}(b:B)(h:B→A:=by(iterate 20 ((with_reducible apply gC);focus exact gS));exact gI):A:=h b
def gg21 {A B:Prop}(b:B)(h:B→A:=by(iterate 21 ((with_reducible apply gC);focus exact gS));exact gI):A:=h b
def gg22 {A B:Prop}(b:B)(h:B→A:=by(iterate 22 ((with_reducible apply gC);focus exact gS));exact gI):A:=h b
def gg23 {A B:Prop}(b:B)(h:B→A:=by(iterate 23 ((with_reducible apply gC);focus exact gS));exact gI):A:=h b
def gg24 {A B:Prop}(b:B)(h:B→A:=by(iterate 24 ((with_reducible apply gC);focus exact gS));exact gI):A:=h b
def gg25 {A B:Prop}(b:B)(h:B→A:=by(iterate 25 ((with_reducible apply gC);focus exact gS));exact gI):A:=h b
def gg26 {A B:Prop}(b:B)(h:B→A:=by(iterate 26 ((with_reducible apply gC);focus exact gS));exact gI):A:=h b
def gg27 {A B:Prop}(b:B)(h:B→A:=by(iterate 27 ((with_reducible apply gC);focus exact gS));exact gI):A:=h b
def gg28 {A B:Prop}(b:B)(h:B→A:=by(iterate 28 ((with_reducible apply gC);focus exact gS));exact gI):A:=h b
def gg29 {A B:Prop}(b:B)(h:B→A:=by(iterate 29 ((with_reducible apply gC);focus exact gS));exact gI):A:=h b
def gg30 {A B:Prop}(b:B)(h:B→A:=by(iterate 30 ((with_reducible apply gC);focus exact gS));exact gI):A:=h b
def gg31 {A B:Prop}(b:B)(h:B→A:=by(iterate 31 ((with_reducible apply gC);focus exact gS));exact gI):A:=h b
def gg32 {A B:Prop}(b:B)(h:B→A:=by(iterate 32 ((with_reducible apply gC);focus exact gS));exact gI):A:=h b
def gg33 {A B:Prop}(b:B)(h:B→A:=by(iterate 33 ((with_reducible apply gC);focus exact gS));exact gI):A:=h b
def gg34 {A B:Prop}(b:B)(h:B→A:=by(iterate 34 ((with_reducible apply gC);focus exact gS));exact gI):A:=h b
def gg35 {A B:Prop}(b:B)(h:B→A:=by(iterate 35 ((with_reducible apply gC);focus exact gS));exact gI):A:=h b
def gg36 {A B:Prop}(b:B)(h:B→A:=by(iterate 36 ((with_reducible apply gC);focus exact gS));exact gI):A:=h b
def gg39 {A B:Prop}(b:B)(h:B→A:=by(iterate 39 ((with_reducible apply gC);focus exact gS));exact gI):A:=h b
def gg40 {A B:Prop}(b:B)(h:B→A:=by(iterate 40 ((with_reducible apply gC);focus exact gS));exact gI):A:=h b
def gg43 {A B:Prop}(b:B)(h:B→A:=by(iterate 43 ((with_reducible apply gC);focus exact gS));exact gI):A:=h b
def gg44 {A B:Prop}(b:B)(h:B→A:=by(iterate 44 ((with_reducible apply gC);focus exact gS));exact gI):A:=h b
def gg55 {A B:Prop}(b:B)(h:B→A:=by(iterate 55 ((with_reducible apply gC);focus exact gS));exact gI):A:=h b
def gg58 {A B:Prop}(b:B)(h:B→A:=by(iterate 58 ((with_reducible apply gC);focus exact gS));exact gI):A:=h b
def gg60 {A B:Prop}(b:B)(h:B→A:=by(iterate 60 ((with_reducible apply gC);focus exact gS));exact gI):A:=h b
end
end Sl
namespace Eg
section

def qIy {β:Type}{p:List β→Prop}(h0:p [])(h1:∀l a,p l→p (l++[a])):∀l,p l:=by
 intro l
 have h:∀m:List β,p m.reverse:=by
  intro m;induction m with
  |nil=>exact h0
  |cons a m ih=>rw[List.reverse_cons];exact h1 _ _ ih
 have:=h l.reverse;rwa [List.reverse_reverse]at this

inductive Rl where
 |letter (b:UInt8)
 |pair (l r:Nat)
 |power (x k:Nat)
deriving DecidableEq

def Rl.kind:Rl→Nat| .letter _=>1| .pair _ _=>2| .power _ _=>3
def Rl.byte:Rl→Nat| .letter b=>b.toNat|_=>0
def Rl.left:Rl→Nat| .letter _=>0| .pair l _=>l| .power x _=>x
def Rl.right:Rl→Nat| .letter _=>0| .pair _ r=>r| .power _ _=>0
def Rl.times:Rl→Nat| .letter _=>0| .pair _ _=>0| .power _ k=>k

def Rl.ok (n:Nat):Rl→Prop
 | .letter _=>True
 | .pair l r=>1≤l∧l<n∧1≤r∧r<n
 | .power x k=>1≤x∧x<n∧2≤k

section
variable {α:Type}
def tab (f:List α→Rl→α)(L:List Rl):List α:=L.foldl (fun acc r=>acc++[f acc r]) []

variable {f:List α→Rl→α}{L M:List Rl}{r:Rl}
def qJg:tab f (L++[r])=tab f L++[f (tab f L) r]:=by simp[tab,oo]
def nS (L:List Rl):(tab f L).length=L.length:=by
 induction L using qIy with
 |h0=>rfl
 |h1 l a ih=>simp[qJg,ih]
def qTp (L M:List Rl):(tab f (L++M)).take L.length=tab f L:=by
 induction M using qIy with
 |h0=>simp[←nS (f:=f) L]
 |h1 m a ih=>
  rw[←ah,qJg,ny,ih]
  rw[nS,aa];omega
def qYw (L M:List Rl){i:Nat}(h:i<L.length):(tab f (L++M))[i]?=(tab f L)[i]?:=by
 rw[←qTp (f:=f) L M,mf,if_pos h]
def wM (L:List Rl){i:Nat}(h:L[i]?=some r):(tab f L)[i]?=some (f (tab f (L.take i)) r):=by
 have hi:i<L.length:=(ae.1 h).1
 have e:L=(L.take i++[r])++L.drop (i+1):=by
  rw[←(ae.1 h).2,List.take_append_getElem,iw]
 have hl:i<(L.take i++[r]).length:=by simp;omega
 conv=>lhs;rw[e]
 rw[qYw _ _ hl,qJg,ax]
 ·simp[nS,kw (zx hi)]
 simp[nS];omega
def nth (d:α)(l:List α)(i:Nat):α:=if i=0 then d else l[i-1]?.getD d
def lX (d:α)(l:List α)(i:Nat):nth d l (i+1)=l[i]?.getD d:=by simp[nth]
def qDn (d:α){L:List Rl}(M:List Rl){i:Nat}(h:i≤L.length):nth d (tab f (L++M)) i=nth d (tab f L) i:=by
 cases i with
 |zero=>rfl
 |succ i=>rw[lX,lX,qYw L M h]
def nK (d:α){L:List Rl}{i k:Nat}(h:i≤k)(hk:k≤L.length):nth d (tab f (L.take k)) i=nth d (tab f L) i:=by
 have:=qDn (f:=f) d (L:=L.take k) (L.drop k) (i:=i) (by simp;omega);rw[iw]at this;exact this.symm
end

def rtext (acc:List (List UInt8)):Rl→List UInt8
 | .letter b=>[b]
 | .pair l r=>nth [] acc l++nth [] acc r
 | .power x k=>(List.replicate k (nth [] acc x)).flatten
def txt (L:List Rl)(i:Nat):List UInt8:=nth [] (tab rtext L) i

def kN (L:List Rl):txt L 0=[]:=rfl
def jQ {L:List Rl}(M:List Rl){i:Nat}(h:i≤L.length):txt (L++M) i=txt L i:=qDn [] M h
def gN {L:List Rl}{i:Nat}{b:UInt8}(h:L[i]?=some (.letter b)):txt L (i+1)=[b]:=by
 rw[txt,lX,wM L h];rfl
def jU {L:List Rl}{i l r:Nat}(h:L[i]?=some (.pair l r))(hk:(Rl.pair l r).ok (i+1)):txt L (i+1)=txt L l++txt L r:=by
 have hi:i<L.length:=(ae.1 h).1;obtain⟨_,h1,_,h2⟩:=hk;rw[txt,lX,wM L h];simp only[rtext,uk];rw[nK [] oO oO,nK [] oO oO];rfl
def kW {L:List Rl}{i x k:Nat}(h:L[i]?=some (.power x k))(hk:(Rl.power x k).ok (i+1)):txt L (i+1)=(List.replicate k (txt L x)).flatten:=by
 have hi:i<L.length:=(ae.1 h).1;obtain⟨_,h1,_⟩:=hk;rw[txt,lX,wM L h];simp only[rtext,uk];rw[nK [] oO oO];rfl

def dC:Nat:=1152921504606846976
def fP:Nat:=1048576
def len (L:List Rl)(i:Nat):Nat:=(txt L i).length

structure Wf (L:List Rl):Prop where
 ok:∀(i:Nat)(r:Rl),L[i]?=some r→r.ok (i+1)
 nodup:∀(i j:Nat)(r:Rl),L[i]?=some r→L[j]?=some r→i=j
 short:∀i:Nat,len L i≤dC
 room:L.length≤fP

def qQe (L:List Rl):len L 0=0:=rfl
def mI {L:List Rl}(M:List Rl){i:Nat}(h:i≤L.length):len (L++M) i=len L i:=by rw[len,jQ M h,len]
def qOa {L:List Rl}{i:Nat}(h:L.length<i):len L i=0:=by
 cases i with
 |zero=>rfl
 |succ i=>
  rw[len,txt,lX,ig]
  ·rfl
  rw[nS];omega
def Wf.pos {L:List Rl}(h:Wf L):∀i,1≤i→i≤L.length→1≤len L i:=by
 intro i;induction i using Nat.strongRecOn with
 |ind i ih=>
  intro h1 h2
  obtain⟨j,rfl⟩:∃j,i=j+1:=⟨i-1,oO⟩
  have hj:L[j]?=some L[j]:=ag oO
  generalize L[j]=r at hj
  have hr:=h.ok j r hj
  cases r with
  |letter b=>rw[len,gN hj];simp
  |pair l r=>
   have:=ih l (by have:=hr.2.1;omega) hr.1 (by have:=hr.2.1;omega)
   rw[len]at*
   rw[jU hj hr,aa];omega
  |power x k=>
   have:=ih x (by have:=hr.2.1;omega) hr.1 (by have:=hr.2.1;omega)
   rw[len]at*
   rw[kW hj hr]
   simp only[List.length_flatten,List.map_replicate,List.sum_replicate_nat]
   exact Nat.mul_pos (by have:=hr.2.2;omega) this
end
section
def rdp (acc:List (Nat×Bool)):Rl→Nat×Bool
 | .letter _=>(0,true)
 | .pair l r=>(1+max (nth (0,true) acc l).1 (nth (0,true) acc r).1,(nth (0,true) acc l).2&&(nth (0,true) acc r).2&&(decide ((nth (0,true) acc l).1≤(nth (0,true) acc r).1+1)&&decide ((nth (0,true) acc r).1≤(nth (0,true) acc l).1+1)))
 | .power x _=>(1+(nth (0,true) acc x).1,false)
def dpe (L:List Rl)(i:Nat):Nat×Bool:=nth (0,true) (tab rdp L) i
def dep (L:List Rl)(i:Nat):Nat:=(dpe L i).1
def evn (L:List Rl)(i:Nat):Bool:=(dpe L i).2
def qVr {L:List Rl}(M:List Rl){i:Nat}(h:i≤L.length):dpe (L++M) i=dpe L i:=qDn _ M h
def vZ {L:List Rl}(M:List Rl){i:Nat}(h:i≤L.length):dep (L++M) i=dep L i:=by rw[dep,qVr M h,dep]
def qHn {L:List Rl}(M:List Rl){i:Nat}(h:i≤L.length):evn (L++M) i=evn L i:=by rw[evn,qVr M h,evn]
def dep_zero (L:List Rl):dep L 0=0:=rfl
def qM {L:List Rl}{i:Nat}{b:UInt8}(h:L[i]?=some (.letter b)):dpe L (i+1)=(0,true):=by
 rw[dpe,lX,wM L h];rfl
def qAw {L:List Rl}{i l r:Nat}(h:L[i]?=some (.pair l r))(hk:(Rl.pair l r).ok (i+1)):dpe L (i+1)=(1+max (dep L l) (dep L r),evn L l&&evn L r&&(decide (dep L l≤dep L r+1)&&decide (dep L r≤dep L l+1))):=by
 have hi:i<L.length:=(ae.1 h).1;obtain⟨_,h1,_,h2⟩:=hk;rw[dpe,lX,wM L h];simp only[rdp,uk];rw[nK (0,true) oO oO,nK (0,true) oO oO];rfl
def sM {L:List Rl}{i x k:Nat}(h:L[i]?=some (.power x k))(hk:(Rl.power x k).ok (i+1)):dpe L (i+1)=(1+dep L x,false):=by
 have hi:i<L.length:=(ae.1 h).1;obtain⟨_,h1,_⟩:=hk;rw[dpe,lX,wM L h];simp only[rdp,uk];rw[nK (0,true) oO oO];rfl
structure Ev (L:List Rl)(i:Nat):Prop where
 le:i≤L.length
 ev:evn L i=true
def Ev.zero (L:List Rl):Ev L 0:=⟨au _,rfl⟩
def Ev.ext {L:List Rl}{i:Nat}(h:Ev L i)(M:List Rl):Ev (L++M) i:=⟨by rw[aa];have:=h.le;omega,by rw[qHn M h.le];exact h.ev⟩
def Ev.rule {L:List Rl}(hw:Wf L){i:Nat}(h:Ev L (i+1)):(∃b,L[i]?=some (.letter b)∧dep L (i+1)=0)∨
  ∃l r,L[i]?=some (.pair l r)∧1≤l∧l<i+1∧1≤r∧r<i+1∧Ev L l∧Ev L r∧dep L (i+1)=1+max (dep L l) (dep L r)∧dep L l≤dep L r+1∧dep L r≤dep L l+1∧txt L (i+1)=txt L l++txt L r:=by
 have hi:i<L.length:=h.le;have hg:L[i]?=some L[i]:=ag hi;have hok:=hw.ok i _ hg;have he:=h.ev;generalize L[i]=x at hg hok;cases x with
 |letter b=>exact .inl ⟨b,hg,by rw[dep,qM hg]⟩
 |pair l r=>
  have hd:=qAw hg hok
  have ht:=jU hg hok
  obtain⟨h1,h2,h3,h4⟩:=hok
  unfold evn at he
  rw[hd]at he
  simp only[dz,decide_eq_true_eq]at he
  exact .inr ⟨l,r,hg,h1,h2,h3,h4,⟨oO,he.1.1⟩,⟨oO,he.1.2⟩,by rw[dep,hd],he.2.1,he.2.2,ht⟩
 |power x k=>
  exfalso
  unfold evn at he
  rw[sM hg hok]at he
  cases he
def Ev.pair {L:List Rl}(hw:Wf L){i l r:Nat}(hg:L[i]?=some (.pair l r))(hl:evn L l=true)(hr:evn L r=true)(h1:dep L l≤dep L r+1)(h2:dep L r≤dep L l+1):Ev L (i+1)∧dep L (i+1)=1+max (dep L l) (dep L r)∧txt L (i+1)=txt L l++txt L r:=by
 have hok:=hw.ok i _ hg;have hi:i<L.length:=(ae.1 hg).1;have hd:=qAw hg hok;exact⟨⟨hi,by unfold evn;rw[hd];simp[hl,hr,h1,h2]⟩,by rw[dep,hd],jU hg hok⟩
def Ev.letter {L:List Rl}{i:Nat}{b:UInt8}(hg:L[i]?=some (.letter b)):Ev L (i+1):=⟨(ae.1 hg).1,by unfold evn;rw[qM hg]⟩
def fibL:Nat→Nat
 |0=>1
 |1=>2
 |n+2=>fibL n+fibL (n+1)
def qKz:∀n,fibL n≤fibL (n+1)
 |0=>by decide
 |1=>by decide
 |n+2=>by
  have b:fibL (n+1)≤fibL (n+2):=qKz (n+1);have c:fibL (n+2+1)=fibL (n+1)+fibL (n+2):=rfl;rw[c];omega
def qO {a:Nat}:∀b,a≤b→fibL a≤fibL b
 |0,h=>by obtain rfl:a=0:=by omega
          exact ai _
 |b+1,h=>by
  rcases ed a (b+1)with h'|h'
  ·exact jh (qO b oO) (qKz b)
  obtain rfl:a=b+1:=by omega
  exact ai _
def Ev.size {L:List Rl}(hw:Wf L):∀(n i:Nat),1≤i→Ev L i→dep L i=n→fibL n≤len L i:=by
 intro n;induction n using Nat.strongRecOn with
 |_ n ih=>
  intro i hi h hd
  obtain⟨i,rfl⟩:∃j,i=j+1:=⟨i-1,oO⟩
  have hp:=hw.pos (i+1) hi h.le
  rcases h.rule hw with⟨b,hg,h0⟩|⟨l,r,hg,h1,h2,h3,h4,el,er,hdp,hlr,hrl,ht⟩
  ·rw[h0]at hd
   subst hd
   exact hp
  have hlen:len L (i+1)=len L l+len L r:=by unfold len;rw[ht,aa]
  have pl:=hw.pos l h1 el.le
  have pr:=hw.pos r h3 er.le
  match n,ih,hd with
  |0,_,_=>exact hp
  |1,_,_=>show 2≤_;omega
  |n+2,ih,hd=>
   have a1:=ih (dep L l) oO l h1 el O
   have a2:=ih (dep L r) oO r h3 er O
   show fibL n+fibL (n+1)≤_
   rcases ed (dep L l) (n+1)with hl|hl
   ·have b1:=qO (a:=n) (dep L l) oO
    have b2:=qO (a:=n+1) (dep L r) oO
    omega
   have b1:=qO (a:=n+1) (dep L l) oO
   have b2:=qO (a:=n) (dep L r) oO
   omega
def Ev.dep_le {L:List Rl}(hw:Wf L){i:Nat}(h:Ev L i)(hl:len L i≤400):dep L i≤12:=by
 rcases jr i with rfl|hi
 ·rw[dep_zero];omega
 have:=Ev.size hw _ i hi h rfl;refine Classical.byContradiction fun hn=>?_
 have h2:=qO (a:=13) (dep L i) oO;have h3:fibL 13=610:=by decide
 omega
def dep_le {L:List Rl}(hw:Wf L):∀i:Nat,i≤L.length→dep L i≤i:=by
 intro i;induction i using Nat.strongRecOn with
 |ind i ih=>
  intro hi
  cases i with
  |zero=>exact ai _
  |succ i=>
   have hg:L[i]?=some L[i]:=ag hi
   have hok:=hw.ok i _ hg
   generalize L[i]=x at hg hok
   cases x with
   |letter b=>rw[dep,qM hg];exact au _
   |pair l r=>
    have hd:=qAw hg hok
    simp only[Rl.ok]at hok
    have a:=ih l oO oO
    have b:=ih r oO oO
    rw[dep,hd]
    show 1+max (dep L l) (dep L r)≤i+1
    omega
   |power x k=>
    have hd:=sM hg hok
    simp only[Rl.ok]at hok
    have a:=ih x oO oO
    rw[dep,hd]
    show 1+dep L x≤i+1
    omega
end
section
def U64:Nat:=18446744073709551616
def P61:Nat:=2305843009213693951
def redm (x:Nat):Nat:=x%P61
def addm (a b:Nat):Nat:=(a+b)%P61
def mulm (a b:Nat):Nat:=a*b%P61
def powm (a n:Nat):Nat:=a^n%P61
def mix (k x y:Nat):Nat:=powm (addm k (addm (mulm 1234567890123456789 x) (mulm 987654321987654321 y))) 17

def P61_pos:0<P61:=by unfold P61;omega
def P61_lt:P61<U64:=by unfold P61 U64;omega
def wJ (x:Nat):redm x<P61:=pm _ P61_pos
def qNc (a b:Nat):addm a b<P61:=pm _ P61_pos
def zH (a b:Nat):mulm a b<P61:=pm _ P61_pos
def qOi (a b:Nat):powm a b<P61:=pm _ P61_pos
def qXd (k x y:Nat):mix k x y<P61:=qOi _ _
def ltU {x:Nat}(h:x<P61):x<U64:=zy h P61_lt
def redm_sum (a b:Nat):redm (redm a+redm b)=addm a b:=by unfold redm addm;rw[←Nat.add_mod]
def qDt (a b:Nat):redm a+redm b<U64:=by
 have:=wJ a;have:=wJ b;unfold P61 U64 at*;omega
def redm_mul (a b:Nat):redm a*redm b%P61=mulm a b:=by
 unfold redm mulm;rw[←Nat.mul_mod]
def fold_mul (p:Nat)(hp:p<5316911983139663491615228241121378304):
  (p/18446744073709551616*8+p%18446744073709551616/2305843009213693952)+p%18446744073709551616%2305843009213693952<18446744073709551616∧
  redm ((p/18446744073709551616*8+p%18446744073709551616/2305843009213693952)+p%18446744073709551616%2305843009213693952)=p%P61:=by
 unfold redm P61;omega
def qAj (a b:Nat):redm a*redm b<5316911983139663491615228241121378304:=by
 have h1:=wJ a;have h2:=wJ b;have h3:redm a*redm b≤2305843009213693951*2305843009213693951:=xx (by unfold P61 at h1;omega) (by unfold P61 at h2;omega);omega

def qSy (a b c:Nat):mulm (mulm a b) c=mulm a (mulm b c):=by
 unfold mulm;rw[zk,ut,tu]
def qLx (a:Nat):powm a 0=1:=by unfold powm P61;rfl
def qXv (a n:Nat):powm (redm a) n=powm a n:=by unfold powm redm;rw[←Nat.pow_mod]
def powm_add (a m n:Nat):powm a (m+n)=mulm (powm a m) (powm a n):=by
 unfold powm mulm;rw[Nat.pow_add,←Nat.mul_mod]
def pow_even (r a n:Nat)(h:n%2=0):mulm r (powm (mulm a a) (n/2))=mulm r (powm a n):=by
 unfold mulm powm;rw[←Nat.pow_mod,ut,ut,show a*a=a^2 from(Nat.pow_two a).symm,←Nat.pow_mul,show 2*(n/2)=n from by omega]
def pow_odd (r a n:Nat)(h:n%2=1):mulm (mulm r a) (powm (mulm a a) (n/2))=mulm r (powm a n):=by
 unfold mulm powm;rw[←Nat.pow_mod,ut,zk,ut,show a*a=a^2 from(Nat.pow_two a).symm,←Nat.pow_mul,tu,←Nat.pow_succ',show(2*(n/2)).succ=n from by omega]
def pow_end (r a:Nat)(h:r<P61):mulm r (powm a 0)=r:=by
 rw[qLx];unfold mulm;rw[qh,ul h]
def qXu (a n:Nat):mulm 1 (powm (redm a) n)=powm a n:=by
 rw[qXv];unfold mulm;rw[zo];exact ul (qOi _ _)
end
section
def base:Nat:=1103515245
def dstep (v:Nat)(b:UInt8):Nat:=addm (mulm v base) (b.toNat+1)
def dval (t:List UInt8):Nat:=t.foldl dstep 0
def fE (t:List UInt8):Nat:=powm base t.length
def gF (t:List UInt8):Nat:=t.count 10
def kR (t:List UInt8):Nat:=(t.takeWhile (· !=10)).length
def kS (t:List UInt8):Nat:=(t.reverse.takeWhile (· !=10)).length

def xF (l:List UInt8)(a:UInt8):dval (l++[a])=addm (mulm (dval l) base) (a.toNat+1):=by
 unfold dval;rw[oo,sj,xy,dstep]
def xE:dval []=0:=by unfold dval;rw[xy]
def nZ (t:List UInt8):dval t<P61:=by
 induction t using qIy with
 |h0=>rw[xE];exact P61_pos
 |h1 l a _=>rw[xF];exact qNc _ _
def mV (t:List UInt8):fE t<P61:=qOi _ _
def dval_one (b:UInt8):dval [b]=b.toNat+1:=by
 have:=b.toNat_lt;have h:=xF [] b;rw[jq,xE]at h;rw[h];unfold addm mulm P61;omega
def qFt:fE []=1:=by unfold fE;rw[di,qLx]
def qFu (b:UInt8):fE [b]=base:=by
 unfold fE powm base P61;rw[az,Nat.pow_one]
def lT (s t:List UInt8):fE (s++t)=mulm (fE s) (fE t):=by
 unfold fE;rw[aa,powm_add]
def qTx (a b c d:Nat):addm (mulm (addm a b) c) d=addm (mulm a c) (addm (mulm b c) d):=by
 unfold addm mulm;generalize P61=p;simp only[zk,Nat.mod_add_mod,Nat.add_mod_mod,ou,oV]
def rM (s t:List UInt8):dval (s++t)=addm (mulm (dval s) (fE t)) (dval t):=by
 induction t using qIy with
 |h0=>
  rw[aj,qFt,xE];unfold mulm addm
  rw[qh,um,Nat.mod_mod,ul (nZ s)]
 |h1 l a ih=>
  rw[←ah,xF,xF,ih,lT,qFu,qTx,qSy]

def qA (s t:List UInt8):gF (s++t)=gF s+gF t:=List.count_append
def no_line {t:List UInt8}(h:gF t=0):∀b∈t,(b !=10)=true:=by
 intro b hb;have:=List.count_eq_zero.1 h;simp only[bne_iff_ne];rintro rfl;exact this hb
def qJh {p:UInt8→Bool}{t:List UInt8}(h:∀b∈t,p b=true) (u:List UInt8):(t++u).takeWhile p=t++u.takeWhile p:=by
 induction t with
 |nil=>rfl
 |cons a t ih=>rw[ik,xg,if_pos (h a (by simp)),ih (fun b hb=>h b (by simp[hb])),ik]
def qFc {p:UInt8→Bool}{t:List UInt8}(h:∃b∈t,p b=false) (u:List UInt8):(t++u).takeWhile p=t.takeWhile p:=by
 induction t with
 |nil=>obtain⟨b,hb,_⟩:=h;cases hb
 |cons a t ih=>
  rw[ik,xg,xg]
  by_cases ha:p a=true
  ·rw[if_pos ha,if_pos ha,ih]
   obtain⟨b,hb,hp⟩:=h
   cases hb with
   |head=>rw[ha]at hp;cases hp
   |tail _ hb=>exact⟨b,hb,hp⟩
  rw[if_neg ha,if_neg ha]
def qYn {t:List UInt8}(h:gF t≠0):∃b∈t,(b !=10)=false:=by
 have h1:(10:UInt8)∈t:=by
  rw[←List.count_pos_iff];unfold gF at h;omega
 exact⟨10,h1,by decide⟩
def lM (s t:List UInt8):kR (s++t)=if gF s=0 then s.length+kR t else kR s:=by
 unfold kR;split
 ·rw[qJh (no_line ‹_›),aa]
 rw[qFc (qYn ‹_›)]
def nJ (t:List UInt8):gF t.reverse=gF t:=List.count_reverse
def qBj (t:List UInt8):kS t=kR t.reverse:=rfl
def nA (s t:List UInt8):kS (s++t)=if gF t=0 then t.length+kS s else kS t:=by
 rw[qBj,List.reverse_append,lM,nJ,xh];rfl
def vQ {t:List UInt8}(h:gF t=0):kR t=t.length:=by
 have:=lM t [];rw[aj,if_pos h]at this;simpa[kR]using this
def zZ {t:List UInt8}(h:gF t=0):kS t=t.length:=by
 rw[qBj,vQ (by rwa [nJ]),xh]
def qJq (t:List UInt8):kR t≤t.length:=(List.takeWhile_sublist _).length_le
def qRl (t:List UInt8):kS t≤t.length:=by rw[qBj];have:=qJq t.reverse;rwa [xh]at this
def qKs {t:List UInt8}(h:gF t≠0):∃u v,t=u++10::v∧gF u=0:=by
 induction t with
 |nil=>exact absurd rfl h
 |cons a t ih=>
  by_cases ha:a=10
  ·exact⟨[],t,by rw[ha];rfl,rfl⟩
  have ht:gF t≠0:=by
   unfold gF at*;rwa [vk ha]at h
  obtain⟨u,v,rfl,hu⟩:=ih ht
  exact⟨a::u,v,O,by unfold gF at*;rw[vk ha];exact hu⟩
def qBb (t:List UInt8):gF t≤t.length:=List.count_le_length
def qGc (v:List UInt8):gF (10::v)=gF v+1:=by unfold gF;rw[List.count_cons_self]
def xS {t:List UInt8}(h:gF t≠0):
  kR t+kS t+gF t≤t.length∧(gF t=1→kR t+kS t+1=t.length):=by
 obtain⟨u,v,rfl,hu⟩:=qKs h;have h1:kR (u++10::v)=u.length:=by rw[lM,if_pos hu];simp[kR]
 have hl:gF (u++10::v)=gF v+1:=by rw[qA,hu,qGc];omega
 by_cases hv:gF v=0
 ·have h2:kS (u++10::v)=v.length:=by
   rw[show u++10::v=(u++[10])++v by simp,nA,if_pos hv];have:kS (u++[10])=0:=by rw[nA,if_neg (by decide)];rfl
   omega
  rw[h1,h2,hl,hv];simp;omega
 have h2:kS (u++10::v)=kS v:=by
  rw[show u++10::v=(u++[10])++v by simp,nA,if_neg hv]
 have hr:gF v.reverse≠0:=by rwa [nJ]
 obtain⟨x,y,hxy,hx⟩:=qKs hr
 have hv':v=y.reverse++10::x.reverse:=by
  have:=bf List.reverse hxy;rw[List.reverse_reverse]at this;rw[this];simp
 have h3:kS v=x.length:=by
  rw[qBj,hxy,lM,if_pos hx];simp[kR]
 have h4:gF v=gF y+1:=by rw[←nJ,hxy,qA,hx,qGc];omega
 have h5:v.length=y.length+1+x.length:=by rw[hv'];simp;omega
 have h6:=qBb y;rw[h1,h2,h3,hl,h4];simp only[aa,av];omega
def rep (k:Nat)(t:List UInt8):List UInt8:=(List.replicate k t).flatten
def qIm (t:List UInt8):rep 0 t=[]:=rfl
def rep_succ (k:Nat)(t:List UInt8):rep (k+1) t=t++rep k t:=by simp[rep,cu]
def rep_one (t:List UInt8):rep 1 t=t:=by rw[rep_succ,qIm,aj]
def rep_length (k:Nat)(t:List UInt8):(rep k t).length=k*t.length:=by
 simp[rep]
def rep_add (j k:Nat)(t:List UInt8):rep (j+k) t=rep j t++rep k t:=by
 induction j with
 |zero=>rw[jg,qIm,jq]
 |succ j ih=>rw[Nat.succ_add,rep_succ,rep_succ,ih,ah]
def rep_comm (k:Nat)(t:List UInt8):rep k t++t=t++rep k t:=by
 have h1:=rep_add k 1 t;have h2:=rep_succ k t;rw[rep_one]at h1;rw[←h1,h2]
def qGk (k:Nat)(t:List UInt8):rep k (t++t)=rep (2*k) t:=by
 induction k with
 |zero=>rfl
 |succ k ih=>rw[rep_succ,ih,show 2*(k+1)=(2*k+1)+1 by omega,rep_succ,rep_succ,ah]
def rep_even (r t:List UInt8){k:Nat}(h:k%2=0):r++rep (k/2) (t++t)=r++rep k t:=by
 rw[qGk,show 2*(k/2)=k by omega]
def rep_odd (r t:List UInt8){k:Nat}(h:k%2=1):(r++t)++rep (k/2) (t++t)=r++rep k t:=by
 rw[qGk,ah,←rep_succ,show 2*(k/2)+1=k by omega]
def qDc (k:Nat)(t:List UInt8):gF (rep k t)=gF t*k:=by
 induction k with
 |zero=>rfl
 |succ k ih=>rw[rep_succ,qA,ih,Nat.mul_succ];omega
def qZp {k:Nat}{t:List UInt8}(hk:1≤k)(h:gF t≠0):kR (rep k t)=kR t:=by
 obtain⟨j,rfl⟩:∃j,k=j+1:=⟨k-1,oO⟩;rw[rep_succ,lM,if_neg h]
def qZs {k:Nat}{t:List UInt8}(hk:1≤k)(h:gF t≠0):kS (rep k t)=kS t:=by
 obtain⟨j,rfl⟩:∃j,k=j+1:=⟨k-1,oO⟩;rw[rep_succ,←rep_comm,nA,if_neg h]
end
end Eg
namespace Go.Proofs.YtejcjelmpbkcbaaGreatDoor
section
open Go Go.RowKit

def Blk (w:World)(b:Nat)(c:List Value)(e:TypeId):Prop:=w.heap[b]?=some (.cells c.toArray e (0,0))

variable {w w':World}{b b' o:Nat}{c:List Value}{e:TypeId}{v:Value}
def Blk.lt (h:Blk w b c e):b<w.heap.size:=(cz.1 h).1
def Blk.cell (h:Blk w b c e)(o:Nat){v:Value}(hv:c[o]?=some v):w.cell? ⟨b,o,none⟩=some v:=by
 unfold Blk at h;simp[World.cell?,h,hv]
def Blk.frozen (h:Blk w b c e)(o:Nat):w.frozen? ⟨b,o,none⟩=false:=by
 unfold Blk at h;simp[World.frozen?,h]
def Blk.set_same (h:Blk w b c e)(o:Nat)(v:Value):Blk (w.setCell ⟨b,o,none⟩ v) b (c.set o v) e:=by
 unfold Blk at*;have hlt:b<w.heap.size:=(cz.1 h).1;simp[World.setCell,uf,h]
def Blk.set_other (h:Blk w b c e)(hne:b'≠b)(o:Nat)(v:Value):Blk (w.setCell ⟨b',o,none⟩ v) b c e:=by
 unfold Blk at*;simp[World.setCell,uf,hne,h]
def Blk.alloc (h:Blk w b c e)(x:Obj):Blk (w.alloc x) b c e:=by
 have hlt:=h.lt;unfold Blk at*;rw[Below.heap_alloc w x b hlt];exact h
def Blk.drew (h:Blk w b c e):Blk w.drew b c e:=h
def Blk.below {B:Nat}(h:Blk w b c e)(hb:Below B w w')(hlt:b<B):Blk w' b c e:=by
 unfold Blk at*;rw[hb.block b hlt];exact h
def Blk.grown {row:Option Nat}(h:Blk w b c e)(hg:w.grownBy w' row)(hne:some b≠row):Blk w' b c e:=by
 have hlt:=h.lt;unfold Blk at*;rw[hg.block b hlt hne];exact h
def Blk.new (w:World)(c:List Value)(e:TypeId):Blk (w.alloc (.cells c.toArray e)) w.heap.size c e:=by
 unfold Blk;exact heap_alloc_new w _
def Blk.new_at (w:World){b:Nat}(h:b=w.heap.size)(c:List Value)(e:TypeId):Blk (w.alloc (.cells c.toArray e)) b c e:=h▸Blk.new w c e
def Blk.inj {c':List Value}(h:Blk w b c e)(h':Blk w b c' e):c=c':=by
 unfold Blk at*;rw[h]at h';simpa using h'
def qCq (w:World)(a:Addr)(v:Value):w.grownBy (w.setCell a v) (some a.block):=
 ⟨rfl,rfl,rfl,by simp[World.setCell],fun k _ hk=>Below.heap_setCell _ _ _ _ (fun e=>hk (by rw[e]))⟩
def sV {p R:World→Prop}(W:World)(hR:R W)(h:∀wx,R wx→p wx):p W:=h W hR
def qTz {B n:Nat}{a w:World}(h:Below B a w):Below B a (w.drewN n):=⟨h.os,h.tape,h.output,h.size,h.block⟩
def qJx {W w1:World}(hb:Below W.heap.size W w1):(∀b o,b<W.heap.size→w1.cell? ⟨b,o,none⟩=W.cell? ⟨b,o,none⟩)∧(∀b o,b<W.heap.size→w1.frozen? ⟨b,o,none⟩=W.frozen? ⟨b,o,none⟩):=
 ⟨fun b o h=>hb.cell (p:=⟨b,o,none⟩) h,fun b o h=>hb.frozen (p:=⟨b,o,none⟩) h⟩
end
section
open Go Go.RowKit Eg
set_option maxRecDepth 100000

def zL (r:Rl):Value:= .agg #[.int .i64 (Rl.kind (r):Nat),.int .u8 (Rl.byte (r):Nat),.int .i64 (Rl.left (r):Nat),.int .i64 (Rl.right (r):Nat),.int .i64 (Rl.times (r):Nat)]

def rule_inj {a b:Rl}(h1:a.kind=b.kind)(h2:a.byte=b.byte)(h3:a.left=b.left)(h4:a.right=b.right)(h5:a.times=b.times):a=b:=by
 cases a<;>cases b<;>simp_all [Rl.kind,Rl.byte,Rl.left,Rl.right,Rl.times]
 exact UInt8.toNat_inj.1 h2

def qZg:Tryz.prog.underlying 141=some (.struct (Tryz.prog.fieldsOf 141)):=by kernel_rfl
def held60:Tryz.prog.stoodInHeld 141=false:=by kernel_rfl

def fields60 : (Tryz.prog.fieldsOf 141).toList = [⟨"Kind", 3, 0, false, "", "", 0⟩, ⟨"Letter", 5, 1, false, "", "", 8⟩, ⟨"Left", 56, 2, false, "", "", 16⟩, ⟨"Right", 56, 3, false, "", "", 24⟩, ⟨"Times", 3, 4, false, "", "", 32⟩] := by kernel_rfl
def qTk (a b:Rl)(w:World):(Op.equal 141 (zL a) (zL b)).run Tryz.prog w= .ok (decide (a=b)) w:=by
 have h:(decide (a=b))=((a.kind:Int)==b.kind&&((a.byte:Int)==b.byte&&((a.left:Int)==b.left&&((a.right:Int)==b.right&&(a.times:Int)==b.times)))):=by
  rw[ry];simp only[decide_eq_true_eq,dz,beq_iff_eq];constructor
  ·rintro rfl;simp
  rintro⟨h1,h2,h3,h4,h5⟩;exact rule_inj oO oO oO oO oO
 rw[h];unfold Op.equal Op.maxDepth zL;rw[show(10000:Nat)=9999+1 from rfl,run_equalIn_struct _ _ _ _ _ qZg held60,fields60];simp only[Op.eqFields];simp[go_sem];by_cases e1:(a.kind:Int)=b.kind
 ·by_cases e2:(a.byte:Int)=b.byte
  ·by_cases e3:(a.left:Int)=b.left
   ·by_cases e4:(a.right:Int)=b.right
    ·by_cases e5:(a.times:Int)=b.times
     ·simp[e1,e2,e3,e4,e5]
     simp[e1,e2,e3,e4,e5]
    simp[e1,e2,e3,e4]
   simp[e1,e2,e3]
  simp[e1,e2]
 simp[e1]

def pX:List Rl→Rl→Nat→Nat
 |[],_,_=>0
 |x::l,r,i=>if r=x then i+1 else pX l r (i+1)
def idOf (L:List Rl)(r:Rl):Nat:=pX L r 0
def qCv {L:List Rl}{r:Rl}{i:Nat}:pX L r i=0↔r∉L:=by
 induction L generalizing i with
 |nil=>simp[pX]
 |cons x l ih=>
  unfold pX
  split
  ·subst_vars;simp
  rw[ih];simp[*]
def qCu {L:List Rl}{r:Rl}{i:Nat}(h:r∈L):∃k,pX L r i=i+k+1∧L[k]?=some r:=by
 induction L generalizing i with
 |nil=>cases h
 |cons x l ih=>
  unfold pX
  split
  ·subst_vars;exact⟨0,rfl,rfl⟩
  rename_i hne
  obtain⟨k,h1,h2⟩:=ih (i:=i+1) (by rcases iq.1 h with h'|h';exact absurd h' hne;exact h')
  exact⟨k+1,oO,by simpa using h2⟩
def mX {L:List Rl}{r:Rl}:idOf L r=0↔r∉L:=qCv
def qWj {L:List Rl}{r:Rl}(h:r∈L):1≤idOf L r∧L[idOf L r-1]?=some r:=by
 obtain⟨k,h1,h2⟩:=qCu (i:=0) h;unfold idOf;rw[h1];exact⟨oO,by rw[show 0+k+1-1=k by omega];exact h2⟩

def lW:List Rl→Nat→List MapEntry
 |[],_=>[]
 |x::l,i=>⟨zL x,.int .i64 ((i:Int)+1),i⟩::lW l (i+1)
def qAq (L:List Rl):Array MapEntry:=(lW L 0).toArray
def qEy (L M:List Rl)(i:Nat):lW (L++M) i=lW L i++lW M (i+L.length):=by
 induction L generalizing i with
 |nil=>simp[lW]
 |cons x l ih=>simp[lW,ih,oV,Nat.add_comm 1]
def qSw (L:List Rl)(r:Rl):qAq (L++[r])=(qAq L).push ⟨zL r,.int .i64 ((L.length:Int)+1),L.length⟩:=by
 simp[qAq,qEy,lW]

def qNt (L:List Rl)(r:Rl)(i:Nat)(w:World)(j:Nat):
  (Instr.findAsking 141 (zL r) (lW L i) j).run Tryz.prog w= .ok (if pX L r i=0 then none else some (j+(pX L r i-i-1),.int .i64 (pX L r i:Nat))) w:=by
 induction L generalizing i j with
 |nil=>simp[lW,Instr.findAsking,pX]
 |cons x l ih=>
  unfold lW Instr.findAsking pX
  simp only[Sem.run_bind,qTk,Result.andThen_ok]
  by_cases h:r=x
  ·simp[h]
  simp only[h,decide_false,oJ,if_false,ih]
  by_cases hz:pX l r (i+1)=0
  ·simp[hz]
  have hm:r∈l:=by
   rcases Classical.em (r∈l)with hm|hm
   ·exact hm
   exact absurd (qCv.2 hm) hz
  obtain⟨k,hk,_⟩:=qCu (i:=i+1) hm
  rw[if_neg hz,if_neg hz,hk]
  congr 3
  omega

def qPx (L:List Rl)(r:Rl)(w:World):
  (Instr.findKey 141 (zL r) (qAq L).toList).run Tryz.prog w= .ok (if idOf L r=0 then none else some (idOf L r-1,.int .i64 (idOf L r:Nat))) w:=by
 unfold Instr.findKey qAq idOf;simp only[Sem.run_bind,run_underlying qZg,Result.andThen_ok];cases L with
 |nil=>simp[lW,Instr.findNow,pX]
 |cons x l=>
  have h:Instr.findNow (.struct (Tryz.prog.fieldsOf 141)) (zL r) (lW (x::l) 0) 0=none:=by
   simp[lW,Instr.findNow,Instr.sameNow]
  rw[h]
  simpa using qNt (x::l) r 0 w 0

def qKb (b:Bool)(r:Rl)(w:World):(Instr.checkKey b 10000 141 (zL r)).run Tryz.prog w= .ok () w:=by
 unfold zL;generalize(r.kind:Int)=x0;generalize(r.byte:Int)=x1;generalize(r.left:Int)=x2;generalize(r.right:Int)=x3;generalize(r.times:Int)=x4;kernel_rfl

def qMw:Tryz.prog.underlying 192=some (.map 141 56):=by kernel_rfl

def qSq (L:List Rl)(r:Rl)(w:World)(bm:Nat)(h:w.heap[bm]?=some (.map (qAq L) L.length)):
  (Instr.lookup 192 (.map (some bm)) (zL r) true).run Tryz.prog w= .ok (.tuple #[.int .i64 (idOf L r:Nat),.bool (!decide (idOf L r=0))]) w:=by
 unfold Instr.lookup;simp only[Sem.run_bind,run_underlying qMw,Result.andThen_ok];simp only[getObj,Sem.run,h];simp only[Result.andThen,Sem.run_bind,Sem.run_pure,qKb,qPx];by_cases hz:idOf L r=0
 ·simp[hz]
 simp[hz]

def qSr (L:List Rl)(r:Rl)(w:World)(bm:Nat)(h:w.heap[bm]?=some (.map (qAq L) L.length))(hr:r∉L):
  ∃w',(Instr.mapUpdate 192 (.map (some bm)) (zL r) (.int .i64 ((L.length:Int)+1))).run Tryz.prog w= .ok () w'∧w'.heap[bm]?=some (.map (qAq (L++[r])) (L++[r]).length)∧w.grownBy w' (some bm):=by
 have hlt:bm<w.heap.size:=(cz.1 h).1;refine⟨ChangeMaps.setBlock w bm (.map (qAq (L++[r])) (L++[r]).length),?_,?_,?_⟩
 ·unfold Instr.mapUpdate;simp only[Sem.run_bind,run_underlying qMw,Result.andThen_ok];simp only[getObj,Sem.run,h];simp only[Result.andThen,Sem.run_bind,qKb,qPx,mX.2 hr,if_true];simp only[setObj,Sem.run,qSw,aa,az];rw[h];rfl
 ·simp[ChangeMaps.setBlock,hlt]
 refine⟨O,O,O,by simp[ChangeMaps.setBlock],fun k _ hk=>?_⟩;simp only[ChangeMaps.setBlock];rw[mo (by intro e;exact hk (by rw[e]))]
end
section
open Go Go.RowKit Eg

def tJ {k:IntKind}{a b:Int}(h:a=b):Ending.returned (.int k a)= .returned (.int k b):=by rw[h]

namespace Mul64
def maskN (a:Nat)(ha:a<18446744073709551616):bits .and .u64 (a:Int) 4294967295=((a%4294967296:Nat):Int):=by
 have h:=bits_and_u64_nat a 4294967295 ha oO;have e:a&&&4294967295=a%4294967296:=wh a 32;rw[e]at h;exact h
def divN (a:Nat):(a:Int)/4294967296=((a/4294967296:Nat):Int):=by omega
def mulN (a b:Nat):(a:Int)*(b:Int)=((a*b:Nat):Int):=(oz a b).symm
def addN (a b:Nat):(a:Int)+(b:Int)=((a+b:Nat):Int):=(wz a b).symm
def wrapN (a:Nat)(ha:a<18446744073709551616):IntKind.u64.wrap (a:Int)=(a:Int):=by rw[IntKind.wrap_u64];omega
def wrapM (a:Nat):IntKind.u64.wrap (a:Int)=((a%18446744073709551616:Nat):Int):=by rw[IntKind.wrap_u64];omega
end Mul64

def qRp (x y:Nat)(hx:x<18446744073709551616)(hy:y<18446744073709551616)(w:World):
  Calls Tryz.prog 258 #[.int .u64 x,.int .u64 y] w fun e w'=>e= .returned (.tuple #[.int .u64 ((x*y/18446744073709551616:Nat):Int),.int .u64 ((x*y%18446744073709551616:Nat):Int)])∧w=w':=by
 obtain⟨bd,bt,bw,hhi⟩:=Lib.mul64_hi x y hx hy;have ba:=Lib.half_mul_le (a:=x/4294967296) (b:=y/4294967296) oO oO;have bb:=Lib.half_mul_le (a:=x/4294967296) (b:=y%4294967296) oO oO;have bc:=Lib.half_mul_le (a:=x%4294967296) (b:=y/4294967296) oO oO;have ba':x/4294967296*(y/4294967296)<18446744073709551616:=oO;have bb':x/4294967296*(y%4294967296)<18446744073709551616:=oO;have bc':x%4294967296*(y/4294967296)<18446744073709551616:=oO;have bh1:x/4294967296*(y/4294967296)+(x/4294967296*(y%4294967296)+x%4294967296*(y%4294967296)/4294967296)/4294967296<18446744073709551616:=oO;have bh:x/4294967296*(y/4294967296)+(x/4294967296*(y%4294967296)+x%4294967296*(y%4294967296)/4294967296)/4294967296+((x/4294967296*(y%4294967296)+x%4294967296*(y%4294967296)/4294967296)%4294967296+x%4294967296*(y/4294967296))/4294967296<18446744073709551616:=oO;go_enter Tryz.func258,Tryz.ntmps258
 go_wp2
 simp only[Mul64.maskN x hx,Mul64.maskN y hy,Mul64.divN,Mul64.mulN,Mul64.addN,Mul64.wrapN _ bd,Mul64.wrapN _ bb',Mul64.wrapN _ bt,Mul64.maskN _ bt,Mul64.wrapN _ bc',Mul64.wrapN _ bw,Mul64.wrapN _ ba',Mul64.wrapN _ bh1,Mul64.wrapN _ bh,Mul64.wrapM (x*y)];rw[hhi];go_ret2
 exact⟨O,O⟩

def qGx (x:Nat)(hx:x<18446744073709551616):bits .and .u64 (x:Int) 2305843009213693951=((x%2305843009213693952:Nat):Int):=by
 rw[show(2305843009213693951:Int)=((2305843009213693951:Nat):Int)from rfl,u64_and_nat x _ hx oO,show(2305843009213693951:Nat)=2^61-1 from rfl,wh]

set_option maxRecDepth 100000 in
def mK (x:Nat)(w:World)(hx:x<U64):
  Calls Tryz.prog 241 #[.int .u64 x] w fun e w'=>e= .returned (.int .u64 (redm x:Nat))∧w=w':=by
 unfold U64 at hx;have h1:=qGx x hx;by_cases hc:2305843009213693951≤x%2305843009213693952+x/2305843009213693952
 ·have e:(x:Int)%2305843009213693952+(x:Int)/2305843009213693952-2305843009213693951=((redm x:Nat):Int):=by unfold redm P61;omega
  have E:=Lib.hid e;have hb:decide ((2305843009213693951:Int)≤(x:Int)%2305843009213693952+(x:Int)/2305843009213693952)=true:=by simp;omega
  clear e;go_enter Tryz.func241,Tryz.ntmps241
  go_wp2
  go_ret
  exact⟨tJ E.out,O⟩
 have e:(x:Int)%2305843009213693952+(x:Int)/2305843009213693952=((redm x:Nat):Int):=by unfold redm P61;omega
 have E:=Lib.hid e;have hb:decide ((2305843009213693951:Int)≤(x:Int)%2305843009213693952+(x:Int)/2305843009213693952)=false:=by simp;omega
 clear e;go_enter Tryz.func241,Tryz.ntmps241
 go_wp2
 go_ret
 exact⟨tJ E.out,O⟩

def wrap_u64 (a:Nat)(ha:a<U64):IntKind.u64.wrap (a:Int)=(a:Int):=by unfold U64 at ha;rw[IntKind.wrap_u64];omega

def yN (a b:Nat)(w:World)(ha:a<U64)(hb:b<U64):
  Calls Tryz.prog 239 #[.int .u64 a,.int .u64 b] w fun e w'=>e= .returned (.int .u64 (addm a b:Nat))∧w=w':=by
 have hs:=wrap_u64 _ (qDt a b);rw[wz]at hs;go_enter Tryz.func239,Tryz.ntmps239
 go_wp2_with fail
 refine(mK a w ha).mono ?_;rintro e w'⟨rfl,rfl⟩;go_wp2_with fail
 refine(mK b w hb).mono ?_;rintro e w'⟨rfl,rfl⟩;go_wp2_with fail
 rw[←wz];refine(mK (redm a+redm b) w (qDt a b)).mono ?_;rintro e w'⟨rfl,rfl⟩;rw[redm_sum];go_wp2_with fail
 go_ret
 exact⟨O,O⟩

def foldq (p:Nat):Nat:=(p/18446744073709551616*8+p%18446744073709551616/2305843009213693952)+p%18446744073709551616%2305843009213693952
def mul_arg (p:Nat)(hp:p<5316911983139663491615228241121378304):
  IntKind.u64.wrap ((p:Int)/18446744073709551616*8+(p:Int)%18446744073709551616/2305843009213693952+bits .and .u64 ((p:Int)%18446744073709551616) 2305843009213693951)=((foldq p:Nat):Int):=by
 have h1:=qGx (p%18446744073709551616) (pm _ oO);rw[wm]at h1;rw[show((18446744073709551616:Nat):Int)=18446744073709551616 from rfl]at h1;rw[h1,IntKind.wrap_u64];unfold foldq;omega

def nO (a b:Nat)(w:World)(ha:a<U64)(hb:b<U64):
  Calls Tryz.prog 240 #[.int .u64 a,.int .u64 b] w fun e w'=>e= .returned (.int .u64 (mulm a b:Nat))∧w=w':=by
 obtain⟨f1,f2⟩:=fold_mul _ (qAj a b);rw[redm_mul]at f2;have hp:=qAj a b;have hra:=ltU (wJ a);have hrb:=ltU (wJ b);unfold U64 at hra hrb;have F1:=Lib.hid f1;have F2:=Lib.hid f2;clear f1 f2;go_enter Tryz.func240,Tryz.ntmps240
 go_wp2_with fail
 refine(mK a w ha).mono ?_;rintro e w'⟨rfl,rfl⟩;go_wp2_with fail
 refine(mK b w hb).mono ?_;rintro e w'⟨rfl,rfl⟩;go_wp2_with fail
 refine(qRp _ _ hra hrb w).mono ?_;rintro e w'⟨rfl,rfl⟩;clear hra hrb;generalize redm a*redm b=p at*;go_wp2_with fail
 rw[mul_arg p hp];refine(mK (foldq p) w F1.out).mono ?_;rintro e w'⟨rfl,rfl⟩;rw[show redm (foldq p)=mulm a b from F2.out];go_wp2_with fail
 go_ret
 exact⟨O,O⟩

def qY (a n:Nat)(w:World)(ha:a<U64)(hn:n<9223372036854775808):
  Calls Tryz.prog 216 #[.int .u64 a,.int .u64 n] w fun e w'=>e= .returned (.int .u64 (powm a n:Nat))∧w=w':=by
 go_enter Tryz.func216,Tryz.ntmps216
 go_wp2_with fail
 refine(mK a w ha).mono ?_;rintro e w'⟨rfl,rfl⟩;go_wp2_with fail
 go_loop [0,1,5] (fun x m r=>∃a' n' r':Nat,x= .int .u64 a'∧m= .int .u64 n'∧r= .int .u64 r'∧a'<P61∧r'<P61∧n'<9223372036854775808∧mulm r' (powm a' n')=powm a n) (fun _ m _=>(intOf m).toNat)
 case atStart=>exact⟨redm a,n,1,rfl,rfl,rfl,wJ a,by decide,hn,qXu a n⟩
 case round=>
  obtain⟨a',n',r',rfl,rfl,rfl,ha',hr',hn',he⟩:=hrel
  have HE:=Lib.hid he
  clear he
  have HA:=Lib.hid ha'
  have HR:=Lib.hid hr'
  clear ha' hr'
  by_cases h0:0<n'
  ·by_cases h1:n'%2=1
   ·go_wp2_with fail
    refine(nO r' a' w (ltU HR.out) (ltU HA.out)).mono ?_
    rintro e w'⟨rfl,rfl⟩
    go_wp2_with fail
    refine(nO a' a' w (ltU HA.out) (ltU HA.out)).mono ?_
    rintro e w'⟨rfl,rfl⟩
    go_wp2_with fail
    go_round
    case rel=>exact⟨mulm a' a',n'/2,mulm r' a',rfl,by go_num,rfl,zH _ _,zH _ _,oO,(pow_odd r' a' n' h1).trans HE.out⟩
    case measure=>simp[intOf];omega
   go_wp2_with fail
   refine(nO a' a' w (ltU HA.out) (ltU HA.out)).mono ?_
   rintro e w'⟨rfl,rfl⟩
   go_wp2_with fail
   go_round
   case rel=>exact⟨mulm a' a',n'/2,r',rfl,by go_num,rfl,zH _ _,HR.out,oO,(pow_even r' a' n' oO).trans HE.out⟩
   case measure=>simp[intOf];omega
  go_wp2_with fail
  go_ret
  obtain rfl:n'=0:=by omega
  refine⟨tJ ?_,O⟩
  rw[←HE.out,pow_end _ _ HR.out]

def zG (k x y:Nat)(w:World)(hk:k<U64)(hx:x<U64)(hy:y<U64):
  Calls Tryz.prog 287 #[.int .u64 k,.int .u64 x,.int .u64 y] w fun e w'=>e= .returned (.int .u64 (mix k x y:Nat))∧w=w':=by
 go_enter Tryz.func287,Tryz.ntmps287
 go_wp2_with fail
 refine(nO 1234567890123456789 x w (by unfold U64;omega) hx).mono ?_;rintro e w'⟨rfl,rfl⟩;go_wp2_with fail
 refine(nO 987654321987654321 y w (by unfold U64;omega) hy).mono ?_;rintro e w'⟨rfl,rfl⟩;go_wp2_with fail
 refine(yN _ _ w (ltU (zH _ _)) (ltU (zH _ _))).mono ?_;rintro e w'⟨rfl,rfl⟩;go_wp2_with fail
 refine(yN _ _ w hk (ltU (qNc _ _))).mono ?_;rintro e w'⟨rfl,rfl⟩;go_wp2_with fail
 refine(qY _ 17 w (ltU (qNc _ _)) oO).mono ?_;rintro e w'⟨rfl,rfl⟩;go_wp2_with fail
 go_ret
 exact⟨O,O⟩
end
section
open Go Go.RowKit Eg
set_option maxRecDepth 100000

def qCc (w:World):
  Calls Tryz.prog 128 #[] w fun e w'=>e= .returned (.agg #[.int .u64 0,.int .u64 1])∧Below w.heap.size w w':=by
 go_enter Tryz.func128,Tryz.ntmps128
 go_wp2
 refine bodyPost_ret (v:= .agg #[.int .u64 0,.int .u64 1]) (by simp[results,Tryz.results128,go_sem]) O ⟨O,by go_grown⟩

def same {P:Program}{f:FuncId}{args:Array Value}{w:World}{v:Value}(h:Calls P f args w fun e w'=>e= .returned v∧w=w'):Calls P f args w fun e w'=>e= .returned v∧w'=w:=
 h.mono fun _ _⟨he,hw⟩=>⟨he,hw.symm⟩

def kX {P:Program}{id:Nat}{Q:Exit→Act→World→Prop}{a:Act}{w:World}{l:List Oper}(n:Nat)(hm:P.follows .mixedOrders=true)(hB:Region.lexTailB .any l.toArray n=true)
  (h:wpStill P l.toArray w.drew (fun a'=>wpList P l.toArray Q (l.drop n) a' w.drew) (l.take n) a):(Code.region id l.toArray true).wp P Q a w:=
 wp_region_still_tail n hm hB h

def rJ (a b c d:Nat)(w:World)(ha:a<P61)(hb:b<P61)(hc:c<P61)(hd:d<P61):
  Calls Tryz.prog 213 #[.agg #[.int .u64 a,.int .u64 b],.agg #[.int .u64 c,.int .u64 d]] w fun e w'=>e= .returned (.agg #[.int .u64 (addm (mulm a d) c:Nat),.int .u64 (mulm b d:Nat)])∧Below w.heap.size w w':=by
 go_enter Tryz.func213,Tryz.ntmps213
 go_wp2_with fail
 refine kX 14 oK oK ?_;simp only[lu,nk,oF,oU];repeat(first |still_step|still_call (same (nO _ _ _ (ltU (by assumption)) (ltU (by assumption))))|still_call (same (yN _ _ _ (ltU (zH _ _)) (ltU (by assumption)))))
 refine wpStill_nil ?_;go_wp2_with fail
 refine bodyPost_ret (v:= .agg #[.int .u64 (addm (mulm a d) c:Nat),.int .u64 (mulm b d:Nat)]) (by simp[results,Tryz.results213,go_sem]) O ⟨O,?_⟩;go_grown

def xC (b:UInt8)(w:World):
  Calls Tryz.prog 212 #[.int .u8 b.toNat] w fun e w'=>e= .returned (.agg #[.int .u64 (dval [b]:Nat),.int .u64 (fE [b]:Nat)])∧Below w.heap.size w w':=by
 have hb:=b.toNat_lt;have e1:=dval_one b;have e2:=qFu b;rw[e1,e2];clear e1 e2;unfold base;generalize b.toNat=n at*;go_enter Tryz.func212,Tryz.ntmps212
 go_wp2
 refine bodyPost_ret (v:= .agg #[.int .u64 ((n+1:Nat):Int),.int .u64 1103515245]) (by simp[results,Tryz.results212,go_sem]) O ⟨O,by go_grown⟩

def jI (n:Nat)(w:World)(hn:n≤dC):
  Calls Tryz.prog 182 #[.int .i64 n] w fun e w'=>e= .returned (.bool true)∧w=w':=by
 have h1:decide ((n:Int)≤1152921504606846976)=true:=by unfold dC at hn;simp;omega
 have h2:decide ((0:Int)≤(n:Int))=true:=by simp
 clear hn;go_enter Tryz.func182,Tryz.ntmps182
 go_wp2
 go_ret
 exact⟨O,O⟩

def vJ (a b:Nat)(w:World)(h:a+b≤dC):
  Calls Tryz.prog 132 #[.int .i64 a,.int .i64 b] w fun e w'=>e= .returned (.tuple #[.int .i64 ((a+b:Nat):Int),.nilIface])∧w=w':=by
 have ha:a≤dC:=oO;have hb:b≤dC:=oO;have h1:decide ((1152921504606846976:Int)-(b:Int)<(a:Int))=false:=by unfold dC at h;simp;omega
 have h2:b≤1152921504606846976:=hb;have h3:a≤1152921504606846976:=ha;have ha':=Lib.hid ha;have hb':=Lib.hid hb;clear ha hb h;go_enter Tryz.func132,Tryz.ntmps132
 go_wp2_with fail
 refine(jI a w ha'.out).mono ?_;rintro e w'⟨rfl,rfl⟩;go_wp2_with fail
 refine(jI b w hb'.out).mono ?_;rintro e w'⟨rfl,rfl⟩;go_wp2_with fail
 go_ret2
 exact⟨by simp,rfl⟩

end
section
open Go Go.RowKit Eg
set_option maxRecDepth 100000

def qGb (a k:Nat)(w:World)(ha:a≤dC)(h0:1≤a)(h:a*k≤dC):
  Calls Tryz.prog 135 #[.int .i64 a,.int .i64 k] w fun e w'=>e= .returned (.tuple #[.int .i64 ((a*k:Nat):Int),.nilIface])∧w=w':=by
 have hq:k≤1152921504606846976/a:=(Nat.le_div_iff_mul_le oO).2 (by rw[qf];exact h)
 have h1:decide ((1152921504606846976:Int)/(a:Int)<(k:Int))=false:=by
  rw[show(1152921504606846976:Int)/(a:Int)=((1152921504606846976/a:Nat):Int)from by rw[uo];rfl];rw[decide_eq_false_iff_not];intro hh;exact absurd hq (Nat.not_le.2 (Int.ofNat_lt.1 hh))
 have hw:wrap64 ((a:Int)*(k:Int))=((a*k:Nat):Int):=by
  rw[←oz];unfold dC at h;exact IntWalk.wrap64_in _ ⟨oO,oO⟩
 have h3:a≤1152921504606846976:=ha;have h4:((a:Int)==0)=false:=by simp;omega
 have h5:decide ((k:Int)<0)=false:=by simp
 have ha':=Lib.hid ha;have HW:=Lib.hid hw;clear ha hq h hw;go_enter Tryz.func135,Tryz.ntmps135
 go_wp2_with fail
 refine(jI a w ha'.out).mono ?_;rintro e w'⟨rfl,rfl⟩;go_wp2_with fail
 go_ret2
 exact⟨by simp[HW.out],rfl⟩

def qOc (n lo hi:Int)(w:World):
  Calls Tryz.prog 79 #[.int .i64 n,.int .i64 lo,.int .i64 hi] w fun e w'=>e= .returned (.int .i64 (if n<lo then lo else if hi<n then hi else n))∧w=w':=by
 by_cases h1:n<lo
 ·rw[if_pos h1];go_enter Tryz.func79,Tryz.ntmps79
  go_wp2
  go_ret
  exact⟨O,O⟩
 rw[if_neg h1];by_cases h2:hi<n
 ·rw[if_pos h2];go_enter Tryz.func79,Tryz.ntmps79
  go_wp2
  go_ret
  exact⟨O,O⟩
 rw[if_neg h2];go_enter Tryz.func79,Tryz.ntmps79
 go_wp2
 go_ret
 exact⟨O,O⟩

def qHm (t:List UInt8)(k:Nat)(w:World)(hk:k<9223372036854775808):
  Calls Tryz.prog 188 #[.agg #[.int .u64 (dval t),.int .u64 (fE t)],.int .i64 k] w fun e w'=>e= .returned (.agg #[.int .u64 (dval (rep k t):Nat),.int .u64 (fE (rep k t):Nat)])∧Below w.heap.size w w':=by
 go_enter Tryz.func188,Tryz.ntmps188
 go_wp2_with fail
 refine(qCc _).mono ?_;rintro e w1⟨rfl,hb⟩;have hz:w.heap.size+1<w1.heap.size:=by have:=hb.size;simp at this;omega
 have b1:Blk w1 w.heap.size [.int .u64 (dval t:Nat),.int .u64 (fE t:Nat)] 93:=((Blk.new w _ _).alloc _).below hb (by simp;omega)
 have b2:Blk w1 (w.heap.size+1) [.int .u64 0,.int .u64 0] 93:=by
  have:=(Blk.new (w.alloc (.cells #[.int .u64 (dval t:Nat),.int .u64 (fE t:Nat)] 93)) [.int .u64 0,.int .u64 0] 93).below hb (by simp);simpa using this
 have hbw:Below w.heap.size w w1:=by
  refine Below.trans ?_ (hb.mono (by simp;omega));go_grown
 clear hb;go_wp2_with fail
 go_loopw [1] (fun x wr=>∃(m:Nat)(R D:List UInt8),x= .int .i64 m∧m<9223372036854775808∧R++rep m D=rep k t∧
   Blk wr w.heap.size [.int .u64 (dval D:Nat),.int .u64 (fE D:Nat)] 93∧Blk wr (w.heap.size+1) [.int .u64 0,.int .u64 0] 93∧
   Blk wr w1.heap.size [.int .u64 (dval R:Nat),.int .u64 (fE R:Nat)] 93∧Below w.heap.size w wr) (fun x _=>(intOf x).toNat)
 case atStart=>
  refine⟨k,[],t,O,hk,O,b1.alloc _,b2.alloc _,?_,?_⟩
  ·have:=Blk.new w1 [.int .u64 0,.int .u64 1] 93
   rw[xE,qFt];exact this
  exact hbw.alloc oO _
 case round=>
  obtain⟨m,R,D,rfl,hm,he,c1,c2,c3,hbr⟩:=hrel
  have HE:=Lib.hid he
  clear he
  have k1:=c1.cell 0 O
  have k2:=c1.cell 1 O
  have k3:=c3.cell 0 O
  have k4:=c3.cell 1 O
  have f1:=c1.frozen 0
  have f2:=c1.frozen 1
  have f3:=c3.frozen 0
  have f4:=c3.frozen 1
  have k5:=c2.cell 0 O
  have k6:=c2.cell 1 O
  have f5:=c2.frozen 0
  have f6:=c2.frozen 1
  have hlt:=c3.lt
  by_cases h0:0<m
  ·by_cases h1:m%2=1
   ·go_wp2_with fail
    refine(rJ _ _ _ _ _ (nZ R) (mV R) (nZ D) (mV D)).mono ?_
    rintro e w2⟨rfl,hb2⟩
    rw[←rM,←lT]
    have d1:=c1.below hb2 oO
    have d2:=c2.below hb2 oO
    have d3:=c3.below hb2 hlt
    have hbr2:Below w.heap.size w w2:=hbr.trans (hb2.mono oO)
    have e1:=d1.cell 0 O
    have e2:=d1.cell 1 O
    have e3:=d3.cell 0 O
    have e4:=d3.cell 1 O
    have g3:=d3.frozen 0
    have g4:=d3.frozen 1
    have hlt2:=d3.lt
    clear k1 k2 k3 k4 k5 k6 f1 f2 f3 f4 f5 f6 c1 c2 c3 hb2 hbr
    go_wp2_with fail
    refine(rJ _ _ _ _ _ (nZ D) (mV D) (nZ D) (mV D)).mono ?_
    rintro e w3⟨rfl,hb3⟩
    rw[←rM,←lT]
    have hs3:((w2.setCell ⟨w1.heap.size,0,none⟩ (.int .u64 (dval (R++D):Nat))).setCell ⟨w1.heap.size,1,none⟩ (.int .u64 (fE (R++D):Nat))).heap.size=w2.heap.size:=by simp
    have q1:=((d1.set_other (b':=w1.heap.size) oO 0 (.int .u64 (dval (R++D):Nat))).set_other (b':=w1.heap.size) oO 1 (.int .u64 (fE (R++D):Nat))).below hb3 oO
    have q2:=((d2.set_other (b':=w1.heap.size) oO 0 (.int .u64 (dval (R++D):Nat))).set_other (b':=w1.heap.size) oO 1 (.int .u64 (fE (R++D):Nat))).below hb3 oO
    have q3:=((d3.set_same 0 (.int .u64 (dval (R++D):Nat))).set_same 1 (.int .u64 (fE (R++D):Nat))).below hb3 oO
    have hbr3:Below w.heap.size w w3:=((hbr2.setCell (p:=⟨w1.heap.size,0,none⟩) (by simp;omega) _).setCell (p:=⟨w1.heap.size,1,none⟩) (by simp;omega) _).trans (hb3.mono oO)
    clear hs3 hb3 e1 e2 e3 e4 g3 g4 d1 d2 d3 hbr2
    have k1:=q1.cell 0 O
    have k2:=q1.cell 1 O
    have f1:=q1.frozen 0
    have f2:=q1.frozen 1
    have hlt3:=q3.lt
    go_wp2_with fail
    go_roundw
    case rel=>
     refine⟨m/2,R++D,D++D,by go_num,oO,(rep_odd R D h1).trans HE.out,(q1.set_same 0 _).set_same 1 _,(q2.set_other oO 0 _).set_other oO 1 _,(q3.set_other oO 0 _).set_other oO 1 _,(hbr3.setCell (by simp) _).setCell (by simp) _⟩
    case measure=>simp[intOf];omega
   go_wp2_with fail
   refine(rJ _ _ _ _ _ (nZ D) (mV D) (nZ D) (mV D)).mono ?_
   rintro e w3⟨rfl,hb3⟩
   rw[←rM,←lT]
   have q1:=c1.below hb3 oO
   have q2:=c2.below hb3 oO
   have q3:=c3.below hb3 oO
   have hbr3:Below w.heap.size w w3:=hbr.trans (hb3.mono oO)
   clear hb3 k1 k2 k3 k4 k5 k6 f1 f2 f3 f4 f5 f6 c1 c2 c3 hbr
   have k1:=q1.cell 0 O
   have k2:=q1.cell 1 O
   have f1:=q1.frozen 0
   have f2:=q1.frozen 1
   have hlt3:=q3.lt
   go_wp2_with fail
   go_roundw
   case rel=>
    refine⟨m/2,R,D++D,by go_num,oO,(rep_even R D oO).trans HE.out,(q1.set_same 0 _).set_same 1 _,(q2.set_other oO 0 _).set_other oO 1 _,(q3.set_other oO 0 _).set_other oO 1 _,(hbr3.setCell (by simp) _).setCell (by simp) _⟩
   case measure=>simp[intOf];omega
  obtain rfl:m=0:=by omega
  have hR:R=rep k t:=by have:=HE.out;rwa [qIm,aj]at this
  subst hR
  go_wp2_with fail
  refine bodyPost_ret (v:= .agg #[.int .u64 (dval (rep k t):Nat),.int .u64 (fE (rep k t):Nat)]) ?_ O ⟨O,?_⟩
  ·simp[results,Tryz.results188,go_sem,k5,k6]
  exact(hbr.setCell (by simp) _).setCell (by simp) _

def qOz (w:World):Calls Tryz.prog 106 #[] w fun e w'=>e= .returned (.agg #[.int .i64 0,.int .i64 0,.int .i64 0,.int .i64 0,.int .u64 0,.int .u64 1])∧Below w.heap.size w w':=by
 go_enter Tryz.func106,Tryz.ntmps106
 go_wp2_with fail
 refine(qCc _).mono ?_;rintro e w1⟨rfl,hb⟩;obtain⟨hc,hf⟩:=qJx hb;have hz:w.heap.size<w1.heap.size:=by have:=hb.size;simp at this;omega
 have hbw:Below w.heap.size w w1:=by
  refine Below.trans ?_ (hb.mono (by simp));go_grown
 go_wp2_with fail
 refine bodyPost_ret (v:= .agg #[.int .i64 0,.int .i64 0,.int .i64 0,.int .i64 0,.int .u64 0,.int .u64 1]) (by simp[results,Tryz.results106,go_sem,hc]) O ⟨O,?_⟩;repeat(refine Below.setCell ?_ (by simp) _)
 exact hbw

def qJm (b:UInt8)(w:World):Calls Tryz.prog 180 #[.int .u8 b.toNat] w fun e w'=>e= .returned (.agg #[.int .i64 (List.length ([b]):Nat),.int .i64 (gF ([b]):Nat),.int .i64 (kR ([b]):Nat),.int .i64 (kS ([b]):Nat),.int .u64 (dval ([b]):Nat),.int .u64 (fE ([b]):Nat)])∧Below w.heap.size w w':=by
 have hb:=b.toNat_lt;by_cases h10:b=10
 ·subst h10;go_enter Tryz.func180,Tryz.ntmps180
  go_wp2_with fail
  refine(xC 10 _).mono ?_;rintro e w1⟨rfl,hb⟩;obtain⟨hc,hf⟩:=qJx hb;have hz:w.heap.size<w1.heap.size:=by have:=hb.size;simp at this;omega
  have hbw:Below w.heap.size w w1:=by
   refine Below.trans ?_ (hb.mono (by simp));go_grown
  go_wp2_with fail
  refine bodyPost_ret (v:= .agg #[.int .i64 1,.int .i64 1,.int .i64 0,.int .i64 0,.int .u64 (dval [10]:Nat),.int .u64 (fE [10]:Nat)]) (by simp[results,Tryz.results180,go_sem,hc]) O ⟨O,?_⟩;repeat(refine Below.setCell ?_ (by simp) _)
  exact hbw
 have hn:((b.toNat:Int)==10)=false:=by
  simp only[beq_eq_false_iff_ne];intro h;exact h10 (UInt8.toNat_inj.1 (by have:(10:UInt8).toNat=10:=rfl;omega))
 have hl:gF [b]=0:=by unfold gF;rw[vk h10];rfl
 rw[vQ hl,zZ hl,hl];go_enter Tryz.func180,Tryz.ntmps180
 go_wp2_with fail
 refine(xC b _).mono ?_;rintro e w1⟨rfl,hb⟩;obtain⟨hc,hf⟩:=qJx hb;have hz:w.heap.size<w1.heap.size:=by have:=hb.size;simp at this;omega
 have hbw:Below w.heap.size w w1:=by
  refine Below.trans ?_ (hb.mono (by simp));go_grown
 go_wp2_with fail
 refine bodyPost_ret (v:= .agg #[.int .i64 1,.int .i64 0,.int .i64 1,.int .i64 1,.int .u64 (dval [b]:Nat),.int .u64 (fE [b]:Nat)]) (by simp[results,Tryz.results180,go_sem,hc]) O ⟨O,?_⟩;repeat(refine Below.setCell ?_ (by simp) _)
 exact hbw
end
section
open Go Go.RowKit Eg
set_option maxRecDepth 100000

structure Ent where
 r:Rl
 t:List UInt8
 d:Int
 e:Bool
def Ent.cells (x:Ent):List Value:=[.int .i64 (Rl.kind (x.r):Nat),.int .u8 (Rl.byte (x.r):Nat),.int .i64 (Rl.left (x.r):Nat),.int .i64 (Rl.right (x.r):Nat),.int .i64 (Rl.times (x.r):Nat),.int .i64 (List.length (x.t):Nat),.int .i64 (gF (x.t):Nat),.int .i64 (kR (x.t):Nat),.int .i64 (kS (x.t):Nat),.int .u64 (dval (x.t):Nat),.int .u64 (fE (x.t):Nat),.int .i64 x.d,.bool x.e]
def Ent.cells_length (x:Ent):x.cells.length=13:=rfl
def rls (E:List Ent):List Rl:=E.map (·.r)
def bQ (E:List Ent):(rls E).length=E.length:=ku _
def dA (E M:List Ent):rls (E++M)=rls E++rls M:=fw
def wL {E:List Ent}{i:Nat}{x:Ent}(h:E[i]?=some x):(rls E)[i]?=some x.r:=by simp[rls,h]
def qFa (E:List Ent):List Value:=E.flatMap Ent.cells
def qMc (E M:List Ent):qFa (E++M)=qFa E++qFa M:=List.flatMap_append
def qYd {E:List Ent}{i:Nat}{x:Ent}(h:E[i]?=some x)(j:Nat)(hj:j<13):(qFa E)[i*13+j]?=x.cells[j]?:=by
 induction E generalizing i with
 |nil=>simp at h
 |cons y E ih=>
  unfold qFa
  rw[uu]
  cases i with
  |zero=>
   obtain rfl:y=x:=by simpa using h
   rw[ak (by rw[Ent.cells_length];omega)]
   congr 1
   omega
  |succ i=>
   rw[ax (by rw[Ent.cells_length];omega)]
   have:=ih (i:=i) (by simpa using h)
   unfold qFa at this
   rw[←this,Ent.cells_length]
   congr 1
   omega

def tV (n:Int)(h: -9223372036854775808≤n∧n≤9223372036854775807):wrap64 n=n:=by unfold wrap64;omega
def Ent.deep (E:List Ent)(x:Ent)(i:Nat):Prop:=x.d=((dep (rls E) i:Nat):Int)∧x.e=evn (rls E) i
def Deep (E:List Ent):Prop:=∀(i:Nat)(x:Ent),E[i]?=some x→x.deep E (i+1)
def Deep.snoc {E:List Ent}{x:Ent}(h:Deep E)(hx:x.deep (E++[x]) (E.length+1)):Deep (E++[x]):=fun i y hy=>by
 by_cases hlt:i<E.length
 ·rw[ak hlt]at hy;unfold Ent.deep;rw[dA,vZ _ (by rw[bQ];omega),qHn _ (by rw[bQ];omega)];exact h i y hy
 have hi':i<(E++[x]).length:=(ae.1 hy).1;obtain rfl:i=E.length:=by simp at hi';omega
 rw[ax (ai _)]at hy;simp at hy;subst hy;exact hx
def qIp {E:List Ent}{x:Ent}:(rls (E++[x]))[E.length]?=some x.r:=by
 rw[dA,ax (by rw[bQ];exact ai _),bQ];simp[rls]
def qNq {E:List Ent}{x:Ent}{b:UInt8}(hr:x.r= .letter b)(hd:x.d=0)(he:x.e=true):x.deep (E++[x]) (E.length+1):=by
 have hg:=qIp (E:=E) (x:=x);rw[hr]at hg;unfold Ent.deep dep evn;rw[qM hg];exact⟨hd,he⟩
def qVq {E:List Ent}{x xl xr:Ent}{i j:Nat}(h:Deep E)(hr:x.r= .pair (i+1) (j+1))(hi:E[i]?=some xl)(hj:E[j]?=some xr)(hd:x.d=1+max xl.d xr.d)(he:x.e=(xl.e&&xr.e&&(decide (xl.d≤xr.d+1)&&decide (xr.d≤xl.d+1)))):x.deep (E++[x]) (E.length+1):=by
 have hg:=qIp (E:=E) (x:=x);rw[hr]at hg;have hil:i<E.length:=(ae.1 hi).1;have hjl:j<E.length:=(ae.1 hj).1;obtain⟨a1,a2⟩:=h i xl hi;obtain⟨b1,b2⟩:=h j xr hj;have c1:dep (rls (E++[x])) (i+1)=dep (rls E) (i+1):=by rw[dA];exact vZ _ (by rw[bQ];exact hil)
 have c2:dep (rls (E++[x])) (j+1)=dep (rls E) (j+1):=by rw[dA];exact vZ _ (by rw[bQ];exact hjl)
 have c3:evn (rls (E++[x])) (i+1)=evn (rls E) (i+1):=by rw[dA];exact qHn _ (by rw[bQ];exact hil)
 have c4:evn (rls (E++[x])) (j+1)=evn (rls E) (j+1):=by rw[dA];exact qHn _ (by rw[bQ];exact hjl)
 have hp:=qAw hg ⟨oO,oO,oO,oO⟩;rw[c1,c2,c3,c4,←a2,←b2]at hp;refine⟨?_,?_⟩
 ·rw[dep,hp,hd,a1,b1];show 1+max ((dep (rls E) (i+1):Nat):Int) ((dep (rls E) (j+1):Nat):Int)=((1+max (dep (rls E) (i+1)) (dep (rls E) (j+1)):Nat):Int);omega
 rw[evn,hp,he,a1,b1];show(_&&_&&(_&&_))=(_&&_&&(_&&_));congr 2
 ·exact decide_eq_decide.2 oO
 exact decide_eq_decide.2 oO
def qSl {E:List Ent}{x xl:Ent}{i k:Nat}(h:Deep E)(hr:x.r= .power (i+1) k)(hk:2≤k)(hi:E[i]?=some xl)(hd:x.d=1+xl.d)(he:x.e=false):x.deep (E++[x]) (E.length+1):=by
 have hg:=qIp (E:=E) (x:=x);rw[hr]at hg;have hil:i<E.length:=(ae.1 hi).1;obtain⟨a1,a2⟩:=h i xl hi;have c1:dep (rls (E++[x])) (i+1)=dep (rls E) (i+1):=by rw[dA];exact vZ _ (by rw[bQ];exact hil)
 have hp:=sM hg ⟨oO,oO,hk⟩;rw[c1]at hp;refine⟨?_,?_⟩
 ·rw[dep,hp,hd,a1];show 1+((dep (rls E) (i+1):Nat):Int)=((1+dep (rls E) (i+1):Nat):Int);omega
 rw[evn,hp,he]
structure StoreAt (w:World)(s most:Nat)(E:List Ent)(lv:Value)(bm:Nat):Prop where
 top:Blk w s [.int .i64 most,lv,.map (some bm)] 195
 row:w.ownsRow 0 188 13 lv E.length (qFa E)
 ids:w.heap[bm]?=some (.map (qAq (rls E)) (rls E).length)
 wf:Wf (rls E)
 texts:∀(i:Nat)(x:Ent),E[i]?=some x→x.t=txt (rls E) (i+1)
 most_le:most≤fP
 fits:E.length≤most
 deeps:Deep E

variable {w w':World}{s most bm:Nat}{E:List Ent}{lv:Value}
def StoreAt.slice (h:StoreAt w s most E lv bm):∃a c,lv= .slice a E.length c∧E.length≤c:=by
 rcases h.row.2 with⟨rfl,h0⟩|⟨g,cap,cur,rfl,_,_,hc,_⟩
 ·exact⟨none,0,by rw[h0],oO⟩
 exact⟨_,_,O,hc⟩
def StoreAt.below (h:StoreAt w s most E lv bm)(hb:Below w.heap.size w w'):StoreAt w' s most E lv bm:=by
 have hlt:bm<w.heap.size:=(cz.1 h.ids).1;refine⟨h.top.below hb h.top.lt,?_,by rw[hb.block bm hlt];exact h.ids,h.wf,h.texts,h.most_le,h.fits,h.deeps⟩;exact h.row.kept (row:=none) ⟨hb.os,hb.tape,hb.output,hb.size,fun k hk _=>hb.block k hk⟩ (by cases hv:lv.ownBlock<;>simp)
def StoreAt.cell (h:StoreAt w s most E lv bm){i:Nat}{x:Ent}(hi:E[i]?=some x):
  ∃g c,lv= .slice (some ⟨g,0,none⟩) E.length c∧E.length≤c∧g<w.heap.size∧∀j v,x.cells[j]?=some v→w.cell? ⟨g,i*13+j,none⟩=some v:=by
 have hlt:i<E.length:=(ae.1 hi).1;rcases h.row.2 with⟨rfl,h0⟩|⟨g,cap,cur,rfl,_,hg,hc,_,_,ht⟩
 ·omega
 refine⟨g,cap,O,hc,(cz.1 hg).1,fun j v hj=>?_⟩;have hj13:j<13:=by rw[←Ent.cells_length x];exact(ae.1 hj).1
 have:=qYd hi j hj13;rw[hj,←ht,mf]at this;split at this
 ·rw[cell_of_row w g _ cur _ (0,0) hg];simpa using this
 cases this

def qYr (w:World)(h:StoreAt w s most E lv bm):
  Calls Tryz.prog 74 #[.pointer (some ⟨s,0,none⟩)] w fun e w'=>e= .returned (.int .i64 (E.length:Nat))∧w=w':=by
 obtain⟨a,c,rfl,hc⟩:=h.slice;have k1:=h.top.cell 1 O;have hl:E.length≤1048576:=jh h.fits h.most_le;clear h hc;go_enter Tryz.func74,Tryz.ntmps74
 go_wp2
 go_ret
 exact⟨O,O⟩
def pO (w:World)(n:Int)(h:StoreAt w s most E lv bm):
  Calls Tryz.prog 76 #[.pointer (some ⟨s,0,none⟩),.int .i64 n] w fun e w'=>e= .returned (.bool (decide (0≤n)&&decide (n≤(E.length:Int))))∧w=w':=by
 obtain⟨a,c,rfl,hc⟩:=h.slice;have k1:=h.top.cell 1 O;have hl:E.length≤1048576:=jh h.fits h.most_le;clear h hc;by_cases h0:0≤n
 ·have d0:decide (0≤n)=true:=by simpa using h0
  by_cases h1:n≤(E.length:Int)
  ·have d1:decide (n≤(E.length:Int))=true:=by simpa using h1
   rw[d0,d1];go_enter Tryz.func76,Tryz.ntmps76
   go_wp2
   go_ret
   exact⟨O,O⟩
  have d1:decide (n≤(E.length:Int))=false:=by simpa using h1
  rw[d0,d1];go_enter Tryz.func76,Tryz.ntmps76
  go_wp2
  go_ret
  exact⟨O,O⟩
 have d0:decide (0≤n)=false:=by simpa using h0
 rw[d0];go_enter Tryz.func76,Tryz.ntmps76
 go_wp2
 go_ret
 exact⟨O,O⟩
end
section
open Go Go.RowKit Eg
set_option maxRecDepth 100000
variable {w w':World}{s most bm:Nat}{E:List Ent}{lv:Value}

def yH (w:World)(i:Nat)(x:Ent)(h:StoreAt w s most E lv bm)(hi:E[i]?=some x):
  Calls Tryz.prog 77 #[.pointer (some ⟨s,0,none⟩),.int .i64 ((i+1:Nat):Int)] w fun e w'=>e= .returned (.agg #[.int .i64 (Rl.kind (x.r):Nat),.int .u8 (Rl.byte (x.r):Nat),.int .i64 (Rl.left (x.r):Nat),.int .i64 (Rl.right (x.r):Nat),.int .i64 (Rl.times (x.r):Nat),.int .i64 (List.length (x.t):Nat),.int .i64 (gF (x.t):Nat),.int .i64 (kR (x.t):Nat),.int .i64 (kS (x.t):Nat),.int .u64 (dval (x.t):Nat),.int .u64 (fE (x.t):Nat),.int .i64 x.d,.bool x.e])∧Below w.heap.size w w':=by
 obtain⟨g,c,rfl,hc,hg,hcell⟩:=h.cell hi;have hlt:i<E.length:=(ae.1 hi).1;have k1:=h.top.cell 1 O;have hl:E.length≤1048576:=jh h.fits h.most_le;have b0:=h.top.lt;have c0:=hcell 0 _ O;rw[um]at c0;have c1:=hcell 1 _ O;have c2:=hcell 2 _ O;have c3:=hcell 3 _ O;have c4:=hcell 4 _ O;have c5:=hcell 5 _ O;have c6:=hcell 6 _ O;have c7:=hcell 7 _ O;have c8:=hcell 8 _ O;have c9:=hcell 9 _ O;have c10:=hcell 10 _ O;have c11:=hcell 11 _ O;have c12:=hcell 12 _ O;clear h hc hcell hi;go_enter Tryz.func77,Tryz.ntmps77
 go_wp2
 refine bodyPost_ret (v:= .agg #[.int .i64 (Rl.kind (x.r):Nat),.int .u8 (Rl.byte (x.r):Nat),.int .i64 (Rl.left (x.r):Nat),.int .i64 (Rl.right (x.r):Nat),.int .i64 (Rl.times (x.r):Nat),.int .i64 (List.length (x.t):Nat),.int .i64 (gF (x.t):Nat),.int .i64 (kR (x.t):Nat),.int .i64 (kS (x.t):Nat),.int .u64 (dval (x.t):Nat),.int .u64 (fE (x.t):Nat),.int .i64 x.d,.bool x.e]) (by simp[results,Tryz.results77,go_sem]) O ⟨O,by go_grown⟩

def qMq (w:World)(a:Addr):
  Calls Tryz.prog 77 #[.pointer (some a),.int .i64 0] w fun e w'=>e= .returned (.agg #[.int .i64 0,.int .u8 0,.int .i64 0,.int .i64 0,.int .i64 0,.int .i64 0,.int .i64 0,.int .i64 0,.int .i64 0,.int .u64 0,.int .u64 1,.int .i64 0,.bool true])∧Below w.heap.size w w':=by
 go_enter Tryz.func77,Tryz.ntmps77
 go_wp2_with fail
 refine(qOz _).mono ?_;rintro e w1⟨rfl,hb⟩;obtain⟨hc,hf⟩:=qJx hb;have hz:w.heap.size<w1.heap.size:=by have:=hb.size;simp at this;omega
 have hbw:Below w.heap.size w w1:=Below.trans (by go_grown) (hb.mono (by simp));go_wp2_with fail
 refine bodyPost_ret (v:= .agg #[.int .i64 0,.int .u8 0,.int .i64 0,.int .i64 0,.int .i64 0,.int .i64 0,.int .i64 0,.int .i64 0,.int .i64 0,.int .u64 0,.int .u64 1,.int .i64 0,.bool true]) (by simp[results,Tryz.results77,go_sem,hc]) O ⟨O,?_⟩;repeat(refine Below.setCell ?_ (by simp) _)
 exact hbw

def zT (w:World)(r:Rl)(h:StoreAt w s most E lv bm)(hr:idOf (rls E) r≠0∨E.length<most):
  Calls Tryz.prog 142 #[.pointer (some ⟨s,0,none⟩),.agg #[.int .i64 (Rl.kind (r):Nat),.int .u8 (Rl.byte (r):Nat),.int .i64 (Rl.left (r):Nat),.int .i64 (Rl.right (r):Nat),.int .i64 (Rl.times (r):Nat)]] w fun e w'=>e= .returned (.tuple #[.int .i64 (idOf (rls E) r:Nat),.nilIface])∧Below w.heap.size w w':=by
 have hl:E.length≤1048576:=jh h.fits h.most_le;have hm:most≤1048576:=h.most_le
 have hlk:∀nq,(Instr.lookup 192 (.map (some bm)) (.agg #[.int .i64 (Rl.kind (r):Nat),.int .u8 (Rl.byte (r):Nat),.int .i64 (Rl.left (r):Nat),.int .i64 (Rl.right (r):Nat),.int .i64 (Rl.times (r):Nat)]) true).run Tryz.prog ((w.alloc (.cells #[.int .i64 (Rl.kind (r):Nat),.int .u8 (Rl.byte (r):Nat),.int .i64 (Rl.left (r):Nat),.int .i64 (Rl.right (r):Nat),.int .i64 (Rl.times (r):Nat)] 141)).drewN nq)= .ok (.tuple #[.int .i64 (idOf (rls E) r:Nat),.bool (!decide (idOf (rls E) r=0))]) ((w.alloc (.cells #[.int .i64 (Rl.kind (r):Nat),.int .u8 (Rl.byte (r):Nat),.int .i64 (Rl.left (r):Nat),.int .i64 (Rl.right (r):Nat),.int .i64 (Rl.times (r):Nat)] 141)).drewN nq):=by
  intro nq;refine qSq (rls E) r _ bm ?_;show(w.alloc _).heap[bm]?=_;rw[Below.heap_alloc w _ bm (cz.1 h.ids).1];exact h.ids
 obtain⟨a,c,rfl,hc⟩:=h.slice;have k0:=h.top.cell 0 O;have k1:=h.top.cell 1 O;have k2:=h.top.cell 2 O;have b0:=h.top.lt;clear h hc;generalize idOf (rls E) r=i at*;by_cases hi:i=0
 ·have hlt:E.length<most:=oO;clear hr;subst hi;go_enter Tryz.func142,Tryz.ntmps142
  go_wp2_with fail
  go_quiet (fail)
  go_wp2_with fail
  go_quiet (fail)
  go_wp2_with fail
  go_ret2
  exact⟨O,qTz (qTz (by go_grown))⟩
 have hd:decide (i=0)=false:=by simp[hi]
 clear hr;go_enter Tryz.func142,Tryz.ntmps142
 go_wp2_with fail
 go_quiet (fail)
 go_wp2_with fail
 go_ret2
 exact⟨O,qTz (by go_grown)⟩

def qTo (w:World)(i:Nat)(x:Ent)(h:StoreAt w s most E lv bm)(hi:E[i]?=some x):
  Calls Tryz.prog 52 #[.pointer (some ⟨s,0,none⟩),.int .i64 ((i+1:Nat):Int)] w fun e w'=>e= .returned (.tuple #[.agg #[.int .i64 (Rl.kind (x.r):Nat),.int .u8 (Rl.byte (x.r):Nat),.int .i64 (Rl.left (x.r):Nat),.int .i64 (Rl.right (x.r):Nat),.int .i64 (Rl.times (x.r):Nat)],.nilIface])∧Below w.heap.size w w':=by
 have hlt:i<E.length:=(ae.1 hi).1;have hkn:=fun W(hW:StoreAt W s most E lv bm)=>pO W ((i+1:Nat):Int) hW
 have hd:(decide ((0:Int)≤((i+1:Nat):Int))&&decide (((i+1:Nat):Int)≤(E.length:Int)))=true:=by simp;omega
 rw[hd]at hkn;have HKN:=Lib.hid hkn;have HS:=Lib.hid h;obtain⟨g,c,rfl,hc,hg,hcell⟩:=h.cell hi;have k1:=h.top.cell 1 O;have hl:E.length≤1048576:=jh h.fits h.most_le;have b0:=h.top.lt;have c0:=hcell 0 _ O;rw[um]at c0;have c1:=hcell 1 _ O;have c2:=hcell 2 _ O;have c3:=hcell 3 _ O;have c4:=hcell 4 _ O;have hz:(((i+1:Nat):Int)==0)=false:=by simp;omega
 clear h hc hcell hi hkn hd;go_enter Tryz.func52,Tryz.ntmps52
 go_wp2_with fail
 refine(HKN.out _ (HS.out.below (by go_grown))).mono ?_;rintro e w'⟨rfl,rfl⟩;go_wp2_with fail
 refine bodyPost_ret (v:= .tuple #[.agg #[.int .i64 (Rl.kind (x.r):Nat),.int .u8 (Rl.byte (x.r):Nat),.int .i64 (Rl.left (x.r):Nat),.int .i64 (Rl.right (x.r):Nat),.int .i64 (Rl.times (x.r):Nat)],.nilIface]) (by simp[results,Tryz.results52,go_sem]) O ⟨O,by go_grown⟩

def qAf (v0 v1 v2 v3 v4 v5 v6 v7 v8 v9 v10 v11 v12:Value)(w:World):(Instr.field 188 (.agg #[v0,v1,v2,v3,v4,v5,v6,v7,v8,v9,v10,v11,v12]) 1).run Tryz.prog w= .ok (.agg #[v5,v6,v7,v8,v9,v10]) w:=by kernel_rfl

def qMr (w:World)(i:Nat)(x:Ent)(h:StoreAt w s most E lv bm)(hi:E[i]?=some x):
  Calls Tryz.prog 39 #[.pointer (some ⟨s,0,none⟩),.int .i64 ((i+1:Nat):Int)] w fun e w'=>e= .returned (.tuple #[.agg #[.int .i64 (List.length (x.t):Nat),.int .i64 (gF (x.t):Nat),.int .i64 (kR (x.t):Nat),.int .i64 (kS (x.t):Nat),.int .u64 (dval (x.t):Nat),.int .u64 (fE (x.t):Nat)],.nilIface])∧Below w.heap.size w w':=by
 have hlt:i<E.length:=(ae.1 hi).1;have hkn:=fun W(hW:StoreAt W s most E lv bm)=>pO W ((i+1:Nat):Int) hW
 have hd:(decide ((0:Int)≤((i+1:Nat):Int))&&decide (((i+1:Nat):Int)≤(E.length:Int)))=true:=by simp;omega
 rw[hd]at hkn;have HKN:=Lib.hid hkn;have HS:=Lib.hid h;have HI:=Lib.hid hi;clear h hi hkn hd hlt;go_enter Tryz.func39,Tryz.ntmps39
 go_wp2_with fail
 refine(HKN.out _ (HS.out.below (by go_grown))).mono ?_;rintro e w'⟨rfl,rfl⟩;go_wp2_with fail
 refine(yH _ i x (HS.out.below (by go_grown)) HI.out).mono ?_;rintro e w1⟨rfl,hb⟩;obtain⟨hc,hf⟩:=qJx hb;have hz:w.heap.size<w1.heap.size:=by have:=hb.size;simp at this;omega
 have hbw:Below w.heap.size w w1:=Below.trans (by go_grown) (hb.mono (by simp));have hfw:=qAf;go_wp2_with fail
 refine bodyPost_ret (v:= .tuple #[.agg #[.int .i64 (List.length (x.t):Nat),.int .i64 (gF (x.t):Nat),.int .i64 (kR (x.t):Nat),.int .i64 (kS (x.t):Nat),.int .u64 (dval (x.t):Nat),.int .u64 (fE (x.t):Nat)],.nilIface]) (by simp[results,Tryz.results39,go_sem,hc]) O ⟨O,?_⟩;repeat(refine Below.setCell ?_ (by simp) _)
 exact hbw

def qJc (w:World)(h:StoreAt w s most E lv bm):
  Calls Tryz.prog 39 #[.pointer (some ⟨s,0,none⟩),.int .i64 0] w fun e w'=>e= .returned (.tuple #[.agg #[.int .i64 0,.int .i64 0,.int .i64 0,.int .i64 0,.int .u64 0,.int .u64 1],.nilIface])∧Below w.heap.size w w':=by
 have hkn:=fun W(hW:StoreAt W s most E lv bm)=>pO W 0 hW
 have hd:(decide ((0:Int)≤0)&&decide ((0:Int)≤(E.length:Int)))=true:=by simp
 rw[hd]at hkn;have HKN:=Lib.hid hkn;have HS:=Lib.hid h;clear h hkn hd;go_enter Tryz.func39,Tryz.ntmps39
 go_wp2_with fail
 refine(HKN.out _ (HS.out.below (by go_grown))).mono ?_;rintro e w'⟨rfl,rfl⟩;go_wp2_with fail
 refine(qMq _ _).mono ?_;rintro e w1⟨rfl,hb⟩;obtain⟨hc,hf⟩:=qJx hb;have hz:w.heap.size<w1.heap.size:=by have:=hb.size;simp at this;omega
 have hbw:Below w.heap.size w w1:=Below.trans (by go_grown) (hb.mono (by simp));have hfw:=qAf;go_wp2_with fail
 refine bodyPost_ret (v:= .tuple #[.agg #[.int .i64 0,.int .i64 0,.int .i64 0,.int .i64 0,.int .u64 0,.int .u64 1],.nilIface]) (by simp[results,Tryz.results39,go_sem,hc]) O ⟨O,?_⟩;repeat(refine Below.setCell ?_ (by simp) _)
 exact hbw
end
section
open Go Go.RowKit Eg
set_option maxRecDepth 100000

def val_lt {v:Nat}(h:v<P61):decide ((2305843009213693951:Int)≤(v:Int))=false:=by
 unfold P61 at h;simp;omega

def qJo (n v:Nat)(w:World)(hn:n≤dC)(hv:v<P61)(h0:n=0→v=0):
  Calls Tryz.prog 187 #[.agg #[.int .i64 n,.int .i64 0,.int .i64 n,.int .i64 n,.int .u64 v,.int .u64 (powm base n:Nat)]] w fun e w'=>e= .returned (.bool true)∧Below w.heap.size w w':=by
 have hv':=val_lt hv;have hp:=Lib.hid hn;have h63:n<9223372036854775808:=by unfold dC at hn;omega
 generalize hs:powm base n=s at*;have HS:=Lib.hid hs;have H0:=Lib.hid h0;have hb:1103515245<U64:=by unfold U64;omega
 clear hn hv h0 hs;by_cases hz:n=0
 ·obtain rfl:=hz;obtain rfl:v=0:=H0.out rfl;go_enter Tryz.func187,Tryz.ntmps187
  go_wp2_with fail
  refine(jI 0 _ hp.out).mono ?_;rintro e w1⟨rfl,rfl⟩;go_wp2_with fail
  refine kX 8 oK oK ?_;simp only[lu,nk,oF,oU];repeat(first |still_step|still_call (same (qY 1103515245 0 _ hb oO)))
  refine wpStill_nil ?_;rw[show powm 1103515245 0=s from HS.out];go_wp2_with fail
  go_ret
  exact⟨by simp,by go_grown⟩
 have hz1:((n:Int)==0)=false:=by simp;omega
 have hwr:IntKind.u64.wrap (n:Int)=n:=wrap_u64 n (by unfold U64;omega);go_enter Tryz.func187,Tryz.ntmps187
 go_wp2_with fail
 refine(jI n _ hp.out).mono ?_;rintro e w1⟨rfl,rfl⟩;go_wp2_with fail
 refine kX 8 oK oK ?_;simp only[lu,nk,oF,oU];repeat(first |still_step|still_call (same (qY 1103515245 n _ hb h63)))
 refine wpStill_nil ?_;rw[show powm 1103515245 n=s from HS.out];go_wp2_with fail
 go_ret
 exact⟨by simp,by go_grown⟩

def qJp (n l a b v:Nat)(w:World)(hn:n≤dC)(hv:v<P61)(hl:1≤l)(h1:a+b+l≤n)(h2:l=1→a+b+1=n):
  Calls Tryz.prog 187 #[.agg #[.int .i64 n,.int .i64 l,.int .i64 a,.int .i64 b,.int .u64 v,.int .u64 (powm base n:Nat)]] w fun e w'=>e= .returned (.bool true)∧Below w.heap.size w w':=by
 have hv':=val_lt hv;have hp:=Lib.hid hn;have h63:n<9223372036854775808:=by unfold dC at hn;omega
 generalize hs:powm base n=s at*;have HS:=Lib.hid hs;have H2:=Lib.hid h2;have hb:1103515245<U64:=by unfold U64;omega
 have hwr:IntKind.u64.wrap (n:Int)=n:=wrap_u64 n (by unfold U64;omega);have hz1:((n:Int)==0)=false:=by simp;omega
 have hz2:((l:Int)==0)=false:=by simp;omega
 have hz3:((n:Int)-a-b !=1)=true→((l:Int)==1)=false:=by
  intro hne;simp only[bne_iff_ne,beq_eq_false_iff_ne]at*;intro h;exact hne (by have:=h2 oO;omega)
 have HZ3:=Lib.hid hz3;clear hn hv hs h2 hz3;by_cases hc:(n:Int)-a-b=1
 ·have hc1:((n:Int)-a-b !=1)=false:=by simp[hc]
  have HC:=Lib.hid hc;clear hc;by_cases hq:l=1
  ·obtain rfl:=hq;go_enter Tryz.func187,Tryz.ntmps187
   go_wp2_with fail
   refine(jI n _ hp.out).mono ?_;rintro e w1⟨rfl,rfl⟩;go_wp2_with fail
   refine kX 8 oK oK ?_;simp only[lu,nk,oF,oU];repeat(first |still_step|still_call (same (qY 1103515245 n _ hb h63)))
   refine wpStill_nil ?_;rw[show powm 1103515245 n=s from HS.out];go_wp2_with fail
   go_ret
   exact⟨by simp,by go_grown⟩
  exfalso;have:=HC.out;omega
 have hc1:((n:Int)-a-b !=1)=true:=by simp[hc]
 have hq:=HZ3.out hc1;go_enter Tryz.func187,Tryz.ntmps187
 go_wp2_with fail
 refine(jI n _ hp.out).mono ?_;rintro e w1⟨rfl,rfl⟩;go_wp2_with fail
 refine kX 8 oK oK ?_;simp only[lu,nk,oF,oU];repeat(first |still_step|still_call (same (qY 1103515245 n _ hb h63)))
 refine wpStill_nil ?_;rw[show powm 1103515245 n=s from HS.out];go_wp2_with fail
 go_ret
 exact⟨by simp,by go_grown⟩
end
