import Derived.Test.YtlmpojkmeglepaaGreatDoorQ07
import Derived.LoopN
set_option linter.all false
set_option maxHeartbeats 1000000
namespace Eg
def lcp:List UInt8→List UInt8→Nat
 |a::x,b::y=>if a=b then lcp x y+1 else 0
 |_,_=>0
def cost (L:List Rl):List (Nat×Nat)→Nat
 |[]=>0
 |g::r=>g.2*(2*len L g.1-1)+cost L r
end Eg
namespace Sl
open Go Go.RowKit
variable {E:Env}{n:Nat}{L:Fr}{S H H':List HP}{ty:TypeId}{pos:String}{af:Array Edge}{d:Option Nat}{gd:Option (Nat×Bool)}{K:Value→List HP→Prop}{Q:Exit→Act→World→Prop}
theorem kK {t e:TypeId}{es by_ sz:Nat}{zs:List Value}(ht:E.tab t=some ⟨.slice e es by_,sz,zs⟩)(hk:∀b,K (.slice (some ⟨b,0,none⟩) 0 0) (sl (some ⟨b,0,none⟩) 0 e es 0 []::H)):
  Ld E n L H ⟨d,.buildSlice t 0 #[],ty,pos,af,gd⟩ K:=fun Q next a w g hn=>by
 obtain⟨hu,j,hj,hs,_⟩:=fI ht
 have hrun:(execOp a.eval ⟨d,.buildSlice t 0 #[],ty,pos,af,gd⟩).run E.P w= .ok (.value (.slice (some ⟨w.heap.size,0,none⟩) 0 0)) (w.alloc (.cells #[] e)):=by
  simp[execOp,Instr.buildSlice,underlying,program,Sem.run,hu,Go.sizeOf,typeInfo,hj,Instr.fill,newRow,newObj]
  congr 2
  exact Array.toList_inj.1 (by simp)
 unfold Oper.wp
 rw[hrun,Oper.upon_value]
 refine hn _ _ _ (hk _) ((g.hp.new _).imp fun k h=>gH (fun k' h'=>?_) h)
 exact⟨by simp,.inr ⟨_,#[],rfl,h',Nat.le_refl _,Nat.zero_le _,by simp,by simp⟩⟩
theorem jD {x y:Operand}{t e:TypeId}{p:Option Addr}{c m k cc g es by_ sz sz':Nat}{xs us zs zs':List Value}{kk:TK}{H'':List HP}(ht:E.tab t=some ⟨.slice e es by_,sz,zs⟩)(he:E.tab e=some ⟨kk,sz',zs'⟩)(hz:(Nat.beq zs'.length es&&Nat.blt 0 es)=true)
  (hx:ev L x=some (.slice p m c)) (hy:ev L y=some (.slice (some ⟨g,0,none⟩) k cc)) (hm:Take (sl (some ⟨g,0,none⟩) cc e es k us) H H') (hm2:Take (sl p c e es m xs) H' H'') (hp:∀u∈us,u.oneCell'=true) (h0:0<k) (hb:(m+k)*by_≤140737488355328) (hb2:m+k≤maxLen)
  (hk:∀g' c' m' xs',m'=m+k→xs'=xs++us→K (.slice (some ⟨g',0,none⟩) m' c') (sl (some ⟨g',0,none⟩) c' e es m' xs'::sl (some ⟨g,0,none⟩) cc e es k us::H'')):Ld E n L H ⟨d,.call {callee:= .builtin .append,args:= #[x,y],argTypes:= #[t,t]},ty,pos,af,gd⟩ K:=fun Q next a w G hn=>by
 obtain⟨hu,j,hj,hs,hby⟩:=fI ht
 obtain⟨i,z,hi,hi2,hiz,hzc,_⟩:=fG he
 obtain rfl:i=j:=by rw[hi]at hj;simpa using hj
 simp only[Bool.and_eq_true]at hz
 have z1:=Nat.eq_of_beq_eq_true hz.1
 have z2:0<es:=by simpa[Nat.blt_eq]using hz.2
 have s1:=G.hp.take hm
 have hl:us.length=k*es:=by obtain⟨h1,h2,_,_,hh,_⟩:=s1.hp;exact hh.1
 have s2:Sat E.w0 w (sl p c e es m xs::sl (some ⟨g,0,none⟩) cc e es k us::H''):=(s1.imp fun _ h=>gZ (gF (fun _=>hm2.out) h))
 have hnews:∀j u,us[j]?=some u→w.cell? ((⟨g,0,none⟩:Addr).add j)=some u:=fun j u hu=>by rw[addr_add,Nat.zero_add];exact(HasC.slice hu).cell s1
 obtain⟨g',c',w',hr,ho,hgr,hat,_⟩:=run_append_lies (P:=E.P) w t ty E.w0.heap.size e i z es by_ hu hi hiz hs hby (by rw[←Array.length_toList,hzc];exact z1) z2 (.slice p m c) m xs s2.owns ⟨g,0,none⟩ k cc us hl hnews hp h0 hb2 hb s2.size _ rfl
 have hrun:(execOp a.eval ⟨d,.call {callee:= .builtin .append,args:= #[x,y],argTypes:= #[t,t]},ty,pos,af,gd⟩).run E.P w= .ok (.value (.slice (some ⟨g',0,none⟩) (m+k) c')) w':=by
  simp[execOp,resolve,invoke,builtin,G.f.ev hx,G.f.ev hy,hr]
 unfold Oper.wp
 rw[hrun,Oper.upon_value]
 exact hn _ _ _ (hk g' c' _ _ O O) (s2.resl ho hgr hat)
theorem pM {ops:List Oper}{m:Nat}{S:List HP}{fuel:Nat}{listed:Array Bool}(i j:Nat){d d':Option Nat}{op op':Op}{ty ty':TypeId}{pos pos':String}{af af':Array Edge}(hi:ops[i]?=some ⟨d,op,ty,pos,af,none⟩)(hj:ops[j]?=some ⟨d',op',ty',pos',af',none⟩)(hr:Region.ready .any ops.toArray listed=[i,j])(hd:inB n d=true)(hd':inB n d'=true)
  (h:Ld E n L H ⟨d,op,ty,pos,af,none⟩ (fun v H'=>(∀k,eG H' k→eG S k)∧WPM E ops m S Q fuel (listed.setIfInBounds i true) n (putL d v L) H')) (h':Ld E n L H ⟨d',op',ty',pos',af',none⟩ (fun v H'=>(∀k,eG H' k→eG S k)∧WPM E ops m S Q fuel (listed.setIfInBounds j true) n (putL d' v L) H')):WPM E ops m S Q (fuel+1) listed n L H:=fun _ a w g=>
 ⟨fun h0=>(by rw[hr]at h0;cases h0),fun x hx=>by
  have hx':x=i∨x=j:=by rw[hr]at hx;simpa using hx
  rcases hx' with rfl|rfl
  ·unfold wpOp
   simp only[gB hi,Region.wanted,if_true]
   exact .inl (h _ _ a w g (fun v H' w' hk hs=>⟨fun _=>hs.imp hk.1,hk.2 hk.1 _ _ ⟨g.f.put d v hd,hs⟩⟩))
  unfold wpOp
  simp only[gB hj,Region.wanted,if_true]
  exact .inl (h' _ _ a w g (fun v H' w' hk hs=>⟨fun _=>hs.imp hk.1,hk.2 hk.1 _ _ ⟨g.f.put d' v hd',hs⟩⟩))⟩
theorem y_and {x y:Operand}{xt yt:TypeId}{i j:Int}{kd:IntKind}(hx:ev L x=some (.int kd i))(hy:ev L y=some (.int kd j)):
  Yl E n L S ⟨d,.binOp .and xt x y yt,ty,pos,af,gd⟩ (.int kd (kd.wrap (BitVec.ofInt kd.bits i&&&BitVec.ofInt kd.bits j).toNat)):=fun a w g _=>by
 simp[execOp,eqGuard,binOp,Op.intBits,g.ev hx,g.ev hy]
def WRd (E:Env)(c:Code)(Q:Exit→Act→World→Prop)(m:Nat)(n:Nat)(L:Fr)(H:List HP):Prop:=∀a w,Good E n L H a w→Code.rounds E.P c Q m a w
theorem zR (m:Nat){c:Code}(h:WRd E c Q m n L H):WP E (.loop c) Q n L H:=fun a w g=>wp_loop_rounds m (h a w g)
theorem r_succ {m:Nat}{c:Code}(h:WP E c (Exit.then (Code.rounds E.P c Q m) Q) n L H):WRd E c Q (m+1) n L H:=fun a w g=>h a w g
theorem a_rd {m:Nat}{c:Code}(h:WRd E c Q m n L H):AT E (Exit.then (Code.rounds E.P c Q m) Q) .normal n L H:=h
theorem y_idx {x y:Operand}{t e:TypeId}{len sz sz':Nat}{k:IntKind}{i:Int}{kk:TK}{zs zs' cs:List Value}{v:Value}(h:ev L x=some (.agg ⟨cs⟩))(hy:ev L y=some (.int k i))(ht:E.tab t=some ⟨.array len e 1,sz,zs⟩)(he:E.tab e=some ⟨kk,sz',zs'⟩)(hk:kk.agg=false)
  (h0:0≤i) (h1:i<len) (hv:cs[i.toNat]?=some v):Yl E n L S ⟨d,.index t x y,ty,pos,af,gd⟩ v:=fun a w g _=>by
 obtain⟨hu,j,hj,hs⟩:=qJj ht
 simp[execOp,Instr.index,asIntOf,underlying,program,Sem.run,hu,g.ev h,g.ev hy,h0,h1,Go.sizeOf,typeInfo,hj,hs,part,mO he,hk,hv]
theorem kH {t e:TypeId}{len s:Nat}{ps:List (Nat×Operand)}{vs:List (Nat×Value)}{sz:Nat}{zs cs:List Value}(ht:E.tab t=some ⟨.array len e s,sz,zs⟩)(hp:evP L ps=some vs)(hf:qKd (fun i=>some (i*s,s)) zs vs=some cs):
  Yl E n L S ⟨d,.build t ps.toArray,ty,pos,af,gd⟩ (.agg ⟨cs⟩):=fun a w g _=>by
 obtain⟨z,hz,hc⟩:=zQ ht w
 obtain⟨hu,j,hj,hs⟩:=qJj ht
 have hps:=g.evP hp
 have hfill:=qEy (fun i=>some (i*s,s)) vs zs cs hf
 have e':z.cells=⟨zs⟩:=by rw[←hc]
 have hpl:(ps.toArray.map fun x=>match x with |(i,x)=>(i,a.eval x)).toList=vs:=by simpa using hps
 simp only[execOp,Instr.build,Sem.run_bind,hz,Result.andThen_ok,underlying,program,Sem.run,hu,Go.sizeOf,typeInfo,hj,hs,e',hpl,Sem.run_pure]
 rw[hfill]
 rfl
end Sl
namespace Eg
def Per (T:List UInt8)(d:Nat):Prop:=lcp T (T.drop d)=T.length-d
instance (T:List UInt8)(d:Nat):Decidable (Per T d):=inferInstanceAs (Decidable (_=_))
def seg (T:List UInt8)(a b:Nat):List UInt8:=(T.take b).drop a
def aft (T:List UInt8)(p d:Nat):Nat:=lcp (T.drop p) (T.drop (p+d))
end Eg
