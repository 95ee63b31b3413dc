import Derived.Test.YtnicahfnolhgbaaGreatDoorQ06
import Derived.LoopN
set_option linter.all false
set_option maxHeartbeats 1000000
namespace Go.Proofs.YtnicahfnolhgbaaGreatDoor
open Go Go.RowKit Sl Eg
set_option maxRecDepth 10000
section
variable {E:Bp}{Es:List Bj}{pp tb s most:Nat}
def Su (hE:BP E)(hB:Ca E.w0){i}(hi:i<Es.length):
  Ct E 196 [uPt tb,BL ((i+1:Nat):Int)] [BV tb s (BO Es),bR s most Es] (fun v Q=>v= .tuple #[.int .u64 (key (BO Es) (i+1):Nat),.nilIface]/\Q=[BV tb s (BO Es),bR s most Es]):=by
 refine bO (hE.fn Tryz.func196) O O O (fun R=>?_);simp only[dS,uV,uW];refine Bc ?_;refine BH (KE hE hB hi) O ?_;refine CG ?_;refine uU (dA (hE.t O) (fun b6=>?_));refine DL ?_;exact uZ O (.tmp O (.tmp O .nil)) ⟨O,O⟩
def qQy (hE:BP E)(hB:Ca E.w0){i:Nat}(hi:i<Es.length)(hl:0<=Bt (BO Es) (i+1)):
  Ct E 198 [uPt tb,BL ((i+1:Nat):Int)] [BV tb s (BO Es),bR s most Es] (fun v Q=>v= .tuple #[BL (Bt (BO Es) (i+1)),.nilIface]/\Q=[BV tb s (BO Es),bR s most Es]):=by
 refine bO (hE.fn Tryz.func198) O O O (fun R=>?_);simp only[dS,uV,uW];refine Bc ?_;refine BH (KE hE hB hi) O ?_;refine CG ?_;refine uU (dA (hE.t O) (fun b6=>?_));refine Df ?_;refine bE O (fun h=>?_) (fun h=>?_)
 ·exact absurd h oO
 refine Bo ?_;exact uZ O (.tmp O (.tmp O .nil)) ⟨O,O⟩
def qTl (hE:BP E):Ct E 41 [uPt s] [] (fun v Q=>∃tb,v=uPt tb/\Q=[BV tb s []]):=by
 refine bO (hE.fn Tryz.func41) O O O (fun R=>?_);simp only[dS,uV,uW];refine Ci ?_;refine uU (gN O (fun b7=>?_));refine Bz ?_;apply cK
 ·rfl
 ·(apply Rs.tmp rfl;exact Rs.nil)
 ·exact⟨b7,O,O⟩
 apply cZ (fU (t:=322) (sz:=3));apply cZ
 ·apply qHp (K:=[]) (L:=[]) (tb:=b7) (s:=s) (p:=none) (c:=0)
  ·exact uK
  ·rfl
  ·simp
  simp
 exact uI
def kC (hE:BP E):Ct E 68 [uPt pp] [cells pp [uPt s,uPt tb] 122] (fun v Q=>v=uPt s/\Q=[cells pp [uPt s,uPt tb] 122]):=by
 refine bO (hE.fn Tryz.func68) O O O (fun R=>?_);simp only[dS,uV,uW];refine EK ?_;exact uZ O (.tmp O .nil) ⟨O,O⟩
def Tg (hE:BP E):Ct E 219 [uPt pp] [cells pp [uPt s,uPt tb] 122] (fun v Q=>v=uPt tb/\Q=[cells pp [uPt s,uPt tb] 122]):=by
 refine bO (hE.fn Tryz.func219) O O O (fun R=>?_);simp only[dS,uV,uW];refine EK ?_;exact uZ O (.tmp O .nil) ⟨O,O⟩
def Nb (hE:BP E):Ct E 182 [uPt pp,BL ((0:Nat):Int)] [cells pp [uPt s,uPt tb] 122,BV tb s (BO Es),bR s most Es] (fun v Q=>v= .tuple #[BL 0,.nilIface]/\Q=[cells pp [uPt s,uPt tb] 122,BV tb s (BO Es),bR s most Es]):=by
 refine bO (hE.fn Tryz.func182) O O O (fun R=>?_);simp only[dS,uV,uW];refine TY ?_;exact uZ O (.tmp O (.tmp O .nil)) ⟨O,O⟩
def Qr (hE:BP E)(hB:Ca E.w0){i:Nat}(hi:i<Es.length)(hl:0<=Bt (BO Es) (i+1)):Ct E 182 [uPt pp,BL ((i+1:Nat):Int)] [cells pp [uPt s,uPt tb] 122,BV tb s (BO Es),bR s most Es] (fun v Q=>v= .tuple #[BL (Bt (BO Es) (i+1)),.nilIface]/\Q=[cells pp [uPt s,uPt tb] 122,BV tb s (BO Es),bR s most Es]):=by
 refine bO (hE.fn Tryz.func182) O O O (fun R=>?_);simp only[dS,uV,uW];refine WH ?_;refine bE O (fun h=>?_) (fun h=>?_)
 ·exact absurd h oO
 refine Bu ?_;refine BH (qQy hE hB hi hl) O ?_;refine Bi ?_;exact uZ O (.tmp O (.tmp O .nil)) ⟨O,O⟩
end
section
variable {E:Bp}{Es:List Bj}{pp tb s most:Nat}
def FI:List (Nat×Nat)->List Value
 |[]=>[]
 |g::r=> .int .i64 (g.1:Nat):: .int .i64 (g.2:Nat)::FI r
def vV:∀(a b:List (Nat×Nat)),FI (a++b)=FI a++FI b
 |[],_=>rfl
 |_::a,b=>by simp[FI,vV a b]
def Ti {gs i g}(h:gs[i]?=some g):(FI gs)[i*2]?=some (BK (g.1))/\(FI gs)[i*2+1]?=some (BK (g.2)):=by
 induction gs generalizing i with
 |nil=>simp at h
 |cons x r ih=>
  cases i with
  |zero=>obtain rfl:x=g:=by simpa using h
         exact⟨O,O⟩
  |succ i=>
   obtain⟨h1,h2⟩:=ih (i:=i) (by simpa using h)
   exact⟨by rw[show(i+1)*2=i*2+1+1 by omega];simpa[FI]using h1,by rw[show(i+1)*2+1=i*2+1+1+1 by omega];simpa[FI]using h2⟩
def OC {gs i g}(h:gs[i]?=some g)(k:Nat):(FI gs).set (i*2+1) (BK k)=FI (gs.set i (g.1,k)):=by
 induction gs generalizing i with
 |nil=>simp at h
 |cons x r ih=>
  cases i with
  |zero=>obtain rfl:x=g:=by simpa using h
         rfl
  |succ i=>
   have:=ih (i:=i) (by simpa using h)
   rw[show(i+1)*2+1=i*2+1+1+1 by omega]
   simp[FI,this]
end
end Go.Proofs.YtnicahfnolhgbaaGreatDoor
namespace Eg
section
def tx (L:List Rl)(bk:Bool)(i:Nat):List UInt8:=if bk then(txt L i).reverse else txt L i
end
section
def Uo:List UInt8->List UInt8->Nat
 |a::x,b::y=>if a=b then Uo x y+1 else 0
 |_,_=>0
def TP (L:List Rl):List (Nat×Nat)->Nat
 |[]=>0
 |g::r=>g.2*(2*len L g.1-1)+TP L r
end
end Eg
namespace Sl
open Go Go.RowKit
variable {E:Bp}{n:Nat}{L:Fr}{S H H':List HP}{ty:TypeId}{pos:String}{af:Array Edge}{d:Option Nat}{gd:Option (Nat×Bool)}{K:Value->List HP->Prop}{Q:Exit->Act->World->Prop}
def KU {P}{t e:TypeId}(hu:P.underlying t=some (.slice e))(p:Option Addr)(a b c d:Nat)(w:World):(Op.equal t (.slice p a b) (.slice none c d)).run P w= .ok p.isNone w:=by
 unfold Op.equal;rw[show Op.maxDepth=9999+1 from rfl,Op.equalIn];cases p<;>simp[underlying,program,Sem.run,hu]
def qTy (op:BinOp)(t:TypeId)(x y:Operand)(p q:Option Addr)(a b c d:Nat)(P:Program)(w:World):(eqGuard op t x y (.slice p a b) (.slice q c d)).run P w= .ok () w:=by
 unfold eqGuard;split <;>simp
def Pb {x}{t yt e:TypeId}{p a b s by_ sz zs}(hx:ev L x=some (.slice p a b))(ht:E.tab t=some ⟨.slice e s by_,sz,zs⟩):
  Yl E n L S ⟨d,.binOp .eql t x (.const (.slice none 0 0)) yt,ty,pos,af,gd⟩ (.bool p.isNone):=fun ac w g _=>by
 have hy:ac.eval (.const (.slice none 0 0))= .slice none 0 0:=rfl;simp[execOp,qTy,binOp,KU (fD ht).1,g.ev hx,hy]
def qFu {t e:TypeId}{es by_ sz zs}(ht:E.tab t=some ⟨.slice e es by_,sz,zs⟩)(hk:∀b,K (.slice (BM b) 0 0) (sl (BM b) 0 e es 0 []::H)):
  Ld E n L H ⟨d,.buildSlice t 0 #[],ty,pos,af,gd⟩ K:=fun Q next a w g hn=>by
 obtain⟨hu,j,hj,hs,_⟩:=fD ht
 have hA:(execOp a.eval ⟨d,.buildSlice t 0 #[],ty,pos,af,gd⟩).run E.P w= .ok (.value (.slice (BM w.heap.size) 0 0)) (w.alloc (.cells #[] e)):=by
  simp[execOp,Instr.buildSlice,underlying,program,Sem.run,hu,Go.sizeOf,typeInfo,hj,Instr.fill,newRow,newObj];congr 2;exact xf.1 BF
 unfold Oper.wp;rw[hA,Oper.upon_value];refine hn _ _ _ (hk _) ((g.hp.new _).imp fun k h=>eU (fun k' h'=>?_) h);exact⟨by simp,.inr ⟨_,#[],rfl,h',ai _,av _,by simp,by simp⟩⟩
def gB {x y}{t e:TypeId}{p c m k cc g es by_ sz sz' xs us zs zs' kk H''}(ht:E.tab t=some ⟨.slice e es by_,sz,zs⟩)(he:E.tab e=some ⟨kk,sz',zs'⟩)(hz:(Nat.beq zs'.length es&&Nat.blt 0 es)=true)
  (hx:ev L x=some (.slice p m c)) (hy:ev L y=some (.slice (BM g) k cc)) (hm:CO (sl (BM g) cc e es k us) H H') (hC:CO (sl p c e es m xs) H' H'') (hp:∀u∈us,u.oneCell'=true) (h0:0<k) (hb:(m+k)*by_<=140737488355328) (hD:m+k<=maxLen)
  (hk:∀g' c' m' xs',m'=m+k->xs'=xs++us->K (.slice (BM g') m' c') (sl (BM g') c' e es m' xs'::sl (BM g) cc e es k us::H'')):Ld E n L H ⟨d,.call {callee:= .builtin .append,args:= #[x,y],argTypes:= #[t,t]},ty,pos,af,gd⟩ K:=fun Q next a w G hn=>by
 obtain⟨hu,j,hj,hs,hE⟩:=fD ht;obtain⟨i,z,hi,hJ,hF,hG,_⟩:=fC he;obtain rfl:i=j:=by rw[hi]at hj;simpa using hj
 simp only[ik]at hz;have z1:=mg hz.1;have z2:0<es:=by simpa[zo]using hz.2
 have s1:=G.hp.take hm;have hl:us.length=k*es:=by obtain⟨h1,h2,_,_,hh,_⟩:=s1.hp;exact hh.1
 have s2:CR E.w0 w (sl p c e es m xs::sl (BM g) cc e es k us::H''):=(s1.imp fun _ h=>gK (fG (fun _=>hC.out) h));have hA:∀j u,us[j]?=some u->w.cell? ((⟨g,0,none⟩:Addr).add j)=some u:=fun j u hu=>by rw[addr_add,jh];exact(Ew.slice hu).cell s1
 obtain⟨g',c',w',hr,ho,hH,hI,_⟩:=run_append_lies (P:=E.P) w t ty E.w0.heap.size e i z es by_ hu hi hF hs hE (by rw[<-mo,hG];exact z1) z2 (.slice p m c) m xs s2.owns ⟨g,0,none⟩ k cc us hl hA hp h0 hD hb s2.size _ rfl
 have hB:(execOp a.eval ⟨d,.call {callee:= .builtin .append,args:= #[x,y],argTypes:= #[t,t]},ty,pos,af,gd⟩).run E.P w= .ok (.value (.slice (BM g') (m+k) c')) w':=by
  simp[execOp,resolve,invoke,builtin,G.f.ev hx,G.f.ev hy,hr]
 unfold Oper.wp;rw[hB,Oper.upon_value];exact hn _ _ _ (hk g' c' _ _ O O) (s2.resl ho hH hI)
def UB {ops m S fuel listed}(i j:Nat){d d' op op'}{ty ty':TypeId}{pos pos' af af'}(hi:ops[i]?=some ⟨d,op,ty,pos,af,none⟩)(hj:ops[j]?=some ⟨d',op',ty',pos',af',none⟩)(hr:Region.ready .any ops.toArray listed=[i,j])(hd:Ep n d=true)(hA:Ep n d'=true)
  (h:Ld E n L H ⟨d,op,ty,pos,af,none⟩ (fun v H'=>(∀k,dW H' k->dW S k)/\Ea E ops m S Q fuel (listed.setIfInBounds i true) n (Cj d v L) H')) (h':Ld E n L H ⟨d',op',ty',pos',af',none⟩ (fun v H'=>(∀k,dW H' k->dW S k)/\Ea E ops m S Q fuel (listed.setIfInBounds j true) n (Cj d' v L) H')):Ea E ops m S Q (fuel+1) listed n L H:=fun _ a w g=>
 ⟨fun h0=>(by rw[hr]at h0;cases h0),fun x hx=>by
  have hB:x=i\/x=j:=by rw[hr]at hx;simpa using hx
  rcases hB with rfl|rfl
  ·unfold wpOp;simp only[fA hi,Region.wanted,if_true];exact .inl (h _ _ a w g (fun v H' w' hk hs=>⟨fun _=>hs.imp hk.1,hk.2 hk.1 _ _ ⟨g.f.put d v hd,hs⟩⟩))
  unfold wpOp;simp only[fA hj,Region.wanted,if_true];exact .inl (h' _ _ a w g (fun v H' w' hk hs=>⟨fun _=>hs.imp hk.1,hk.2 hk.1 _ _ ⟨g.f.put d' v hA,hs⟩⟩))⟩
def MZ {x y}{xt yt:TypeId}{i j kd}(hx:ev L x=some (.int kd i))(hy:ev L y=some (.int kd j)):
  Yl E n L S ⟨d,.binOp .and xt x y yt,ty,pos,af,gd⟩ (.int kd (kd.wrap (BitVec.ofInt kd.bits i&&&BitVec.ofInt kd.bits j).toNat)):=fun a w g _=>by
 simp[execOp,eqGuard,binOp,Op.intBits,g.ev hx,g.ev hy]
def WE (E:Bp)(c:Code)(Q:Exit->Act->World->Prop)(m:Nat)(n:Nat)(L:Fr)(H:List HP):Prop:=∀a w,Dz E n L H a w->Code.rounds E.P c Q m a w
def mV (m:Nat){c}(h:WE E c Q m n L H):WP E (.loop c) Q n L H:=fun a w g=>wp_loop_rounds m (h a w g)
def Rn {m c}(h:WP E c (Exit.then (Code.rounds E.P c Q m) Q) n L H):WE E c Q (m+1) n L H:=fun a w g=>h a w g
def WF {m c}(h:WE E c Q m n L H):AT E (Exit.then (Code.rounds E.P c Q m) Q) .normal n L H:=h
def UN {x y}{t e:TypeId}{len sz sz' k i kk zs zs' cs v}(h:ev L x=some (.agg ⟨cs⟩))(hy:ev L y=some (.int k i))(ht:E.tab t=some ⟨.array len e 1,sz,zs⟩)(he:E.tab e=some ⟨kk,sz',zs'⟩)(hk:kk.agg=false)
  (h0:0<=i) (h1:i<len) (hv:cs[i.toNat]?=some v):Yl E n L S ⟨d,.index t x y,ty,pos,af,gd⟩ v:=fun a w g _=>by
 obtain⟨hu,j,hj,hs⟩:=XQ ht;simp[execOp,Instr.index,asIntOf,underlying,program,Sem.run,hu,g.ev h,g.ev hy,h0,h1,Go.sizeOf,typeInfo,hj,hs,part,nD he,hk,hv]
def qSq {t e:TypeId}{len s ps vs sz zs cs}(ht:E.tab t=some ⟨.array len e s,sz,zs⟩)(hp:evP L ps=some vs)(hf:Rm (fun i=>some (i*s,s)) zs vs=some cs):
  Yl E n L S ⟨d,.build t ps.toArray,ty,pos,af,gd⟩ (.agg ⟨cs⟩):=fun a w g _=>by
 obtain⟨z,hz,hc⟩:=VK ht w;obtain⟨hu,j,hj,hs⟩:=XQ ht;have hB:=g.evP hp;have hA:=VQ (fun i=>some (i*s,s)) vs zs cs hf;have e':z.cells=⟨zs⟩:=by rw[<-hc]
 have hC:(ps.toArray.map fun x=>match x with |(i,x)=>(i,a.eval x)).toList=vs:=by simpa using hB
 simp only[execOp,Instr.build,Sem.run_bind,hz,Result.andThen_ok,underlying,program,Sem.run,hu,Go.sizeOf,typeInfo,hj,hs,e',hC,Sem.run_pure];rw[hA];rfl
end Sl
namespace Eg
def Per (T:List UInt8)(d:Nat):Prop:=Uo T (T.drop d)=T.length-d
instance (T:List UInt8)(d:Nat):Decidable (Per T d):=inferInstanceAs (Decidable (_=_))
def seg (T:List UInt8)(a b:Nat):List UInt8:=(T.take b).drop a
def Hm (T:List UInt8)(p d:Nat):Nat:=Uo (T.drop p) (T.drop (p+d))
end Eg
namespace Go.Proofs.YtnicahfnolhgbaaGreatDoor
open Go Go.RowKit Sl Eg
set_option maxRecDepth 10000
variable {E:Bp}{Es:List Bj}{pp tb s most:Nat}
def Ki (L:List Rl)(i:Nat):Prop:=i<=L.length/\0<=Bt L i
def VO (hE:BP E)(hB:Ca E.w0){i:Nat}(hg:Ki (BO Es) i):Ct E 182 [uPt pp,BK i] [cells pp [uPt s,uPt tb] 122,BV tb s (BO Es),bR s most Es] (fun v Q=>v= .tuple #[BL (Bt (BO Es) i),.nilIface]/\Q=[cells pp [uPt s,uPt tb] 122,BV tb s (BO Es),bR s most Es]):=by
 cases i with
 |zero=>exact Nb hE
 |succ i=>exact Qr hE hB (by have:=hg.1;rw[bQ]at this;omega) hg.2
