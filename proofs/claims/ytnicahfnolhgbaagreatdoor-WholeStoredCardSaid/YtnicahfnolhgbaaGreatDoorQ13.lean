import Derived.Test.YtnicahfnolhgbaaGreatDoorQ12
import Derived.Laws.IdiomStrings
import Derived.Laws.Small
import Derived.Laws.Strings
set_option linter.all false
set_option maxHeartbeats 1000000
namespace Go.Proofs.YtnicahfnolhgbaaGreatDoor
open Go Go.RowKit Sl Eg
set_option maxRecDepth 10000
variable {E:Bp}
def PS {a i x}(h:a[i]?=some x)(k:Nat)(hk:k=i):(⟨⟨a⟩⟩:ByteArray)[k]?=some x:=by
 subst hk;obtain⟨h1,h2⟩:=ae.1 h;rw[getElem?_pos (⟨⟨a⟩⟩:ByteArray) k (by show k<a.length;exact h1)];exact au some h2
def lK {α:Type}{l:List α}{i:Nat}{x:α}(hx:l[i]?=some x):l.drop i=x::l.drop (i+1):=by
 obtain⟨h1,e1⟩:=ae.1 hx;rw[mr h1,e1]
def PM (a:List UInt8):(⟨⟨a⟩⟩:ByteArray).size=a.length:=rfl
end Go.Proofs.YtnicahfnolhgbaaGreatDoor
namespace Sl
section
open Go Go.RowKit
variable {E:Bp}{n:Nat}{L:Fr}{S:List HP}{ty:TypeId}{pos:String}{af:Array Edge}{d:Option Nat}{gd:Option (Nat×Bool)}
def xN {x}{t:TypeId}{bs sz zs lo hi l h}(hx:ev L x=some (.string bs))(ht:E.tab t=some ⟨.string,sz,zs⟩)
  (hC:match lo with |none=>l=0|some y=>∃k,ev L y=some (.int k (l:Nat))) (hA:match hi with |none=>h=bs.size|some y=>∃k,ev L y=some (.int k (h:Nat))) (h1:l<=h) (h2:h<=bs.size):
  Yl E n L S ⟨d,.slice t x lo hi none,ty,pos,af,gd⟩ (.string (bs.extract l h)):=fun a w g _=>by
 obtain⟨i',z,_,_,_,_,hk⟩:=fC ht;simp only[TK.holds]at hk
 have hu:E.P.underlying t=some .string:=by
  split at hk
  ·assumption
  cases hk
 have hB:∀(v:Nat)(y:Nat)(c:BoundsCode)(k:IntKind),v<=y->(Instr.sliceBound (.int k v) y c).run E.P w= .ok v w:=by
  intro v y c k hv;simp[Instr.sliceBound,asIntOf,hv]
 cases lo with
 |none=>
  subst hC
  cases hi with
  |none=>
   subst hA
   simp[execOp,Instr.sliceAt,Instr.slice,Instr.sliceBounds,underlying,program,Sem.run,hu,g.ev hx]
  |some y=>
   obtain⟨k,hy⟩:=hA
   simp[execOp,Instr.sliceAt,Instr.slice,Instr.sliceBounds,underlying,program,Sem.run,hu,g.ev hx,g.ev hy,hB _ _ _ _ h2]
 |some z=>
  obtain⟨k',hz⟩:=hC
  cases hi with
  |none=>
   subst hA
   simp[execOp,Instr.sliceAt,Instr.slice,Instr.sliceBounds,underlying,program,Sem.run,hu,g.ev hx,g.ev hz,hB _ _ _ _ h1]
  |some y=>
   obtain⟨k,hy⟩:=hA
   simp[execOp,Instr.sliceAt,Instr.slice,Instr.sliceBounds,underlying,program,Sem.run,hu,g.ev hx,g.ev hz,g.ev hy,hB _ _ _ _ h1,hB _ _ _ _ h2]
def zZ (a:List UInt8)(l h:Nat)(hh:h<=a.length):(⟨⟨a⟩⟩:ByteArray).extract l h=⟨⟨(a.take h).drop l⟩⟩:=by
 apply ByteArray.ext;apply xf.1;rw[ByteArray.data_extract];simp[List.extract_eq_take_drop,Am]
end
section
open Go Go.RowKit
variable {E:Bp}{n:Nat}{L:Fr}{S H H':List HP}{ty:TypeId}{pos:String}{af:Array Edge}{d:Option Nat}{gd:Option (Nat×Bool)}{K:Value->List HP->Prop}{Q:Exit->Act->World->Prop}
def qUl {t:TypeId}(hk:∀b,K (.map (some b)) (pt b (.map #[] 0)::H)):Ld E n L H ⟨d,.makeMap t none,ty,pos,af,gd⟩ K:=fun Q next a w G hn=>by
 have hA:(execOp a.eval ⟨d,.makeMap t none,ty,pos,af,gd⟩).run E.P w= .ok (.value (.map (some w.heap.size))) (w.alloc (.map #[] 0)):=by
  simp[execOp,Instr.makeMap]
 unfold Oper.wp;rw[hA,Oper.upon_value];exact hn _ _ _ (hk _) (G.hp.new _)
def SG {e}(hH:∀w,CR E.w0 w H->CR E.w0 w H') (h:AT E Q e n L H'):AT E Q e n L H:=fun a w g=>h a w ⟨g.f,hH w g.hp⟩
end
end Sl
namespace Go.Proofs.YtnicahfnolhgbaaGreatDoor
open Go Go.RowKit Sl Eg
set_option maxRecDepth 10000
variable {E:Bp}
def MV:Wf []:=⟨fun i r h=>by simp at h,fun i j r h=>by simp at h,fun i=>by cases i<;>simp[len,txt,ED,tab],by simp⟩
def zAt {w0 w H s bm most}(hm:most<=fJ)(h:CR w0 w (cells s [BL most,.slice none 0 0,.map (some bm)] 150::pt bm (.map #[] 0)::H)):CR w0 w (bR s most []::H):=by
 have h1:=(h.ptr).1;have h2:=(h.tail.ptr).1;have hs:Bb w s most [] (.slice none 0 0) bm:=⟨h1,⟨O,.inl ⟨O,O⟩⟩,h2,MV,fun i x h=>by simp at h,hm,av _,fun i x h=>by simp at h⟩;refine h.imp fun k hk=>mK (ps:=[cells s [BL most,.slice none 0 0,.map (some bm)] 150,pt bm (.map #[] 0)]) (fun j hj=>?_) hk
 obtain⟨k1,k2,dj,rfl,e1,k3,k4,dj2,rfl,e2,_⟩:=hj;refine⟨w,_,bm,hs,fun b hb=>?_⟩;have e1':k1 s=_:=e1;have e2':k3 bm=_:=e2;rcases hb with rfl|rfl|hb
 ·rw[h1];simp[join,e1']
 ·rw[h2]
  have:k1 b=none:=by
   rcases dj b with h| h
   ·exact h
   simp[join,e2']at h
  simp[join,this,e2']
 cases hb
def NW (hE:BP E){m lo hi}(h1:¬m<lo)(h2:¬hi<m):Ct E 46 [BL m,BL lo,BL hi] [] (fun v Q=>v= BL m/\Q=[]):=by
 apply rG;intro w;rw[hE.P];refine(qPo m lo hi w).mono ?_;rintro e w'⟨e1,e2⟩;rw[if_neg h1,if_neg h2]at e1;exact⟨e1,e2⟩
def jE (hE:BP E){most}(hm:most<=fJ):Ct E 27 [BK most] [] (fun v Q=>∃s,v=uPt s/\Q=[bR s most []]):=by
 have hA:fJ=1048576:=rfl;have c1:¬((most:Nat):Int)<0:=oO;have c2:¬(1048576:Int)<((most:Nat):Int):=oO;refine bO (hE.fn Tryz.func27) O O O (fun R=>?_);simp only[dS,uV,uW];refine Br ?_;refine BH (NW hE c1 c2) O ?_;refine uU (qUl (fun b5=>?_));refine Bv ?_;refine uU (gN O (fun b7=>?_));refine Bz ?_;refine SG (H':=bR b7 most []::[R]) (fun w h=>zAt (bm:=b5) hm (h.imp ?_)) ?_
 ·exact uI
 exact uZ O (.tmp O .nil) ⟨b7,O,O⟩
end Go.Proofs.YtnicahfnolhgbaaGreatDoor
namespace Sl
section
open Go Go.RowKit
variable {E:Bp}{n:Nat}{L:Fr}{S H H':List HP}{ty:TypeId}{pos:String}{af:Array Edge}{d:Option Nat}{gd:Option (Nat×Bool)}{K:Value->List HP->Prop}{Q:Exit->Act->World->Prop}
def Xe {x}{src dst e:TypeId}{bs s by_ sz sz1 sz2 zs zs1 zs2}(hx:ev L x=some (BN bs))(hs:E.tab src=some ⟨.string,sz,zs⟩)(ht:E.tab dst=some ⟨.slice e s by_,sz1,zs1⟩)(he:E.tab e=some ⟨.int .u8,sz2,zs2⟩)
  (hk:∀g c,K (.slice (BM g) bs.length c) (ro g (bs.map fun b=>Value.int .u8 (b.toNat:Nat))::H)):Ld E n L H ⟨d,.convert src dst x,ty,pos,af,gd⟩ K:=fun Q next a w G hn=>by
 obtain⟨i',z,_,_,_,_,hA⟩:=fC hs;simp only[TK.holds]at hA
 have hu:E.P.underlying src=some .string:=by
  split at hA
  ·assumption
  cases hA
 obtain⟨hd,_⟩:=fD ht;have hr:=run_bytes_of_string (P:=E.P) w src dst e ⟨⟨bs⟩⟩ hu hd (nJ he)
 have hB:(execOp a.eval ⟨d,.convert src dst x,ty,pos,af,gd⟩).run E.P w= .ok (.value (.slice (BM w.heap.size) bs.length (grownCap w bs.length 0 e))) (w.drew.alloc (.cells (bytesRow ⟨⟨bs⟩⟩ (grownCap w bs.length 0 e)) e ((bytesRow ⟨⟨bs⟩⟩ (grownCap w bs.length 0 e)).size,(bytesRow ⟨⟨bs⟩⟩ (grownCap w bs.length 0 e)).size+1))):=by
  have hC:(convert src dst (BN bs)).run E.P w= .ok (.slice (BM w.heap.size) bs.length (grownCap w bs.length 0 e)) (w.drew.alloc (.cells (bytesRow ⟨⟨bs⟩⟩ (grownCap w bs.length 0 e)) e ((bytesRow ⟨⟨bs⟩⟩ (grownCap w bs.length 0 e)).size,(bytesRow ⟨⟨bs⟩⟩ (grownCap w bs.length 0 e)).size+1))):=hr;simp only[execOp,G.f.ev hx,Sem.run_bind,Sem.run_map,hC];simp[hC]
 unfold Oper.wp;rw[hB,Oper.upon_value];refine hn _ _ _ (hk _ _) ?_;refine(G.hp.drew.new _).imp fun _=>eU fun k h=>⟨_,_,_,h,fun i v hv=>?_⟩
 have hi:i<bs.length:=by have:=(ae.1 hv).1;simpa using this
 unfold bytesRow;rw[wy (by simpa using hi)];simpa using hv
end
section
open Go Go.RowKit
variable {E:Bp}{n:Nat}{L:Fr}{S H H':List HP}{ty:TypeId}{pos:String}{af:Array Edge}{d:Option Nat}{gd:Option (Nat×Bool)}{K:Value->List HP->Prop}{Q:Exit->Act->World->Prop}
def qYu {x}{t e bt:TypeId}{us g a c s by_ sz1 sz2 zs1 zs2}(hx:ev L x=some (.slice (BM g) a c))(ht:E.tab t=some ⟨.slice e s by_,sz1,zs1⟩)(he:E.tab e=some ⟨.int .u8,sz2,zs2⟩)(hm:CO (cells g us bt) H H')
  (hk:K (.slice (BM g) a c) (ro g us::H')):Ld E n L H ⟨d,.convert t t x,ty,pos,af,gd⟩ K:=fun Q next A w G hn=>by
 obtain⟨hd,_⟩:=fD ht;have s1:=G.hp.take hm;have hp:=(s1.ptr).1;have hB:w.shape? g=some (bt,us.length):=by unfold World.shape?;rw[hp];rfl
 have hA:(execOp A.eval ⟨d,.convert t t x,ty,pos,af,gd⟩).run E.P w= .ok (.value (.slice (BM g) a c)) (w.freeze ⟨g,us.length,none⟩ 1):=by
  simp[execOp,convert,underlying,program,Sem.run,hd,nJ he,G.f.ev hx,markStringish,shape,freeze,hB]
 unfold Oper.wp;rw[hA,Oper.upon_value];refine hn _ _ _ hk ?_;have hw:CR E.w0 (w.freeze ⟨g,us.length,none⟩ 1) (pt g (.cells ⟨us⟩ bt (us.length,us.length+1))::H'):=CR.write s1 ⟨O,O,O,by simp[World.freeze]⟩ (by simp[World.freeze,qj,hp]) (fun k hk=>by simp[World.freeze,qj,Ne.symm hk]);exact hw.imp fun _=>eU fun k h=>⟨_,_,_,h,fun i v hv=>by simpa using hv⟩
end
section
open Go Go.RowKit
variable {E:Bp}{n:Nat}{L:Fr}{S:List HP}{ty:TypeId}{pos:String}{af:Array Edge}{d:Option Nat}{gd:Option (Nat×Bool)}
def Mj {x y}{xt yt:TypeId}{a b}(hx:ev L x=some (BN a))(hy:ev L y=some (BN b)):
  Yl E n L S ⟨d,.binOp .eql xt x y yt,ty,pos,af,gd⟩ (.bool (decide (a=b))):=fun o w g _=>by
 simp[execOp,eqGuard,binOp_string_eql,ByteArray.toList_eq,g.ev hx,g.ev hy,pure];exact uu.2 BF
def Mr {x y}{xt yt:TypeId}{a b}(hx:ev L x=some (BN a))(hy:ev L y=some (BN b)):
  Yl E n L S ⟨d,.binOp .neq xt x y yt,ty,pos,af,gd⟩ (.bool (decide (¬a=b))):=fun o w g _=>by
 simp[execOp,eqGuard,binOp_string_neq,ByteArray.toList_eq,g.ev hx,g.ev hy,pure];exact uu.2 BF
variable {H:List HP}{Q:Exit->Act->World->Prop}
def Wx {ops S fuel listed}(i:Nat){d op}{ty:TypeId}{pos af j t b}(hi:ops[i]?=some ⟨d,op,ty,pos,af,some (j,b)⟩)
  (hj:(ops[j]?).bind (·.dst)=some t) (hl:DJ L t=some (.bool b)) (hr:Region.ready .any ops.toArray listed=[i]) (hd:Ep n d=true)
  (h:Ld E n L H ⟨d,op,ty,pos,af,some (j,b)⟩ (fun v H'=>(∀k,dW H' k->dW S k)/\FB E ops S Q fuel (listed.setIfInBounds i true) n (Cj d v L) H')):FB E ops S Q (fuel+1) listed n L H:=fun _ a w g=>
 wpAnyH_all hr BF fun j' hA=>by
  obtain rfl:j'=i:=by simpa using hA
  have hB:(ops.toArray[j]?).bind (·.dst)=some t:=by simpa using hj
  have hC:yielded ops.toArray a.tmps j=some b:=by simp only[yielded,hB,AZ,g.f.fr t _ hl]
  unfold wpOp;simp only[fA hi,Region.wanted,hC,beq_self_eq_true,if_true];exact .inl (h _ _ a w g (fun v H' w' hk hs=>⟨hs.imp hk.1,hk.2 hk.1 _ _ ⟨g.f.put d v hd,hs⟩⟩))
def qXn {ops S fuel listed}(t:Nat){p}[Decidable p](hl:DJ L t=some (.bool (decide p)))(h1:p->FB E ops S Q fuel listed n ((t,.bool true)::L) H)(h2:¬p->FB E ops S Q fuel listed n ((t,.bool false)::L) H):FB E ops S Q fuel listed n L H:=fun hS a w g=>by
 by_cases hp:p
 ·exact h1 hp hS a w ⟨g.f.eq hl (by simp[hp]),g.hp⟩
 exact h2 hp hS a w ⟨g.f.eq hl (by simp[hp]),g.hp⟩
end
end Sl
namespace Go.Proofs.YtnicahfnolhgbaaGreatDoor
open Go Go.RowKit Sl Eg
set_option maxRecDepth 10000
end Go.Proofs.YtnicahfnolhgbaaGreatDoor
namespace Sl
section
open Go Go.RowKit
variable {E:Bp}{n:Nat}{L:Fr}{S S' H H':List HP}{ty:TypeId}{pos:String}{af:Array Edge}{d:Option Nat}{gd:Option (Nat×Bool)}{K:Value->List HP->Prop}{Q:Exit->Act->World->Prop}
def qSh {t:TypeId}{sz zs}(h:E.tab t=some ⟨.bool,sz,zs⟩):E.P.underlying t=some .bool:=by
 obtain⟨i',z,_,_,_,_,hk⟩:=fC h;simp only[TK.holds]at hk;split at hk
 ·assumption
 cases hk
def zBx {x y}{t yt:TypeId}{a b sz zs}(hx:ev L x=some (.bool a))(hy:ev L y=some (.bool b))(ht:E.tab t=some ⟨.bool,sz,zs⟩):
  Yl E n L S ⟨d,.binOp .eql t x y yt,ty,pos,af,gd⟩ (.bool (decide (a=b))):=fun o w g _=>by
 have hu:=qSh ht;have h1:(eqGuard .eql t x y (.bool a) (.bool b)).run E.P w= .ok () w:=by unfold eqGuard;simp
 have h2:binOp .eql t (.bool a) (.bool b)=(do pure (.bool (<-Op.equal t (.bool a) (.bool b)))):=rfl;have h3:=run_equal_bool (P:=E.P) w t a b hu;simp[execOp,h1,h2,h3,g.ev hx,g.ev hy];exact uu.2 BF
def Xf {x f caps args}{ts:Array TypeId}{vs Pre}{Φ:Value->List HP->Prop}(hc:Ct E f (vs++caps) Pre Φ)(hx:ev L x=some (.func (.func f) #[] ⟨caps⟩))(ha:evs L args=some vs)(hf:Fy E.P f=true)(hs:IW Pre H H')(hk:∀v Qs,Φ v Qs->K v (Qs++H')):
  Ld E n L H ⟨d,.call {callee:= .value x,args:=args.toArray,argTypes:=ts},ty,pos,af,gd⟩ K:=fun Q next a w g hn=>by
 have hA:(execOp a.eval ⟨d,.call {callee:= .value x,args:=args.toArray,argTypes:=ts},ty,pos,af,gd⟩).run E.P w= .ok (.enter f ⟨vs++caps⟩) w:=by
  have h1:=g.f.evs ha;have h2:=g.f.ev hx;have h3:(⟨vs⟩:Array Value)++(⟨caps⟩:Array Value)=⟨vs++caps⟩:=by simp
  simp[execOp,resolve,Deferred.ofValue,invoke,h2,tY hf,h1,h3]
 unfold Oper.wp;rw[hA,Oper.upon_enter];refine(hc (dW H') w ((g.hp.sub hs).imp fun _=>lD)).mono ?_;rintro e w'⟨v,Qs,rfl,hΦ,hB⟩;exact hn v _ w' (hk v Qs hΦ) (hB.imp fun _=>qX)
def qVh {f caps vs}(hc:evs L caps=some vs):Yl E n L S ⟨d,.makeFunc (.func f) #[] caps.toArray,ty,pos,af,gd⟩ (.func (.func f) #[] ⟨vs⟩):=fun a w g _=>by
 have h1:=g.evs hc;simp[execOp,Instr.makeFunc,h1]
end
section
open Go Go.RowKit
variable {E:Bp}{n:Nat}{L:Fr}{S S' H H' H'':List HP}{ty:TypeId}{pos:String}{af:Array Edge}{d:Option Nat}{gd:Option (Nat×Bool)}{K:Value->List HP->Prop}{Q:Exit->Act->World->Prop}
def Cv (w0:World)(a:Option Addr)(vs:List Value)(q:HP):Prop:=vs≠[]->∃g o,a=some ⟨g,o,none⟩/\∀k,q k->FN w0 g o vs k
def qPl {x y}{t e:TypeId}{p c m cc g o by_ sz sz' xs us zs zs' kk q}(ht:E.tab t=some ⟨.slice e 1 by_,sz,zs⟩)(he:E.tab e=some ⟨kk,sz',zs'⟩)(hz:Nat.beq zs'.length 1=true)
  (hx:ev L x=some (.slice p m c)) (hy:ev L y=some (.slice (some ⟨g,o,none⟩) us.length cc)) (hq:∀k,q k->FN E.w0 g o us k) (hm:CO q H H') (hC:CO (sl p c e 1 m xs) H' H'') (hp:∀u∈us,u.oneCell'=true) (h0:0<us.length) (hb:(m+us.length)*by_<=140737488355328) (hD:m+us.length<=maxLen)
  (hk:∀g' c' m' xs',m'=m+us.length->xs'=xs++us->K (.slice (BM g') m' c') (sl (BM g') c' e 1 m' xs'::q::H'')):Ld E n L H ⟨d,.call {callee:= .builtin .append,args:= #[x,y],argTypes:= #[t,t]},ty,pos,af,gd⟩ K:=fun Q next a w G hn=>by
 obtain⟨hu,j,hj,hs,hE⟩:=fD ht;obtain⟨i,z,hi,hJ,hF,hG,_⟩:=fC he;obtain rfl:i=j:=by rw[hi]at hj;simpa using hj
 have z1:=mg hz;have s1:=G.hp.take hm;have s2:CR E.w0 w (sl p c e 1 m xs::q::H''):=(s1.imp fun _ h=>gK (fG (fun _=>hC.out) h));have hA:∀j u,us[j]?=some u->w.cell? ((⟨g,o,none⟩:Addr).add j)=some u:=fun j u hu=>by rw[addr_add];exact Tt hq s1 hu
 obtain⟨g',c',w',hr,ho,hH,hI,_⟩:=run_append_lies (P:=E.P) w t ty E.w0.heap.size e i z 1 by_ hu hi hF hs hE (by rw[<-mo,hG];exact z1) oO (.slice p m c) m xs s2.owns ⟨g,o,none⟩ us.length cc us oO hA hp h0 hD hb s2.size _ rfl
 have hB:(execOp a.eval ⟨d,.call {callee:= .builtin .append,args:= #[x,y],argTypes:= #[t,t]},ty,pos,af,gd⟩).run E.P w= .ok (.value (.slice (BM g') (m+us.length) c')) w':=by
  simp[execOp,resolve,invoke,builtin,G.f.ev hx,G.f.ev hy,hr]
 unfold Oper.wp;rw[hB,Oper.upon_value];exact hn _ _ _ (hk g' c' _ _ O O) (s2.resl ho hH hI)
def qFt {x y}{t e:TypeId}{p a' c m cc es by_ sz zs xs}(ht:E.tab t=some ⟨.slice e es by_,sz,zs⟩)
  (hx:ev L x=some (.slice p m c)) (hy:ev L y=some (.slice a' 0 cc)) (hm:CO (sl p c e es m xs) H H') (hk:K (.slice p m c) H):Ld E n L H ⟨d,.call {callee:= .builtin .append,args:= #[x,y],argTypes:= #[t,t]},ty,pos,af,gd⟩ K:=fun Q next a w G hn=>by
 obtain⟨hu,j,hj,hs,hC⟩:=fD ht;obtain⟨h1,h2,_,_,hh,_⟩:=(G.hp.take hm).hp;have hB:=(lX hh).1
 have hA:(execOp a.eval ⟨d,.call {callee:= .builtin .append,args:= #[x,y],argTypes:= #[t,t]},ty,pos,af,gd⟩).run E.P w= .ok (.value (.slice p m c)) w:=by
  cases p<;>cases a'<;>simp[execOp,resolve,invoke,builtin,G.f.ev hx,G.f.ev hy,Builtin.append_,underlying,program,Sem.run,hu,Go.sizeOf,typeInfo,hj,Builtin.lenOf,Builtin.firstCells,hB,storeCells,loadCells,loadCellsFrom]
 unfold Oper.wp;rw[hA,Oper.upon_value];exact hn _ _ _ hk G.hp
def jF {x y}{t e:TypeId}{p a c m k cc by_ sz sz' xs us zs zs' kk q}(ht:E.tab t=some ⟨.slice e 1 by_,sz,zs⟩)(he:E.tab e=some ⟨kk,sz',zs'⟩)(hz:Nat.beq zs'.length 1=true)
  (hx:ev L x=some (.slice p m c)) (hy:ev L y=some (.slice a k cc)) (hB:k=us.length) (hq:Cv E.w0 a us q) (hm:CO q H H') (hA:CO (sl p c e 1 m xs) H' H'') (hp:∀u∈us,u.oneCell'=true) (hb:(m+us.length)*by_<=140737488355328) (hC:m+us.length<=maxLen)
  (hk:∀p' c' m' xs',m'=m+us.length->xs'=xs++us->K (.slice p' m' c') (sl p' c' e 1 m' xs'::q::H'')):Ld E n L H ⟨d,.call {callee:= .builtin .append,args:= #[x,y],argTypes:= #[t,t]},ty,pos,af,gd⟩ K:=by
 subst hB;rcases jo us.length with h| h
 ·obtain rfl:=dw h;have key:Ld E n L (sl p c e 1 m xs::q::H'') ⟨d,.call {callee:= .builtin .append,args:= #[x,y],argTypes:= #[t,t]},ty,pos,af,gd⟩ K:=qFt ht hx hy CO.here (hk p c m xs BF BF);exact fun Q next a w G hn=>key Q next a w ⟨G.f,G.hp.imp fun _ s=>gK (fG (fun _=>hA.out) (hm.out s))⟩ hn
 obtain⟨g,o,rfl,hD⟩:=hq (by rintro rfl;simp at h);exact qPl ht he hz hx hy hD hm hA hp h hb hC (fun g' c'=>hk (BM g') c')
end
end Sl
