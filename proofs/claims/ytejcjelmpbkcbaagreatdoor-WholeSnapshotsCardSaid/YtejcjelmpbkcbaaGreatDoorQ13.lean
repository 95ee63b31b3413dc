import Derived.Test.YtejcjelmpbkcbaaGreatDoorQ12
import Derived.Laws.IdiomStrings
import Derived.Laws.Small
import Derived.Laws.Strings
set_option linter.all false
set_option maxHeartbeats 1000000
namespace Go.Proofs.YtejcjelmpbkcbaaGreatDoor
open Go Go.RowKit Sl Eg
set_option maxRecDepth 10000
variable {E:Env}
def str_get {a:List UInt8}{i:Nat}{x:UInt8}(h:a[i]?=some x)(k:Nat)(hk:k=i):(⟨⟨a⟩⟩:ByteArray)[k]?=some x:=by
 subst hk;obtain⟨h1,h2⟩:=ae.1 h;rw[getElem?_pos (⟨⟨a⟩⟩:ByteArray) k (by show k<a.length;exact h1)];exact bf some h2
def qPv {α:Type}{l:List α}{i:Nat}{x:α}(hx:l[i]?=some x):l.drop i=x::l.drop (i+1):=by
 obtain⟨h1,e1⟩:=ae.1 hx;rw[kz h1,e1]
def size_mk (a:List UInt8):(⟨⟨a⟩⟩:ByteArray).size=a.length:=rfl
end Go.Proofs.YtejcjelmpbkcbaaGreatDoor
namespace Sl
section
open Go Go.RowKit
variable {E:Env}{n:Nat}{L:Fr}{S:List HP}{ty:TypeId}{pos:String}{af:Array Edge}{d:Option Nat}{gd:Option (Nat×Bool)}
def wO {x:Operand}{t:TypeId}{bs:ByteArray}{sz:Nat}{zs:List Value}{lo hi:Option Operand}{l h:Nat}(hx:ev L x=some (.string bs))(ht:E.tab t=some ⟨.string,sz,zs⟩)
  (hlo:match lo with |none=>l=0|some y=>∃k,ev L y=some (.int k (l:Nat))) (hhi:match hi with |none=>h=bs.size|some y=>∃k,ev L y=some (.int k (h:Nat))) (h1:l≤h) (h2:h≤bs.size):
  Yl E n L S ⟨d,.slice t x lo hi none,ty,pos,af,gd⟩ (.string (bs.extract l h)):=fun a w g _=>by
 obtain⟨i',z,_,_,_,_,hk⟩:=fH ht;simp only[TK.holds]at hk
 have hu:E.P.underlying t=some .string:=by
  split at hk
  ·assumption
  cases hk
 have hB:∀(v:Nat)(y:Nat)(c:BoundsCode)(k:IntKind),v≤y→(Instr.sliceBound (.int k v) y c).run E.P w= .ok v w:=by
  intro v y c k hv;simp[Instr.sliceBound,asIntOf,hv]
 cases lo with
 |none=>
  subst hlo
  cases hi with
  |none=>
   subst hhi
   simp[execOp,Instr.sliceAt,Instr.slice,Instr.sliceBounds,underlying,program,Sem.run,hu,g.ev hx]
  |some y=>
   obtain⟨k,hy⟩:=hhi
   simp[execOp,Instr.sliceAt,Instr.slice,Instr.sliceBounds,underlying,program,Sem.run,hu,g.ev hx,g.ev hy,hB _ _ _ _ h2]
 |some z=>
  obtain⟨k',hz⟩:=hlo
  cases hi with
  |none=>
   subst hhi
   simp[execOp,Instr.sliceAt,Instr.slice,Instr.sliceBounds,underlying,program,Sem.run,hu,g.ev hx,g.ev hz,hB _ _ _ _ h1]
  |some y=>
   obtain⟨k,hy⟩:=hhi
   simp[execOp,Instr.sliceAt,Instr.slice,Instr.sliceBounds,underlying,program,Sem.run,hu,g.ev hx,g.ev hz,g.ev hy,hB _ _ _ _ h1,hB _ _ _ _ h2]
def yY (a:List UInt8)(l h:Nat)(hh:h≤a.length):(⟨⟨a⟩⟩:ByteArray).extract l h=⟨⟨(a.take h).drop l⟩⟩:=by
 apply ByteArray.ext;apply yz.1;rw[ByteArray.data_extract];simp[List.extract_eq_take_drop,zw]
end
section
open Go Go.RowKit
variable {E:Env}{n:Nat}{L:Fr}{S H H':List HP}{ty:TypeId}{pos:String}{af:Array Edge}{d:Option Nat}{gd:Option (Nat×Bool)}{K:Value→List HP→Prop}{Q:Exit→Act→World→Prop}
def qSu {t:TypeId}(hk:∀b,K (.map (some b)) (pt b (.map #[] 0)::H)):Ld E n L H ⟨d,.makeMap t none,ty,pos,af,gd⟩ K:=fun Q next a w G hn=>by
 have hrun:(execOp a.eval ⟨d,.makeMap t none,ty,pos,af,gd⟩).run E.P w= .ok (.value (.map (some w.heap.size))) (w.alloc (.map #[] 0)):=by
  simp[execOp,Instr.makeMap]
 unfold Oper.wp;rw[hrun,Oper.upon_value];exact hn _ _ _ (hk _) (G.hp.new _)
def wa_sat {e:Exit}(hH:∀w,Sat E.w0 w H→Sat E.w0 w H') (h:AT E Q e n L H'):AT E Q e n L H:=fun a w g=>h a w ⟨g.f,hH w g.hp⟩
end
end Sl
namespace Go.Proofs.YtejcjelmpbkcbaaGreatDoor
open Go Go.RowKit Sl Eg
set_option maxRecDepth 10000
variable {E:Env}
def wf_nil:Wf []:=⟨fun i r h=>by simp at h,fun i j r h=>by simp at h,fun i=>by cases i<;>simp[len,txt,nth,tab],by simp⟩
def qYs {w0 w:World}{H:List HP}{s bm most:Nat}(hm:most≤fP)(h:Sat w0 w (cells s [.int .i64 most,.slice none 0 0,.map (some bm)] 195::pt bm (.map #[] 0)::H)):Sat w0 w (bR s most []::H):=by
 have h1:=(h.ptr).1;have h2:=(h.tail.ptr).1;have hs:StoreAt w s most [] (.slice none 0 0) bm:=⟨h1,⟨O,.inl ⟨O,O⟩⟩,h2,wf_nil,fun i x h=>by simp at h,hm,au _,fun i x h=>by simp at h⟩;refine h.imp fun k hk=>jE (ps:=[cells s [.int .i64 most,.slice none 0 0,.map (some bm)] 195,pt bm (.map #[] 0)]) (fun j hj=>?_) hk
 obtain⟨k1,k2,dj,rfl,e1,k3,k4,dj2,rfl,e2,_⟩:=hj;refine⟨w,_,bm,hs,fun b hb=>?_⟩;have e1':k1 s=_:=e1;have e2':k3 bm=_:=e2;rcases hb with rfl|rfl|hb
 ·rw[h1];simp[join,e1']
 ·rw[h2]
  have:k1 b=none:=by
   rcases dj b with h| h
   ·exact h
   simp[join,e2']at h
  simp[join,this,e2']
 cases hb
def ct_Clip (hE:Seat E){m lo hi:Int}(h1:¬m<lo)(h2:¬hi<m):Ct E 79 [.int .i64 m,.int .i64 lo,.int .i64 hi] [] (fun v Q=>v= .int .i64 m∧Q=[]):=by
 apply vY;intro w;rw[hE.P];refine(qOc m lo hi w).mono ?_;rintro e w'⟨e1,e2⟩;rw[if_neg h1,if_neg h2]at e1;exact⟨e1,e2⟩
def qKk (hE:Seat E){most:Nat}(hm:most≤fP):Ct E 43 [.int .i64 (most:Nat)] [] (fun v Q=>∃s,v=uPt s∧Q=[bR s most []]):=by
 have hmx:fP=1048576:=rfl;have c1:¬((most:Nat):Int)<0:=oO;have c2:¬(1048576:Int)<((most:Nat):Int):=oO;refine bO (hE.fn Tryz.func43) O O O (fun R=>?_);simp only[dX,uV,uW];refine gg8 ?_;refine uX (ct_Clip hE c1 c2) O ?_;rintro _ _⟨rfl,rfl⟩;simp only[uV,uW];refine uU ?_;refine qSu (fun b5=>?_);refine gg1 ?_;refine uU ?_;refine gW O (fun b7=>?_);refine gg4 ?_;refine wa_sat (H':=bR b7 most []::[R]) (fun w h=>qYs (bm:=b5) hm (h.imp ?_)) ?_
 ·exact uI
 exact uZ O (.tmp O .nil) ⟨b7,O,O⟩
end Go.Proofs.YtejcjelmpbkcbaaGreatDoor
namespace Sl
section
open Go Go.RowKit
variable {E:Env}{n:Nat}{L:Fr}{S H H':List HP}{ty:TypeId}{pos:String}{af:Array Edge}{d:Option Nat}{gd:Option (Nat×Bool)}{K:Value→List HP→Prop}{Q:Exit→Act→World→Prop}
def ld_bytes {x:Operand}{src dst e:TypeId}{bs:List UInt8}{s by_ sz sz1 sz2:Nat}{zs zs1 zs2:List Value}(hx:ev L x=some (.string ⟨⟨bs⟩⟩))(hs:E.tab src=some ⟨.string,sz,zs⟩)(ht:E.tab dst=some ⟨.slice e s by_,sz1,zs1⟩)(he:E.tab e=some ⟨.int .u8,sz2,zs2⟩)
  (hk:∀g c,K (.slice (some ⟨g,0,none⟩) bs.length c) (ro g (bs.map fun b=>Value.int .u8 (b.toNat:Nat))::H)):Ld E n L H ⟨d,.convert src dst x,ty,pos,af,gd⟩ K:=fun Q next a w G hn=>by
 obtain⟨i',z,_,_,_,_,hk'⟩:=fH hs;simp only[TK.holds]at hk'
 have hu:E.P.underlying src=some .string:=by
  split at hk'
  ·assumption
  cases hk'
 obtain⟨hd,_⟩:=fQ ht;have hr:=run_bytes_of_string (P:=E.P) w src dst e ⟨⟨bs⟩⟩ hu hd (nE he)
 have hrun:(execOp a.eval ⟨d,.convert src dst x,ty,pos,af,gd⟩).run E.P w= .ok (.value (.slice (some ⟨w.heap.size,0,none⟩) bs.length (grownCap w bs.length 0 e))) (w.drew.alloc (.cells (bytesRow ⟨⟨bs⟩⟩ (grownCap w bs.length 0 e)) e ((bytesRow ⟨⟨bs⟩⟩ (grownCap w bs.length 0 e)).size,(bytesRow ⟨⟨bs⟩⟩ (grownCap w bs.length 0 e)).size+1))):=by
  have hr':(convert src dst (.string ⟨⟨bs⟩⟩)).run E.P w= .ok (.slice (some ⟨w.heap.size,0,none⟩) bs.length (grownCap w bs.length 0 e)) (w.drew.alloc (.cells (bytesRow ⟨⟨bs⟩⟩ (grownCap w bs.length 0 e)) e ((bytesRow ⟨⟨bs⟩⟩ (grownCap w bs.length 0 e)).size,(bytesRow ⟨⟨bs⟩⟩ (grownCap w bs.length 0 e)).size+1))):=hr;simp only[execOp,G.f.ev hx,Sem.run_bind,Sem.run_map,hr'];simp[hr']
 unfold Oper.wp;rw[hrun,Oper.upon_value];refine hn _ _ _ (hk _ _) ?_;refine(G.hp.drew.new _).imp fun _=>fG fun k h=>⟨_,_,_,h,fun i v hv=>?_⟩
 have hi:i<bs.length:=by have:=(ae.1 hv).1;simpa using this
 unfold bytesRow;rw[oq (by simpa using hi)];simpa using hv
end
section
open Go Go.RowKit
variable {E:Env}{n:Nat}{L:Fr}{S:List HP}{ty:TypeId}{pos:String}{af:Array Edge}{d:Option Nat}{gd:Option (Nat×Bool)}
def qNa {x:Operand}{xt t:TypeId}{k:IntKind}{v:Value}{sz:Nat}{zs:List Value}(hx:ev L x=some (.iface t v))(ht:E.tab t=some ⟨.int k,sz,zs⟩):
  Yl E n L S ⟨d,.typeAssert x xt t true,ty,pos,af,gd⟩ (.tuple #[v,.bool true]):=fun a w g _=>by
 simp[execOp,Instr.typeAssert,run_underlying (nE ht),g.ev hx]
def y_eq_str {x y:Operand}{xt yt:TypeId}{a b:List UInt8}(hx:ev L x=some (.string ⟨⟨a⟩⟩))(hy:ev L y=some (.string ⟨⟨b⟩⟩)):
  Yl E n L S ⟨d,.binOp .eql xt x y yt,ty,pos,af,gd⟩ (.bool (decide (a=b))):=fun o w g _=>by
 simp[execOp,eqGuard,binOp_string_eql,ByteArray.toList_eq,g.ev hx,g.ev hy,pure];exact ry.2 (by simp)
def y_ne_str {x y:Operand}{xt yt:TypeId}{a b:List UInt8}(hx:ev L x=some (.string ⟨⟨a⟩⟩))(hy:ev L y=some (.string ⟨⟨b⟩⟩)):
  Yl E n L S ⟨d,.binOp .neq xt x y yt,ty,pos,af,gd⟩ (.bool (decide (¬a=b))):=fun o w g _=>by
 simp[execOp,eqGuard,binOp_string_neq,ByteArray.toList_eq,g.ev hx,g.ev hy,pure];exact ry.2 (by simp)
variable {H:List HP}{Q:Exit→Act→World→Prop}
def qCb {ops:List Oper}{S:List HP}{fuel:Nat}{listed:Array Bool}(i:Nat){d:Option Nat}{op:Op}{ty:TypeId}{pos:String}{af:Array Edge}{j t:Nat}{b:Bool}(hi:ops[i]?=some ⟨d,op,ty,pos,af,some (j,b)⟩)
  (hj:(ops[j]?).bind (·.dst)=some t) (hl:look L t=some (.bool b)) (hr:Region.ready .any ops.toArray listed=[i]) (hd:inB n d=true)
  (h:Ld E n L H ⟨d,op,ty,pos,af,some (j,b)⟩ (fun v H'=>(∀k,dU H' k→dU S k)∧WPD E ops S Q fuel (listed.setIfInBounds i true) n (putL d v L) H')):WPD E ops S Q (fuel+1) listed n L H:=fun _ a w g=>
 wpAnyH_all hr (by simp) fun j' hj'=>by
  obtain rfl:j'=i:=by simpa using hj'
  have hj2:(ops.toArray[j]?).bind (·.dst)=some t:=by simpa using hj
  have hyl:yielded ops.toArray a.tmps j=some b:=by simp only[yielded,hj2,qc,g.f.fr t _ hl]
  unfold wpOp;simp only[eH hi,Region.wanted,hyl,beq_self_eq_true,if_true];exact .inl (h _ _ a w g (fun v H' w' hk hs=>⟨hs.imp hk.1,hk.2 hk.1 _ _ ⟨g.f.put d v hd,hs⟩⟩))
def qVo {ops:List Oper}{S:List HP}{fuel:Nat}{listed:Array Bool}(t:Nat){p:Prop}[Decidable p](hl:look L t=some (.bool (decide p)))(h1:p→WPD E ops S Q fuel listed n ((t,.bool true)::L) H)(h2:¬p→WPD E ops S Q fuel listed n ((t,.bool false)::L) H):WPD E ops S Q fuel listed n L H:=fun hS a w g=>by
 by_cases hp:p
 ·exact h1 hp hS a w ⟨g.f.eq hl (by simp[hp]),g.hp⟩
 exact h2 hp hS a w ⟨g.f.eq hl (by simp[hp]),g.hp⟩
end
end Sl
namespace Go.Proofs.YtejcjelmpbkcbaaGreatDoor
open Go Go.RowKit Sl Eg
set_option maxRecDepth 10000
variable {E:Env}
def ct_Num0 (hE:Seat E):Ct E 60 [.nilIface] [] (fun v Q=>v= .int .i64 0∧Q=[]):=by
 refine bO (hE.fn Tryz.func60) O O O (fun R=>?_);simp only[dX,uV,uW];refine dO (uA O (dN (aL (dO (uM O (uB (zAa O (hE.t O)) ?_))))));refine dN (bF O (dO (uA O (dN (bZ (aV ?_))))));exact uZ O (.tmp O .nil) ⟨O,O⟩
def ct_Num (hE:Seat E){i:Int}:Ct E 60 [.iface 54 (.int .i64 i)] [] (fun v Q=>v= .int .i64 i∧Q=[]):=by
 refine bO (hE.fn Tryz.func60) O O O (fun R=>?_);simp only[dX,uV,uW];refine dO (uA O (dN (aL (dO (uM O (uB (qRm O (hE.t O)) ?_))))));refine dN (bD O (bC (aK (dO (uM O (uB (qNa O (hE.t O)) ?_))))));refine uM O (uB (aT O O) (uB (aT O O) (uA O (uA O (dN (aL (dO (uM O (uB (y_not O) (dN (bD O (bC (aK (dO (uM O (uA O (dN (bZ ?_))))))))))))))))));exact uZ O (.tmp O .nil) ⟨O,O⟩
def ct_Is (hE:Seat E){i:Int}(hi:i≠0):Ct E 19 [.iface 54 (.int .i64 i),.int .i64 i] [] (fun v Q=>v= .bool true∧Q=[]):=by
 refine bO (hE.fn Tryz.func19) O O O (fun R=>?_);simp only[dX,uV,uW];refine dO (uA O (dN (dO (uM O (uX (ct_Num hE) O ?_)))));rintro _ _⟨rfl,rfl⟩;simp only[uV,uW];refine uM O (uB (y_eq O O) (uM O ?_));refine eF 9 O (fun h=>?_) (fun h=>?_)
 ·refine dP (uM O (dP (uB (y_ne O O) (uB (aW O O) (uA O (aM (aK (bZ ?_))))))));exact uZ O (.tmp O .nil) ⟨by simp[one,hi],rfl⟩
 exact absurd O h
def ct_Is_no (hE:Seat E){i:Int}(hi:i≠0):Ct E 19 [.nilIface,.int .i64 i] [] (fun v Q=>v= .bool false∧Q=[]):=by
 refine bO (hE.fn Tryz.func19) O O O (fun R=>?_);simp only[dX,uV,uW];refine dO (uA O (dN (dO (uM O (uX (ct_Num0 hE) O ?_)))));rintro _ _⟨rfl,rfl⟩;simp only[uV,uW];refine uM O (uB (y_eq O O) (uM O ?_));refine eF 9 O (fun h=>?_) (fun h=>?_)
 ·exact absurd h.symm hi
 refine dQ (dQ (uB (aX O O) (uA O (aM (aK (bZ ?_))))));exact uZ O (.tmp O .nil) ⟨O,O⟩
end Go.Proofs.YtejcjelmpbkcbaaGreatDoor
namespace Sl
section
open Go Go.RowKit
variable {E:Env}{n:Nat}{L:Fr}{S S' H H':List HP}{ty:TypeId}{pos:String}{af:Array Edge}{d:Option Nat}{gd:Option (Nat×Bool)}{K:Value→List HP→Prop}{Q:Exit→Act→World→Prop}
def qRf {t:TypeId}{sz:Nat}{zs:List Value}(h:E.tab t=some ⟨.bool,sz,zs⟩):E.P.underlying t=some .bool:=by
 obtain⟨i',z,_,_,_,_,hk⟩:=fH h;simp only[TK.holds]at hk;split at hk
 ·assumption
 cases hk
def qZv {x y:Operand}{t yt:TypeId}{a b:Bool}{sz:Nat}{zs:List Value}(hx:ev L x=some (.bool a))(hy:ev L y=some (.bool b))(ht:E.tab t=some ⟨.bool,sz,zs⟩):
  Yl E n L S ⟨d,.binOp .eql t x y yt,ty,pos,af,gd⟩ (.bool (decide (a=b))):=fun o w g _=>by
 have hu:=qRf ht;have h1:(eqGuard .eql t x y (.bool a) (.bool b)).run E.P w= .ok () w:=by unfold eqGuard;simp
 have h2:binOp .eql t (.bool a) (.bool b)=(do pure (.bool (←Op.equal t (.bool a) (.bool b)))):=rfl;have h3:=run_equal_bool (P:=E.P) w t a b hu;simp[execOp,h1,h2,h3,g.ev hx,g.ev hy];exact ry.2 (by simp)
def qHw {x:Operand}{f:FuncId}{caps:List Value}{args:List Operand}{ts:Array TypeId}{vs:List Value}{Pre:List HP}{Φ:Value→List HP→Prop}(hc:Ct E f (vs++caps) Pre Φ)(hx:ev L x=some (.func (.func f) #[] ⟨caps⟩))(ha:evs L args=some vs)(hf:goFn E.P f=true)(hs:Sub Pre H H')(hk:∀v Qs,Φ v Qs→K v (Qs++H')):
  Ld E n L H ⟨d,.call {callee:= .value x,args:=args.toArray,argTypes:=ts},ty,pos,af,gd⟩ K:=fun Q next a w g hn=>by
 have hrun:(execOp a.eval ⟨d,.call {callee:= .value x,args:=args.toArray,argTypes:=ts},ty,pos,af,gd⟩).run E.P w= .ok (.enter f ⟨vs++caps⟩) w:=by
  have h1:=g.f.evs ha;have h2:=g.f.ev hx;have h3:(⟨vs⟩:Array Value)++(⟨caps⟩:Array Value)=⟨vs++caps⟩:=by simp
  simp[execOp,resolve,Deferred.ofValue,invoke,h2,qD hf,h1,h3]
 unfold Oper.wp;rw[hrun,Oper.upon_enter];refine(hc (dU H') w ((g.hp.sub hs).imp fun _=>kD)).mono ?_;rintro e w'⟨v,Qs,rfl,hΦ,hs'⟩;exact hn v _ w' (hk v Qs hΦ) (hs'.imp fun _=>nR)
def qTv {f:FuncId}{caps:List Operand}{vs:List Value}(hc:evs L caps=some vs):Yl E n L S ⟨d,.makeFunc (.func f) #[] caps.toArray,ty,pos,af,gd⟩ (.func (.func f) #[] ⟨vs⟩):=fun a w g _=>by
 have h1:=g.evs hc;simp[execOp,Instr.makeFunc,h1]
end
section
open Go Go.RowKit
variable {E:Env}{n:Nat}{L:Fr}{S S' H H' H'':List HP}{ty:TypeId}{pos:String}{af:Array Edge}{d:Option Nat}{gd:Option (Nat×Bool)}{K:Value→List HP→Prop}{Q:Exit→Act→World→Prop}
def Rdb (w0:World)(a:Option Addr)(vs:List Value)(q:HP):Prop:=vs≠[]→∃g o,a=some ⟨g,o,none⟩∧∀k,q k→RdAt w0 g o vs k
def qNy {x y:Operand}{t e:TypeId}{p:Option Addr}{c m cc g o by_ sz sz':Nat}{xs us zs zs':List Value}{kk:TK}{q:HP}(ht:E.tab t=some ⟨.slice e 1 by_,sz,zs⟩)(he:E.tab e=some ⟨kk,sz',zs'⟩)(hz:Nat.beq zs'.length 1=true)
  (hx:ev L x=some (.slice p m c)) (hy:ev L y=some (.slice (some ⟨g,o,none⟩) us.length cc)) (hq:∀k,q k→RdAt E.w0 g o us k) (hm:Take q H H') (hm2:Take (sl p c e 1 m xs) H' H'') (hp:∀u∈us,u.oneCell'=true) (h0:0<us.length) (hb:(m+us.length)*by_≤140737488355328) (hb2:m+us.length≤maxLen)
  (hk:∀g' c' m' xs',m'=m+us.length→xs'=xs++us→K (.slice (some ⟨g',0,none⟩) m' c') (sl (some ⟨g',0,none⟩) c' e 1 m' xs'::q::H'')):Ld E n L H ⟨d,.call {callee:= .builtin .append,args:= #[x,y],argTypes:= #[t,t]},ty,pos,af,gd⟩ K:=fun Q next a w G hn=>by
 obtain⟨hu,j,hj,hs,hby⟩:=fQ ht;obtain⟨i,z,hi,hi2,hiz,hzc,_⟩:=fH he;obtain rfl:i=j:=by rw[hi]at hj;simpa using hj
 have z1:=lh hz;have s1:=G.hp.take hm;have s2:Sat E.w0 w (sl p c e 1 m xs::q::H''):=(s1.imp fun _ h=>fK (fC (fun _=>hm2.out) h));have hnews:∀j u,us[j]?=some u→w.cell? ((⟨g,o,none⟩:Addr).add j)=some u:=fun j u hu=>by rw[addr_add];exact qIj hq s1 hu
 obtain⟨g',c',w',hr,ho,hgr,hat,_⟩:=run_append_lies (P:=E.P) w t ty E.w0.heap.size e i z 1 by_ hu hi hiz hs hby (by rw[←lq,hzc];exact z1) oO (.slice p m c) m xs s2.owns ⟨g,o,none⟩ us.length cc us oO hnews hp h0 hb2 hb s2.size _ rfl
 have hrun:(execOp a.eval ⟨d,.call {callee:= .builtin .append,args:= #[x,y],argTypes:= #[t,t]},ty,pos,af,gd⟩).run E.P w= .ok (.value (.slice (some ⟨g',0,none⟩) (m+us.length) c')) w':=by
  simp[execOp,resolve,invoke,builtin,G.f.ev hx,G.f.ev hy,hr]
 unfold Oper.wp;rw[hrun,Oper.upon_value];exact hn _ _ _ (hk g' c' _ _ O O) (s2.resl ho hgr hat)
def qEx {x y:Operand}{t e:TypeId}{p a':Option Addr}{c m cc es by_ sz:Nat}{zs xs:List Value}(ht:E.tab t=some ⟨.slice e es by_,sz,zs⟩)
  (hx:ev L x=some (.slice p m c)) (hy:ev L y=some (.slice a' 0 cc)) (hm:Take (sl p c e es m xs) H H') (hk:K (.slice p m c) H):Ld E n L H ⟨d,.call {callee:= .builtin .append,args:= #[x,y],argTypes:= #[t,t]},ty,pos,af,gd⟩ K:=fun Q next a w G hn=>by
 obtain⟨hu,j,hj,hs,hby⟩:=fQ ht;obtain⟨h1,h2,_,_,hh,_⟩:=(G.hp.take hm).hp;have hmc:=(pM hh).1
 have hrun:(execOp a.eval ⟨d,.call {callee:= .builtin .append,args:= #[x,y],argTypes:= #[t,t]},ty,pos,af,gd⟩).run E.P w= .ok (.value (.slice p m c)) w:=by
  cases p<;>cases a'<;>simp[execOp,resolve,invoke,builtin,G.f.ev hx,G.f.ev hy,Builtin.append_,underlying,program,Sem.run,hu,Go.sizeOf,typeInfo,hj,Builtin.lenOf,Builtin.firstCells,hmc,storeCells,loadCells,loadCellsFrom]
 unfold Oper.wp;rw[hrun,Oper.upon_value];exact hn _ _ _ hk G.hp
def qHv {x y:Operand}{t e:TypeId}{p a:Option Addr}{c m k cc by_ sz sz':Nat}{xs us zs zs':List Value}{kk:TK}{q:HP}(ht:E.tab t=some ⟨.slice e 1 by_,sz,zs⟩)(he:E.tab e=some ⟨kk,sz',zs'⟩)(hz:Nat.beq zs'.length 1=true)
  (hx:ev L x=some (.slice p m c)) (hy:ev L y=some (.slice a k cc)) (hk0:k=us.length) (hq:Rdb E.w0 a us q) (hm:Take q H H') (hm2:Take (sl p c e 1 m xs) H' H'') (hp:∀u∈us,u.oneCell'=true) (hb:(m+us.length)*by_≤140737488355328) (hb2:m+us.length≤maxLen)
  (hk:∀p' c' m' xs',m'=m+us.length→xs'=xs++us→K (.slice p' m' c') (sl p' c' e 1 m' xs'::q::H'')):Ld E n L H ⟨d,.call {callee:= .builtin .append,args:= #[x,y],argTypes:= #[t,t]},ty,pos,af,gd⟩ K:=by
 subst hk0;rcases jr us.length with h| h
 ·obtain rfl:=dh h;have key:Ld E n L (sl p c e 1 m xs::q::H'') ⟨d,.call {callee:= .builtin .append,args:= #[x,y],argTypes:= #[t,t]},ty,pos,af,gd⟩ K:=qEx ht hx hy Take.here (hk p c m xs (by simp) (by simp));exact fun Q next a w G hn=>key Q next a w ⟨G.f,G.hp.imp fun _ s=>fK (fC (fun _=>hm2.out) (hm.out s))⟩ hn
 obtain⟨g,o,rfl,hq'⟩:=hq (by rintro rfl;simp at h);exact qNy ht he hz hx hy hq' hm hm2 hp h hb hb2 (fun g' c'=>hk (some ⟨g',0,none⟩) c')
end
end Sl
namespace Eg
def cmpT:List UInt8→List UInt8→Int
 |[],[]=>0
 |[],_::_=> -1
 |_::_,[]=>1
 |a::A,b::B=>if a.toNat<b.toNat then -1 else if b.toNat<a.toNat then 1 else cmpT A B
def qBq (A B:List UInt8):cmpT B A= -cmpT A B:=by
 induction A generalizing B with
 |nil=>cases B<;>simp[cmpT]
 |cons a A ih=>
  cases B with
  |nil=>simp[cmpT]
  |cons b B=>
   simp only[cmpT]
   rcases ql a.toNat b.toNat with h|h| h
   ·rw[if_neg oO,if_pos h,if_pos h];rfl
   ·rw[if_neg oO,if_neg oO,if_neg oO,if_neg oO,ih]
   rw[if_pos h,if_neg oO,if_pos h]
def qBr {A B:List UInt8}:cmpT A B=0↔A=B:=by
 induction A generalizing B with
 |nil=>cases B<;>simp[cmpT]
 |cons a A ih=>
  cases B with
  |nil=>simp[cmpT]
  |cons b B=>
   simp only[cmpT]
   rcases ql a.toNat b.toNat with h|h| h
   ·rw[if_pos h]
    have:a≠b:=by rintro rfl;omega
    simp[this]
   ·rw[if_neg oO,if_neg oO,ih]
    have:a=b:=UInt8.toNat_inj.1 h
    simp[this]
   rw[if_neg oO,if_pos h]
   have:a≠b:=by rintro rfl;omega
   simp[this]
def qUg (A:List UInt8):cmpT A A=0:=qBr.2 rfl
def qRr {A B C:List UInt8}(h1:cmpT A B≤0)(h2:cmpT B C≤0):cmpT A C≤0:=by
 induction A generalizing B C with
 |nil=>cases C<;>simp[cmpT]
 |cons a A ih=>
  cases B with
  |nil=>simp[cmpT]at h1
  |cons b B=>
   cases C with
   |nil=>simp[cmpT]at h2
   |cons c C=>
    simp only[cmpT]at h1 h2 ⊢
    by_cases x1:a.toNat<b.toNat
    ·by_cases x2:c.toNat<b.toNat
     ·rw[if_neg oO,if_pos x2]at h2;omega
     rw[if_pos oO];omega
    rw[if_neg x1]at h1
    by_cases x3:b.toNat<a.toNat
    ·rw[if_pos x3]at h1;omega
    rw[if_neg x3]at h1
    by_cases y1:b.toNat<c.toNat
    ·rw[if_pos oO];omega
    rw[if_neg y1]at h2
    by_cases y3:c.toNat<b.toNat
    ·rw[if_pos y3]at h2;omega
    rw[if_neg y3]at h2
    rw[if_neg oO,if_neg oO]
    exact ih h1 h2
def Bgn (A B:List UInt8):Prop:=lcp A B=B.length
instance (A B:List UInt8):Decidable (Bgn A B):=inferInstanceAs (Decidable (_=_))
end Eg
namespace Go.Proofs.YtejcjelmpbkcbaaGreatDoor
open Go Go.RowKit Sl Eg
def vO {α:Type}{a b:List α}{x y:α}(h:a++[x]=b++[y]):a=b∧x=y:=by
 have:=wu h rfl;simpa using this
def Lts.fn {L:List Rl}(hw:Wf L){ids ids':List Nat}{bs:List UInt8}(h:Lts L ids bs)(h':Lts L ids' bs):ids=ids':=by
 induction h generalizing ids' with
 |nil=>
  generalize e:([]:List UInt8)=c at h'
  cases h' with
  |nil=>rfl
  |snoc _ _=>simp at e
 |snoc h1 h2 ih=>
  generalize e:(_++[_]:List UInt8)=c at h'
  cases h' with
  |nil=>simp at e
  |snoc g1 g2=>
   obtain⟨rfl,rfl⟩:=vO e
   rw[ih g1,hw.nodup _ _ _ h2 g2]
def RunId.fn {L:List Rl}(hw:Wf L){x t i j:Nat}(h:RunId L x t i)(h':RunId L x t j):i=j:=by
 rcases h with⟨h1,h2⟩|⟨h1,a,rfl,h2⟩<;>rcases h' with⟨g1,g2⟩|⟨g1,b,rfl,g2⟩
 ·rw[h2,g2]
 ·omega
 ·omega
 rw[hw.nodup _ _ _ h2 g2]
def Rns.fn {L:List Rl}(hw:Wf L){rs:List (Nat×Nat)}{out out':List Nat}(h:Rns L rs out)(h':Rns L rs out'):out=out':=by
 induction h generalizing out' with
 |nil=>
  generalize e:([]:List (Nat×Nat))=c at h'
  cases h' with
  |nil=>rfl
  |snoc _ _=>simp at e
 |snoc h1 h2 ih=>
  generalize e:(_++[_]:List (Nat×Nat))=c at h'
  cases h' with
  |nil=>simp at e
  |snoc g1 g2=>
   obtain⟨rfl,e2⟩:=vO e
   cases e2
   rw[ih g1,h2.fn hw g2]
def Prs.fn {L:List Rl}(hw:Wf L){ids js out out':List Nat}{a a':Nat}(h:Prs L ids js a out)(h':Prs L ids js a' out'):a=a'∧out=out':=by
 induction h generalizing a' out' with
 |nil=>
  generalize e:([]:List Nat)=c at h'
  cases h' with
  |nil=>exact⟨rfl,rfl⟩
  |snoc _ _ _ _ _=>simp at e
 |snoc h1 h2 h3 h4 h5 ih=>
  generalize e:(_++[_]:List Nat)=c at h'
  cases h' with
  |nil=>simp at e
  |snoc g1 g2 g3 g4 g5=>
   obtain⟨rfl,rfl⟩:=vO e
   obtain⟨rfl,rfl⟩:=ih g1
   rw[h3]at g3
   rw[h4]at g4
   cases g3
   cases g4
   rw[hw.nodup _ _ _ h5 g5]
   exact⟨O,O⟩
def Rch.pos {L:List Rl}{bs:List UInt8}{lv:Nat}{ids:List Nat}(h:Rch L bs lv ids):1≤lv:=by
 cases h<;>omega
def Rch.fn {L:List Rl}(hw:Wf L){bs:List UInt8}{lv:Nat}{ids ids':List Nat}(h:Rch L bs lv ids)(h':Rch L bs lv ids'):ids=ids':=by
 induction h generalizing ids' with
 |start h=>
  generalize e:1=l at h'
  cases h' with
  |start g=>exact h.fn hw g
  |odd g _ _ _=>have:=g.pos;omega
  |even g _ _ _ _=>have:=g.pos;omega
 |odd h h1 h2 h3 ih=>
  generalize e:_+1=l at h'
  cases h' with
  |start g=>have:=h.pos;omega
  |odd g g1 g2 g3=>
   have e1:=oI e
   subst e1
   have e2:=ih g
   subst e2
   exact h3.fn hw g3
  |even g g1 _ _ _=>omega
 |even h h1 h2 h3 h4 ih=>
  generalize e:_+1=l at h'
  cases h' with
  |start g=>have:=h.pos;omega
  |odd g g1 g2 g3=>omega
  |even g g1 g2 g3 g4=>
   have e1:=oI e
   subst e1
   have e2:=ih g
   subst e2
   obtain⟨rfl,rfl⟩:=h4.fn hw g4
   rfl
def Rch.before {L:List Rl}{bs:List UInt8}{lv:Nat}{ids:List Nat}(h:Rch L bs lv ids):∀k,1≤k→k<lv→∃r,Rch L bs k r∧2≤r.length:=by
 induction h with
 |start h=>intro k h1 h2;omega
 |odd h h1 h2 h3 ih=>
  intro k k1 k2
  rcases ed k _ with e| e
  ·exact ih k k1 e
  obtain rfl:=xc (Nat.le_of_lt_succ k2) e
  exact⟨_,h,h2⟩
 |even h h1 h2 h3 h4 ih=>
  intro k k1 k2
  rcases ed k _ with e| e
  ·exact ih k k1 e
  obtain rfl:=xc (Nat.le_of_lt_succ k2) e
  exact⟨_,h,h2⟩
def Rch.one {L:List Rl}(hw:Wf L){bs:List UInt8}{lv lv' x y:Nat}(h:Rch L bs lv [x])(h':Rch L bs lv' [y]):x=y:=by
 rcases ql lv lv' with hl|hl|hl
 ·obtain⟨r,hr,h2⟩:=h'.before lv h.pos hl;rw[←h.fn hw hr]at h2;simp at h2
 ·subst hl;have:=h.fn hw h';simpa using this
 obtain⟨r,hr,h2⟩:=h.before lv' h'.pos hl;rw[←h'.fn hw hr]at h2;simp at h2
def Sg (L:List Rl)(bs:List UInt8)(id:Nat):Prop:=(bs=[]∧id=0)∨∃lv,Rch L bs lv [id]
def Lts.nil_inv {L:List Rl}{ids:List Nat}(h:Lts L ids []):ids=[]:=by
 generalize e:([]:List UInt8)=c at h;cases h with
 |nil=>rfl
 |snoc _ _=>simp at e
def Rch.nonempty {L:List Rl}{bs:List UInt8}{lv x:Nat}(h:Rch L bs lv [x]):bs≠[]:=by
 rintro rfl
 have key:∀{lv:Nat}{ids:List Nat},Rch L [] lv ids→ids=[]∧lv=1:=by
  intro lv ids h;induction h with
  |start h=>exact⟨h.nil_inv,rfl⟩
  |odd h h1 h2 h3 ih=>rw[ih.1]at h2;simp at h2
  |even h h1 h2 h3 h4 ih=>rw[ih.1]at h2;simp at h2
 have:=(key h).1;simp at this
def Sg.fn {L:List Rl}(hw:Wf L){bs:List UInt8}{x y:Nat}(h:Sg L bs x)(h':Sg L bs y):x=y:=by
 rcases h with⟨h1,h2⟩|⟨lv,h⟩<;>rcases h' with⟨g1,g2⟩|⟨lv',h'⟩
 ·rw[h2,g2]
 ·exact absurd h1 h'.nonempty
 ·exact absurd g1 h.nonempty
 exact h.one hw h'
