import Derived.Test.YtlmpojkmeglepaaGreatDoorQ12
import Derived.Laws.IdiomStrings
import Derived.Laws.Small
import Derived.Laws.Strings
set_option linter.all false
set_option maxHeartbeats 1000000
namespace Go.Proofs.YtlmpojkmeglepaaGreatDoor
open Go Go.RowKit Sl Eg
set_option maxRecDepth 10000
variable {E:Env}
theorem qTx {a:List UInt8}{i:Nat}{x:UInt8}(h:a[i]?=some x)(k:Nat)(hk:k=i):(⟨⟨a⟩⟩:ByteArray)[k]?=some x:=by
 subst hk
 obtain⟨h1,h2⟩:=List.getElem?_eq_some_iff.1 h
 rw[getElem?_pos (⟨⟨a⟩⟩:ByteArray) k (by show k<a.length;exact h1)]
 exact congrArg some h2
theorem qM {α:Type}{l:List α}{i:Nat}{x:α}(hx:l[i]?=some x):l.drop i=x::l.drop (i+1):=by
 obtain⟨h1,e1⟩:=List.getElem?_eq_some_iff.1 hx
 rw[List.drop_eq_getElem_cons h1,e1]
theorem qTo (a:List UInt8):(⟨⟨a⟩⟩:ByteArray).size=a.length:=rfl
end Go.Proofs.YtlmpojkmeglepaaGreatDoor
namespace Sl
open Go Go.RowKit
variable {E:Env}{n:Nat}{L:Fr}{S H H':List HP}{ty:TypeId}{pos:String}{af:Array Edge}{d:Option Nat}{gd:Option (Nat×Bool)}{K:Value→List HP→Prop}{Q:Exit→Act→World→Prop}
theorem qPg {t:TypeId}(hk:∀b,K (.map (some b)) (pt b (.map #[] 0)::H)):Ld E n L H ⟨d,.makeMap t none,ty,pos,af,gd⟩ K:=fun Q next a w G hn=>by
 have hrun:(execOp a.eval ⟨d,.makeMap t none,ty,pos,af,gd⟩).run E.P w= .ok (.value (.map (some w.heap.size))) (w.alloc (.map #[] 0)):=by
  simp[execOp,Instr.makeMap]
 unfold Oper.wp
 rw[hrun,Oper.upon_value]
 exact hn _ _ _ (hk _) (G.hp.new _)
theorem wa_sat {e:Exit}(hH:∀w,Sat E.w0 w H→Sat E.w0 w H') (h:AT E Q e n L H'):AT E Q e n L H:=fun a w g=>h a w ⟨g.f,hH w g.hp⟩
end Sl
namespace Go.Proofs.YtlmpojkmeglepaaGreatDoor
open Go Go.RowKit Sl Eg
set_option maxRecDepth 10000
variable {E:Env}
theorem wf_nil:Wf []:=⟨fun i r h=>by simp at h,fun i j r h=>by simp at h,fun i=>by cases i<;>simp[len,txt,nth,tab],by simp⟩
theorem qTw {w0 w:World}{H:List HP}{s bm most:Nat}(hm:most≤fB)(h:Sat w0 w (cells s [.int .i64 most,.slice none 0 0,.map (some bm)] 124::pt bm (.map #[] 0)::H)):Sat w0 w (bR s most []::H):=by
 have h1:=(h.ptr).1
 have h2:=(h.tail.ptr).1
 have hs:StoreAt w s most [] (.slice none 0 0) bm:=⟨h1,⟨O,.inl ⟨O,O⟩⟩,h2,wf_nil,fun i x h=>by simp at h,hm,Nat.zero_le _,fun i x h=>by simp at h⟩
 refine h.imp fun k hk=>qDr (ps:=[cells s [.int .i64 most,.slice none 0 0,.map (some bm)] 124,pt bm (.map #[] 0)]) (fun j hj=>?_) hk
 obtain⟨k1,k2,dj,rfl,e1,k3,k4,dj2,rfl,e2,_⟩:=hj
 refine⟨w,_,bm,hs,fun b hb=>?_⟩
 have e1':k1 s=_:=e1
 have e2':k3 bm=_:=e2
 rcases hb with rfl|rfl|hb
 ·rw[h1];simp[join,e1']
 ·rw[h2]
  have:k1 b=none:=by
   rcases dj b with h| h
   ·exact h
   simp[join,e2']at h
  simp[join,this,e2']
 cases hb
theorem ct_Clip (hE:Seat E){m lo hi:Int}(h1:¬m<lo)(h2:¬hi<m):Ct E 50 [.int .i64 m,.int .i64 lo,.int .i64 hi] [] (fun v Q=>v= .int .i64 m∧Q=[]):=by
 apply xM
 intro w
 rw[hE.P]
 refine(qKm m lo hi w).mono ?_
 rintro e w'⟨e1,e2⟩
 rw[if_neg h1,if_neg h2]at e1
 exact⟨e1,e2⟩
theorem qAa (hE:Seat E){most:Nat}(hm:most≤fB):Ct E 26 [.int .i64 (most:Nat)] [] (fun v Q=>∃s,v=uPt s∧Q=[bR s most []]):=by
 have hmx:fB=1048576:=rfl
 have c1:¬((most:Nat):Int)<0:=oO
 have c2:¬(1048576:Int)<((most:Nat):Int):=oO
 refine bO (hE.fn Tryz.func26) O O O (fun R=>?_)
 simp only[dU,uV,uW]
 refine gg8 ?_
 refine uX (ct_Clip hE c1 c2) O ?_
 rintro _ _⟨rfl,rfl⟩
 simp only[uV,uW]
 refine uU ?_
 refine qPg (fun b5=>?_)
 refine gg1 ?_
 refine uU ?_
 refine fA O (fun b7=>?_)
 refine gg4 ?_
 refine wa_sat (H':=bR b7 most []::[R]) (fun w h=>qTw (bm:=b5) hm (h.imp ?_)) ?_
 ·exact uI
 exact uZ O (.tmp O .nil) ⟨b7,O,O⟩
end Go.Proofs.YtlmpojkmeglepaaGreatDoor
namespace Sl
section
open Go Go.RowKit
variable {E:Env}{n:Nat}{L:Fr}{S H H':List HP}{ty:TypeId}{pos:String}{af:Array Edge}{d:Option Nat}{gd:Option (Nat×Bool)}{K:Value→List HP→Prop}{Q:Exit→Act→World→Prop}
theorem ld_bytes {x:Operand}{src dst e:TypeId}{bs:List UInt8}{s by_ sz sz1 sz2:Nat}{zs zs1 zs2:List Value}(hx:ev L x=some (.string ⟨⟨bs⟩⟩))(hs:E.tab src=some ⟨.string,sz,zs⟩)(ht:E.tab dst=some ⟨.slice e s by_,sz1,zs1⟩)(he:E.tab e=some ⟨.int .u8,sz2,zs2⟩)
  (hk:∀g c,K (.slice (some ⟨g,0,none⟩) bs.length c) (ro g (bs.map fun b=>Value.int .u8 (b.toNat:Nat))::H)):Ld E n L H ⟨d,.convert src dst x,ty,pos,af,gd⟩ K:=fun Q next a w G hn=>by
 obtain⟨i',z,_,_,_,_,hk'⟩:=fG hs
 simp only[TK.holds]at hk'
 have hu:E.P.underlying src=some .string:=by
  split at hk'
  ·assumption
  cases hk'
 obtain⟨hd,_⟩:=fI ht
 have hr:=run_bytes_of_string (P:=E.P) w src dst e ⟨⟨bs⟩⟩ hu hd (mV he)
 have hrun:(execOp a.eval ⟨d,.convert src dst x,ty,pos,af,gd⟩).run E.P w= .ok (.value (.slice (some ⟨w.heap.size,0,none⟩) bs.length (grownCap w bs.length 0 e))) (w.drew.alloc (.cells (bytesRow ⟨⟨bs⟩⟩ (grownCap w bs.length 0 e)) e ((bytesRow ⟨⟨bs⟩⟩ (grownCap w bs.length 0 e)).size,(bytesRow ⟨⟨bs⟩⟩ (grownCap w bs.length 0 e)).size+1))):=by
  have hr':(convert src dst (.string ⟨⟨bs⟩⟩)).run E.P w= .ok (.slice (some ⟨w.heap.size,0,none⟩) bs.length (grownCap w bs.length 0 e)) (w.drew.alloc (.cells (bytesRow ⟨⟨bs⟩⟩ (grownCap w bs.length 0 e)) e ((bytesRow ⟨⟨bs⟩⟩ (grownCap w bs.length 0 e)).size,(bytesRow ⟨⟨bs⟩⟩ (grownCap w bs.length 0 e)).size+1))):=hr
  simp only[execOp,G.f.ev hx,Sem.run_bind,Sem.run_map,hr']
  simp[hr']
 unfold Oper.wp
 rw[hrun,Oper.upon_value]
 refine hn _ _ _ (hk _ _) ?_
 refine(G.hp.drew.new _).imp fun _=>gH fun k h=>⟨_,_,_,h,fun i v hv=>?_⟩
 have hi:i<bs.length:=by have:=(List.getElem?_eq_some_iff.1 hv).1;simpa using this
 unfold bytesRow
 rw[Array.getElem?_append_left (by simpa using hi)]
 simpa using hv
end
section
open Go Go.RowKit
variable {E:Env}{n:Nat}{L:Fr}{S H H':List HP}{ty:TypeId}{pos:String}{af:Array Edge}{d:Option Nat}{gd:Option (Nat×Bool)}{K:Value→List HP→Prop}{Q:Exit→Act→World→Prop}
theorem ld_mark {x:Operand}{t e bt:TypeId}{us:List Value}{g a c s by_ sz1 sz2:Nat}{zs1 zs2:List Value}(hx:ev L x=some (.slice (some ⟨g,0,none⟩) a c))(ht:E.tab t=some ⟨.slice e s by_,sz1,zs1⟩)(he:E.tab e=some ⟨.int .u8,sz2,zs2⟩)(hm:Take (cells g us bt) H H')
  (hk:K (.slice (some ⟨g,0,none⟩) a c) (ro g us::H')):Ld E n L H ⟨d,.convert t t x,ty,pos,af,gd⟩ K:=fun Q next A w G hn=>by
 obtain⟨hd,_⟩:=fI ht
 have s1:=G.hp.take hm
 have hp:=(s1.ptr).1
 have hsh:w.shape? g=some (bt,us.length):=by unfold World.shape?;rw[hp];rfl
 have hrun:(execOp A.eval ⟨d,.convert t t x,ty,pos,af,gd⟩).run E.P w= .ok (.value (.slice (some ⟨g,0,none⟩) a c)) (w.freeze ⟨g,us.length,none⟩ 1):=by
  simp[execOp,convert,underlying,program,Sem.run,hd,mV he,G.f.ev hx,markStringish,shape,freeze,hsh]
 unfold Oper.wp
 rw[hrun,Oper.upon_value]
 refine hn _ _ _ hk ?_
 have hw:Sat E.w0 (w.freeze ⟨g,us.length,none⟩ 1) (pt g (.cells ⟨us⟩ bt (us.length,us.length+1))::H'):=Sat.write s1 ⟨O,O,O,by simp[World.freeze]⟩ (by simp[World.freeze,Array.getElem?_modify,hp]) (fun k hk=>by simp[World.freeze,Array.getElem?_modify,Ne.symm hk])
 exact hw.imp fun _=>gH fun k h=>⟨_,_,_,h,fun i v hv=>by simpa using hv⟩
end
section
open Go Go.RowKit
variable {E:Env}{n:Nat}{L:Fr}{S:List HP}{ty:TypeId}{pos:String}{af:Array Edge}{d:Option Nat}{gd:Option (Nat×Bool)}
theorem qJq {x:Operand}{xt t:TypeId}{k:IntKind}{v:Value}{sz:Nat}{zs:List Value}(hx:ev L x=some (.iface t v))(ht:E.tab t=some ⟨.int k,sz,zs⟩):
  Yl E n L S ⟨d,.typeAssert x xt t true,ty,pos,af,gd⟩ (.tuple #[v,.bool true]):=fun a w g _=>by
 simp[execOp,Instr.typeAssert,run_underlying (mV ht),g.ev hx]
theorem qNy {x y:Operand}{xt yt:TypeId}{a b:List UInt8}(hx:ev L x=some (.string ⟨⟨a⟩⟩))(hy:ev L y=some (.string ⟨⟨b⟩⟩)):
  Yl E n L S ⟨d,.binOp .eql xt x y yt,ty,pos,af,gd⟩ (.bool (decide (a=b))):=fun o w g _=>by
 simp[execOp,eqGuard,binOp_string_eql,ByteArray.toList_eq,g.ev hx,g.ev hy,pure]
 exact Bool.eq_iff_iff.2 (by simp)
variable {H:List HP}{Q:Exit→Act→World→Prop}
theorem qAe {ops:List Oper}{S:List HP}{fuel:Nat}{listed:Array Bool}(i:Nat){d:Option Nat}{op:Op}{ty:TypeId}{pos:String}{af:Array Edge}{j t:Nat}{b:Bool}(hi:ops[i]?=some ⟨d,op,ty,pos,af,some (j,b)⟩)
  (hj:(ops[j]?).bind (·.dst)=some t) (hl:look L t=some (.bool b)) (hr:Region.ready .any ops.toArray listed=[i]) (hd:inB n d=true)
  (h:Ld E n L H ⟨d,op,ty,pos,af,some (j,b)⟩ (fun v H'=>(∀k,eG H' k→eG S k)∧WPD E ops S Q fuel (listed.setIfInBounds i true) n (putL d v L) H')):WPD E ops S Q (fuel+1) listed n L H:=fun _ a w g=>
 wpAnyH_all hr (by simp) fun j' hj'=>by
  obtain rfl:j'=i:=by simpa using hj'
  have hj2:(ops.toArray[j]?).bind (·.dst)=some t:=by simpa using hj
  have hyl:yielded ops.toArray a.tmps j=some b:=by simp only[yielded,hj2,Option.bind_some,g.f.fr t _ hl]
  unfold wpOp
  simp only[gB hi,Region.wanted,hyl,beq_self_eq_true,if_true]
  exact .inl (h _ _ a w g (fun v H' w' hk hs=>⟨hs.imp hk.1,hk.2 hk.1 _ _ ⟨g.f.put d v hd,hs⟩⟩))
theorem qEs {ops:List Oper}{S:List HP}{fuel:Nat}{listed:Array Bool}(t:Nat){p:Prop}[Decidable p](hl:look L t=some (.bool (decide p)))(h1:p→WPD E ops S Q fuel listed n ((t,.bool true)::L) H)(h2:¬p→WPD E ops S Q fuel listed n ((t,.bool false)::L) H):WPD E ops S Q fuel listed n L H:=fun hS a w g=>by
 by_cases hp:p
 ·exact h1 hp hS a w ⟨g.f.eq hl (by simp[hp]),g.hp⟩
 exact h2 hp hS a w ⟨g.f.eq hl (by simp[hp]),g.hp⟩
end
end Sl
namespace Go.Proofs.YtlmpojkmeglepaaGreatDoor
open Go Go.RowKit Sl Eg
set_option maxRecDepth 10000
variable {E:Env}
theorem ct_Num (hE:Seat E){i:Int}:Ct E 43 [.iface 58 (.int .i64 i)] [] (fun v Q=>v= .int .i64 i∧Q=[]):=by
 refine bO (hE.fn Tryz.func43) O O O (fun R=>?_)
 simp only[dU,uV,uW]
 refine dO (uA O (dN (aL (dO (uM O (uB (qNz O (hE.t O)) ?_))))))
 refine dN (bD O (bC (aK (dO (uM O (uB (qJq O (hE.t O)) ?_))))))
 refine uM O (uB (aT O O) (uB (aT O O) (uA O (uA O (dN (aL (dO (uM O (uB (qVc O) (dN (bD O (bC (aK (dO (uM O (uA O (dN (bZ ?_))))))))))))))))))
 exact uZ O (.tmp O .nil) ⟨O,O⟩
theorem ct_Is (hE:Seat E){i:Int}(hi:i≠0):Ct E 21 [.iface 58 (.int .i64 i),.int .i64 i] [] (fun v Q=>v= .bool true∧Q=[]):=by
 refine bO (hE.fn Tryz.func21) O O O (fun R=>?_)
 simp only[dU,uV,uW]
 refine dO (uA O (dN (dO (uM O (uX (ct_Num hE) O ?_)))))
 rintro _ _⟨rfl,rfl⟩
 simp only[uV,uW]
 refine uM O (uB (y_eq O O) (uM O ?_))
 refine dY 9 O (fun h=>?_) (fun h=>?_)
 ·refine dP (uM O (dP (uB (y_ne O O) (uB (aW O O) (uA O (aM (aK (bZ ?_))))))))
  exact uZ O (.tmp O .nil) ⟨by simp[one,hi],rfl⟩
 exact absurd O h
end Go.Proofs.YtlmpojkmeglepaaGreatDoor
namespace Sl
section
open Go Go.RowKit
variable {E:Env}{n:Nat}{L:Fr}{S S' H H':List HP}{ty:TypeId}{pos:String}{af:Array Edge}{d:Option Nat}{gd:Option (Nat×Bool)}{K:Value→List HP→Prop}{Q:Exit→Act→World→Prop}
theorem qNm {t:TypeId}{sz:Nat}{zs:List Value}(h:E.tab t=some ⟨.bool,sz,zs⟩):E.P.underlying t=some .bool:=by
 obtain⟨i',z,_,_,_,_,hk⟩:=fG h
 simp only[TK.holds]at hk
 split at hk
 ·assumption
 cases hk
theorem xE {x y:Operand}{t yt:TypeId}{a b:Bool}{sz:Nat}{zs:List Value}(hx:ev L x=some (.bool a))(hy:ev L y=some (.bool b))(ht:E.tab t=some ⟨.bool,sz,zs⟩):
  Yl E n L S ⟨d,.binOp .eql t x y yt,ty,pos,af,gd⟩ (.bool (decide (a=b))):=fun o w g _=>by
 have hu:=qNm ht
 have h1:(eqGuard .eql t x y (.bool a) (.bool b)).run E.P w= .ok () w:=by unfold eqGuard;simp
 have h2:binOp .eql t (.bool a) (.bool b)=(do pure (.bool (←Op.equal t (.bool a) (.bool b)))):=rfl
 have h3:=run_equal_bool (P:=E.P) w t a b hu
 simp[execOp,h1,h2,h3,g.ev hx,g.ev hy]
 exact Bool.eq_iff_iff.2 (by simp)
theorem ld_callv {x:Operand}{f:FuncId}{caps:List Value}{args:List Operand}{ts:Array TypeId}{vs:List Value}{Pre:List HP}{Φ:Value→List HP→Prop}(hc:Ct E f (vs++caps) Pre Φ)(hx:ev L x=some (.func (.func f) #[] ⟨caps⟩))(ha:evs L args=some vs)(hf:goFn E.P f=true)(hs:Sub Pre H H')(hk:∀v Qs,Φ v Qs→K v (Qs++H')):
  Ld E n L H ⟨d,.call {callee:= .value x,args:=args.toArray,argTypes:=ts},ty,pos,af,gd⟩ K:=fun Q next a w g hn=>by
 have hrun:(execOp a.eval ⟨d,.call {callee:= .value x,args:=args.toArray,argTypes:=ts},ty,pos,af,gd⟩).run E.P w= .ok (.enter f ⟨vs++caps⟩) w:=by
  have h1:=g.f.evs ha
  have h2:=g.f.ev hx
  have h3:(⟨vs⟩:Array Value)++(⟨caps⟩:Array Value)=⟨vs++caps⟩:=by simp
  simp[execOp,resolve,Deferred.ofValue,invoke,h2,yR hf,h1,h3]
 unfold Oper.wp
 rw[hrun,Oper.upon_enter]
 refine(hc (eG H') w ((g.hp.sub hs).imp fun _=>yT)).mono ?_
 rintro e w'⟨v,Qs,rfl,hΦ,hs'⟩
 exact hn v _ w' (hk v Qs hΦ) (hs'.imp fun _=>qDq)
theorem qQd {f:FuncId}{caps:List Operand}{vs:List Value}(hc:evs L caps=some vs):Yl E n L S ⟨d,.makeFunc (.func f) #[] caps.toArray,ty,pos,af,gd⟩ (.func (.func f) #[] ⟨vs⟩):=fun a w g _=>by
 have h1:=g.evs hc
 simp[execOp,Instr.makeFunc,h1]
end
section
open Go Go.RowKit
variable {E:Env}{n:Nat}{L:Fr}{S S' H H' H'':List HP}{ty:TypeId}{pos:String}{af:Array Edge}{d:Option Nat}{gd:Option (Nat×Bool)}{K:Value→List HP→Prop}{Q:Exit→Act→World→Prop}
def Rdb (w0:World)(a:Option Addr)(vs:List Value)(q:HP):Prop:=vs≠[]→∃g o,a=some ⟨g,o,none⟩∧∀k,q k→RdAt w0 g o vs k
theorem qKk {x y:Operand}{t e:TypeId}{p:Option Addr}{c m cc g o by_ sz sz':Nat}{xs us zs zs':List Value}{kk:TK}{q:HP}(ht:E.tab t=some ⟨.slice e 1 by_,sz,zs⟩)(he:E.tab e=some ⟨kk,sz',zs'⟩)(hz:Nat.beq zs'.length 1=true)
  (hx:ev L x=some (.slice p m c)) (hy:ev L y=some (.slice (some ⟨g,o,none⟩) us.length cc)) (hq:∀k,q k→RdAt E.w0 g o us k) (hm:Take q H H') (hm2:Take (sl p c e 1 m xs) H' H'') (hp:∀u∈us,u.oneCell'=true) (h0:0<us.length) (hb:(m+us.length)*by_≤140737488355328) (hb2:m+us.length≤maxLen)
  (hk:∀g' c' m' xs',m'=m+us.length→xs'=xs++us→K (.slice (some ⟨g',0,none⟩) m' c') (sl (some ⟨g',0,none⟩) c' e 1 m' xs'::q::H'')):Ld E n L H ⟨d,.call {callee:= .builtin .append,args:= #[x,y],argTypes:= #[t,t]},ty,pos,af,gd⟩ K:=fun Q next a w G hn=>by
 obtain⟨hu,j,hj,hs,hby⟩:=fI ht
 obtain⟨i,z,hi,hi2,hiz,hzc,_⟩:=fG he
 obtain rfl:i=j:=by rw[hi]at hj;simpa using hj
 have z1:=Nat.eq_of_beq_eq_true hz
 have s1:=G.hp.take hm
 have s2:Sat E.w0 w (sl p c e 1 m xs::q::H''):=(s1.imp fun _ h=>gZ (gF (fun _=>hm2.out) h))
 have hnews:∀j u,us[j]?=some u→w.cell? ((⟨g,o,none⟩:Addr).add j)=some u:=fun j u hu=>by rw[addr_add];exact qBl hq s1 hu
 obtain⟨g',c',w',hr,ho,hgr,hat,_⟩:=run_append_lies (P:=E.P) w t ty E.w0.heap.size e i z 1 by_ hu hi hiz hs hby (by rw[←Array.length_toList,hzc];exact z1) oO (.slice p m c) m xs s2.owns ⟨g,o,none⟩ us.length cc us oO hnews hp h0 hb2 hb s2.size _ rfl
 have hrun:(execOp a.eval ⟨d,.call {callee:= .builtin .append,args:= #[x,y],argTypes:= #[t,t]},ty,pos,af,gd⟩).run E.P w= .ok (.value (.slice (some ⟨g',0,none⟩) (m+us.length) c')) w':=by
  simp[execOp,resolve,invoke,builtin,G.f.ev hx,G.f.ev hy,hr]
 unfold Oper.wp
 rw[hrun,Oper.upon_value]
 exact hn _ _ _ (hk g' c' _ _ O O) (s2.resl ho hgr hat)
theorem vC {x y:Operand}{t e:TypeId}{p a':Option Addr}{c m cc es by_ sz:Nat}{zs xs:List Value}(ht:E.tab t=some ⟨.slice e es by_,sz,zs⟩)
  (hx:ev L x=some (.slice p m c)) (hy:ev L y=some (.slice a' 0 cc)) (hm:Take (sl p c e es m xs) H H') (hk:K (.slice p m c) H):Ld E n L H ⟨d,.call {callee:= .builtin .append,args:= #[x,y],argTypes:= #[t,t]},ty,pos,af,gd⟩ K:=fun Q next a w G hn=>by
 obtain⟨hu,j,hj,hs,hby⟩:=fI ht
 obtain⟨h1,h2,_,_,hh,_⟩:=(G.hp.take hm).hp
 have hmc:=(jK hh).1
 have hrun:(execOp a.eval ⟨d,.call {callee:= .builtin .append,args:= #[x,y],argTypes:= #[t,t]},ty,pos,af,gd⟩).run E.P w= .ok (.value (.slice p m c)) w:=by
  cases p<;>cases a'<;>simp[execOp,resolve,invoke,builtin,G.f.ev hx,G.f.ev hy,Builtin.append_,underlying,program,Sem.run,hu,Go.sizeOf,typeInfo,hj,Builtin.lenOf,Builtin.firstCells,hmc,storeCells,loadCells,loadCellsFrom]
 unfold Oper.wp
 rw[hrun,Oper.upon_value]
 exact hn _ _ _ hk G.hp
theorem wN {x y:Operand}{t e:TypeId}{p a:Option Addr}{c m k cc by_ sz sz':Nat}{xs us zs zs':List Value}{kk:TK}{q:HP}(ht:E.tab t=some ⟨.slice e 1 by_,sz,zs⟩)(he:E.tab e=some ⟨kk,sz',zs'⟩)(hz:Nat.beq zs'.length 1=true)
  (hx:ev L x=some (.slice p m c)) (hy:ev L y=some (.slice a k cc)) (hk0:k=us.length) (hq:Rdb E.w0 a us q) (hm:Take q H H') (hm2:Take (sl p c e 1 m xs) H' H'') (hp:∀u∈us,u.oneCell'=true) (hb:(m+us.length)*by_≤140737488355328) (hb2:m+us.length≤maxLen)
  (hk:∀p' c' m' xs',m'=m+us.length→xs'=xs++us→K (.slice p' m' c') (sl p' c' e 1 m' xs'::q::H'')):Ld E n L H ⟨d,.call {callee:= .builtin .append,args:= #[x,y],argTypes:= #[t,t]},ty,pos,af,gd⟩ K:=by
 subst hk0
 rcases Nat.eq_zero_or_pos us.length with h| h
 ·obtain rfl:=List.eq_nil_of_length_eq_zero h
  have key:Ld E n L (sl p c e 1 m xs::q::H'') ⟨d,.call {callee:= .builtin .append,args:= #[x,y],argTypes:= #[t,t]},ty,pos,af,gd⟩ K:=vC ht hx hy Take.here (hk p c m xs (by simp) (by simp))
  exact fun Q next a w G hn=>key Q next a w ⟨G.f,G.hp.imp fun _ s=>gZ (gF (fun _=>hm2.out) (hm.out s))⟩ hn
 obtain⟨g,o,rfl,hq'⟩:=hq (by rintro rfl;simp at h)
 exact qKk ht he hz hx hy hq' hm hm2 hp h hb hb2 (fun g' c'=>hk (some ⟨g',0,none⟩) c')
end
end Sl
