import Derived.Test.YtblljbllmnbiaaaGreatDoorQ05
import Derived.Test.YtblljbllmnbiaaaGreatDoorQ13
import Derived.Test.YtblljbllmnbiaaaGreatDoorQ60
set_option linter.all false
set_option maxHeartbeats 1000000
namespace Go.Proofs.YtblljbllmnbiaaaGreatDoor
open Go Go.RowKit Sl Eg
set_option maxRecDepth 10000
variable {E:Env}
theorem qAg (l:List UInt8):∀u∈byC l,u.oneCell'=true:=fun u h=>by
 obtain⟨i,_,rfl⟩:=List.mem_map.1 h;rfl
theorem jV (l:List UInt8):(byC l).length=l.length:=List.length_map _
theorem ct_rRefs (hE:Seat E)(r:Rl):Ct E 74 [.agg #[.int .i64 (Rl.kind (r):Nat),.int .u8 (Rl.byte (r):Nat),.int .i64 (Rl.left (r):Nat),.int .i64 (Rl.right (r):Nat),.int .i64 (Rl.times (r):Nat)]] [] (fun v Q=>∃p c,v= .slice p (kids r).length c∧Q=[sl p c 24 1 (kids r).length (idC (kids r))]):=by
 cases r with
 |letter b=>
  refine bO (hE.fn Tryz.func74) O O O (fun R=>?_)
  simp only[dR,uV,uW]
  refine gg2 ?_
  refine uU ?_
  refine iQ O (fun b1=>?_)
  refine gg34 ?_
  apply cB
  ·rfl
  ·(apply Rs.tmp rfl;exact Rs.nil)
  ·exact⟨none,0,O,O⟩
  apply cO (gL (t:=24) (sz:=1))
  exact uI
 |pair a b=>
  refine bO (hE.fn Tryz.func74) O O O (fun R=>?_)
  simp only[dR,uV,uW]
  refine gg2 ?_
  refine uU ?_
  refine iQ O (fun b1=>?_)
  refine gg24 ?_
  refine uU ?_
  refine aU (hE.t O) (hE.t O) O O O (fun b11=>?_)
  refine gg6 ?_
  apply cB
  ·rfl
  ·(apply Rs.tmp rfl;exact Rs.nil)
  ·exact⟨some ⟨b11,0,none⟩,2,O,O⟩
  apply cO (cK (p:=cells b11 [.int .i64 (a:Nat),.int .i64 (b:Nat)] 24) (p':=sl (some ⟨b11,0,none⟩) 2 24 1 2 (idC [a,b])) uK (nL O (by unfold maxLen;omega)))
  exact uI
 |power a k=>
  refine bO (hE.fn Tryz.func74) O O O (fun R=>?_)
  simp only[dR,uV,uW]
  refine gg2 ?_
  refine uU ?_
  refine iQ O (fun b1=>?_)
  refine gg29 ?_
  refine uU ?_
  refine aU (hE.t O) (hE.t O) O O O (fun b16=>?_)
  refine gg6 ?_
  apply cB
  ·rfl
  ·(apply Rs.tmp rfl;exact Rs.nil)
  ·exact⟨some ⟨b16,0,none⟩,1,O,O⟩
  apply cO (cK (p:=cells b16 [.int .i64 (a:Nat)] 24) (p':=sl (some ⟨b16,0,none⟩) 1 24 1 1 (idC [a])) uK (nL O (by unfold maxLen;omega)))
  exact uI
def bputs (l:List UInt8):List UInt8:=vput l.length++l
end Go.Proofs.YtblljbllmnbiaaaGreatDoor
namespace Sl
open Go Go.RowKit
variable {E:Env}{n:Nat}{L:Fr}{S:List HP}{ty:TypeId}{pos:String}{af:Array Edge}{d:Option Nat}{gd:Option (Nat×Bool)}
end Sl
namespace Go.Proofs.YtblljbllmnbiaaaGreatDoor
open Go Go.RowKit Sl Eg
set_option maxRecDepth 10000
variable {E:Env}
def okC (i c:Nat):Prop:=(97≤c∧c≤122)∨(0<i∧((48≤c∧c≤57)∨c=45))
instance (i c:Nat):Decidable (okC i c):=inferInstanceAs (Decidable (_∨_))
def ValidN (bs:List UInt8):Prop:=1≤bs.length∧bs.length≤32∧∀i,i<bs.length→okC i (bs.getD i 0).toNat
instance (bs:List UInt8):Decidable (ValidN bs):=inferInstanceAs (Decidable (_∧_∧∀i,i<bs.length→_))
end Go.Proofs.YtblljbllmnbiaaaGreatDoor
namespace Sl
open Go Go.RowKit
variable {E:Env}{n:Nat}{L:Fr}{S S' H H':List HP}{ty:TypeId}{pos:String}{af:Array Edge}{d:Option Nat}{gd:Option (Nat×Bool)}{K:Value→List HP→Prop}
theorem qJc {x y v:Operand}{b:Nat}{t kt et:TypeId}{ki:IntKind}{f:Int→Option Value}{k:Int}{u:Value}(ht:E.P.underlying t=some (.map kt et))(hkt:E.P.underlying kt=some (.int ki))(hx:ev L x=some (.map (some b)))(hy:ev L y=some (.int ki k))(hv:ev L v=some u)(hm:Take (mapF b ki f) H H')(hk:K undef (mapF b ki (setF f k u)::H')):
  Ld E n L H ⟨d,.insert t x y v,ty,pos,af,gd⟩ K:=fun Q next a w g hn=>by
 obtain⟨es,c,M,hh,he,hf,s1⟩:=qGw (g.hp.take hm)
 have hlt:b<w.heap.size:=(Array.getElem?_eq_some_iff.1 hh).1
 obtain⟨es',c',M',hrun,he',hf'⟩:∃(es':Array MapEntry)(c':Nat)(M':List (Int×Value)),(Instr.mapUpdate t (.map (some b)) (.int ki k) u).run E.P w= .ok () (ChangeMaps.setBlock w b (.map es' c'))∧Mp ki es'.toList c' M'∧∀x,M'.lookup x=setF f k u x:=by
  rcases wM (k:=k) M es.toList 0 he.is with⟨g1,g2⟩|⟨v0,i,e,g1,g2,g3,g4,g5⟩
  ·refine⟨es.push {key:= .int ki k,val:=u,born:=c},c+1,M++[(k,u)],?_,by rw[Array.toList_push];exact he.push u g1,fun x=>?_⟩
   ·unfold Instr.mapUpdate
    simp only[Sem.run_bind,jR ht,Result.andThen_ok]
    simp only[getObj,Sem.run,hh]
    simp only[Result.andThen,Sem.run_bind,qU hkt,Instr.findKey,jR hkt,g2,Sem.run_pure]
    simp only[setObj,Sem.run]
    rw[hh]
    rfl
   rw[qBu g1,setF,hf]
  refine⟨es.modify i fun e=>{e with key:= .int ki k,val:=u},c,setM k u M,?_,by rw[Array.toList_modify];exact he.modify (g5 u),fun x=>?_⟩
  ·have hs:Instr.sameBits 10000 (.int ki k) (.int ki k)=true:=by simp[Instr.sameBits]
   have he2:((es[i]?).map (·.key)).getD (.int ki k)= .int ki k:=by
    rw[←Array.getElem?_toList,g3]
    exact g4
   unfold Instr.mapUpdate
   simp only[Sem.run_bind,jR ht,Result.andThen_ok]
   simp only[getObj,Sem.run,hh]
   simp only[Result.andThen,Sem.run_bind,qU hkt,Instr.findKey,jR hkt,g2,Sem.run_pure,Nat.zero_add,he2,Instr.keyThatStays,hs,if_true]
   simp only[setObj,Sem.run]
   rw[hh]
   rfl
  unfold setF
  by_cases e:x=k
  ·rw[if_pos e,e];exact qCl g1
  rw[if_neg e,yM e,hf]
 have hrun':(execOp a.eval ⟨d,.insert t x y v,ty,pos,af,gd⟩).run E.P w= .ok .skip (ChangeMaps.setBlock w b (.map es' c')):=by
  simp[execOp,g.f.ev hx,g.f.ev hy,g.f.ev hv,hrun]
 unfold Oper.wp
 rw[hrun',Oper.upon_skip]
 have hs2:Sat E.w0 (ChangeMaps.setBlock w b (.map es' c')) (pt b (.map es' c')::H'):=s1.write ⟨O,O,O,by simp[ChangeMaps.setBlock]⟩ (by simp[ChangeMaps.setBlock,hlt]) fun j hj=>by
  simp only[ChangeMaps.setBlock]
  rw[Array.getElem?_setIfInBounds_ne (by intro e;exact hj e.symm)]
 exact hn _ _ _ hk (hs2.imp fun k' h=>fQ (fun k'' h''=>⟨es',c',M',h'',he',hf'⟩) h)
theorem rd_slz {w0:World}{g c m sz:Nat}{vs xs:List Value}{t:TypeId}(h:∀(i:Nat)(v:Value),vs[i]?=some v→xs[i]?=some v):∀k,sl (some ⟨g,0,none⟩) c t sz m xs k→RdAt w0 g 0 vs k:=fun k hk i v hv=>by
 obtain⟨_,h1|⟨g',cur,h1,h2,h3,h4,h5,h6⟩⟩:=hk
 ·cases h1.1
 cases h1
 refine .inr ⟨cur,t,(0,0),h2,?_⟩
 have hx:=h i v hv
 rw[←h6,List.getElem?_take]at hx
 split at hx
 ·rw[Nat.zero_add];simpa using hx
 cases hx
end Sl
