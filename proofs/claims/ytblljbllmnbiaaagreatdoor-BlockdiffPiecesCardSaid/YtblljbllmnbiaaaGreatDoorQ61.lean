import Derived.Test.YtblljbllmnbiaaaGreatDoorQ05
import Derived.Test.YtblljbllmnbiaaaGreatDoorQ60
set_option linter.all false
set_option maxHeartbeats 1000000
namespace Go.Proofs.YtblljbllmnbiaaaGreatDoor
open Go Go.RowKit Sl Eg
section
def nuF (ids:List Nat):Int→Option Value:=fun k=>if 0≤k∧k.toNat∈ids then some (.int .i64 (numb ids k.toNat:Nat))else none
theorem nuF_nil:(fun _=>none)=nuF []:=by funext k;simp[nuF]
theorem nuF_set {ids:List Nat}{x:Nat}(h:x∉ids):setF (nuF ids) (x:Nat) (.int .i64 ((ids.length+1:Nat):Int))=nuF (ids++[x]):=by
 funext k
 unfold setF nuF
 by_cases e:k=(x:Nat)
 ·subst e;simp[qVh h]
 rw[if_neg e]
 by_cases h0:0≤k
 ·have hk:k.toNat≠x:=oO
  simp only[h0,true_and,List.mem_append,List.mem_singleton,hk,or_false]
  rw[qRi hk]
 simp[h0]
theorem nuF_get (ids:List Nat)(x:Nat):wM false (.int .i64 0) (nuF ids (x:Nat))= .int .i64 (numb ids x:Nat):=by
 unfold wM nuF
 by_cases h:x∈ids
 ·simp[h]
 simp[h,jD.2 h]
end
section
set_option maxRecDepth 10000
variable {E:Env}
theorem vQ (l:List UInt8):∀u∈byC l,u.oneCell'=true:=fun u h=>by
 obtain⟨i,_,rfl⟩:=List.mem_map.1 h;rfl
theorem mP (l:List UInt8):(byC l).length=l.length:=List.length_map _
theorem qDn (a b:List UInt8):byC (a++b)=byC a++byC b:=by simp[byC]
theorem qNr (hE:Seat E)(r:Rl):Ct E 74 [.agg #[.int .i64 (Rl.kind (r):Nat),.int .u8 (Rl.byte (r):Nat),.int .i64 (Rl.left (r):Nat),.int .i64 (Rl.right (r):Nat),.int .i64 (Rl.times (r):Nat)]] [] (fun v Q=>∃p c,v= .slice p (kids r).length c∧Q=[sl p c 24 1 (kids r).length (idC (kids r))]):=by
 cases r with
 |letter b=>
  refine bO (hE.fn Tryz.func74) O O O (fun R=>?_)
  simp only[dV,uV,uW]
  refine gg2 ?_
  refine uU ?_
  refine iV O (fun b1=>?_)
  refine gg34 ?_
  apply cB
  ·rfl
  ·(apply Rs.tmp rfl;exact Rs.nil)
  ·exact⟨none,0,O,O⟩
  apply cO (gW (t:=24) (sz:=1))
  exact uI
 |pair a b=>
  refine bO (hE.fn Tryz.func74) O O O (fun R=>?_)
  simp only[dV,uV,uW]
  refine gg2 ?_
  refine uU ?_
  refine iV O (fun b1=>?_)
  refine gg24 ?_
  refine uU ?_
  refine aU (hE.t O) (hE.t O) O O O (fun b11=>?_)
  refine gg6 ?_
  apply cB
  ·rfl
  ·(apply Rs.tmp rfl;exact Rs.nil)
  ·exact⟨some ⟨b11,0,none⟩,2,O,O⟩
  apply cO (cK (p:=cells b11 [.int .i64 (a:Nat),.int .i64 (b:Nat)] 24) (p':=sl (some ⟨b11,0,none⟩) 2 24 1 2 (idC [a,b])) uK (gK O (by unfold maxLen;omega)))
  exact uI
 |power a k=>
  refine bO (hE.fn Tryz.func74) O O O (fun R=>?_)
  simp only[dV,uV,uW]
  refine gg2 ?_
  refine uU ?_
  refine iV O (fun b1=>?_)
  refine gg29 ?_
  refine uU ?_
  refine aU (hE.t O) (hE.t O) O O O (fun b16=>?_)
  refine gg6 ?_
  apply cB
  ·rfl
  ·(apply Rs.tmp rfl;exact Rs.nil)
  ·exact⟨some ⟨b16,0,none⟩,1,O,O⟩
  apply cO (cK (p:=cells b16 [.int .i64 (a:Nat)] 24) (p':=sl (some ⟨b16,0,none⟩) 1 24 1 1 (idC [a])) uK (gK O (by unfold maxLen;omega)))
  exact uI
def bputs (l:List UInt8):List UInt8:=vput l.length++l
end
end Go.Proofs.YtblljbllmnbiaaaGreatDoor
namespace Sl
open Go Go.RowKit
variable {E:Env}{n:Nat}{L:Fr}{S:List HP}{ty:TypeId}{pos:String}{af:Array Edge}{d:Option Nat}{gd:Option (Nat×Bool)}
end Sl
namespace Go.Proofs.YtblljbllmnbiaaaGreatDoor
open Go Go.RowKit Sl Eg
set_option maxRecDepth 10000
variable {E:Env}
def okC (i c:Nat):Prop:=(97≤c∧c≤122)∨(0<i∧((48≤c∧c≤57)∨c=45))
instance (i c:Nat):Decidable (okC i c):=inferInstanceAs (Decidable (_∨_))
def ValidN (bs:List UInt8):Prop:=1≤bs.length∧bs.length≤32∧∀i,i<bs.length→okC i (bs.getD i 0).toNat
instance (bs:List UInt8):Decidable (ValidN bs):=inferInstanceAs (Decidable (_∧_∧∀i,i<bs.length→_))
end Go.Proofs.YtblljbllmnbiaaaGreatDoor
namespace Sl
open Go Go.RowKit
variable {E:Env}{n:Nat}{L:Fr}{S S' H H':List HP}{ty:TypeId}{pos:String}{af:Array Edge}{d:Option Nat}{gd:Option (Nat×Bool)}{K:Value→List HP→Prop}
theorem dK {x:Operand}{t:TypeId}{g o p i:Nat}{k:TK}{sz:Nat}{zs vs us:List Value}{q:HP}(h:ev L x=some (.pointer (some ⟨g,p,none⟩)))(ht:E.tab t=some ⟨k,sz,zs⟩)(hk:k.agg=true)
  (hq:∀k,q k→RdAt E.w0 g o vs k) (hm:Take q S S') (hv:∀j u,us[j]?=some u→vs[i+j]?=some u) (hl:us.length=sz) (hp:p=o+i):Yl E n L S ⟨d,.load t x,ty,pos,af,gd⟩ (.agg ⟨us⟩):=fun a w g' s=>by
 subst hp
 have hr:=xE (P:=E.P) g (o+i) us 0 #[] (fun j u hu=>by
  rw[Nat.zero_add]
  have:=qGq hq (s.take hm) (hv j u hu)
  rwa [←Nat.add_assoc]at this)
 rw[hl]at hr
 simp[execOp,Instr.loadAt,Instr.sureAddr,loadVar,g'.ev h,nP ht,hk,tH ht,loadCells,hr]
theorem qBy {x y v:Operand}{b:Nat}{t kt et:TypeId}{ki:IntKind}{f:Int→Option Value}{k:Int}{u:Value}(ht:E.P.underlying t=some (.map kt et))(hkt:E.P.underlying kt=some (.int ki))(hx:ev L x=some (.map (some b)))(hy:ev L y=some (.int ki k))(hv:ev L v=some u)(hm:Take (mapF b ki f) H H')(hk:K undef (mapF b ki (setF f k u)::H')):
  Ld E n L H ⟨d,.insert t x y v,ty,pos,af,gd⟩ K:=fun Q next a w g hn=>by
 obtain⟨es,c,M,hh,he,hf,s1⟩:=qHb (g.hp.take hm)
 have hlt:b<w.heap.size:=(Array.getElem?_eq_some_iff.1 hh).1
 obtain⟨es',c',M',hrun,he',hf'⟩:∃(es':Array MapEntry)(c':Nat)(M':List (Int×Value)),(Instr.mapUpdate t (.map (some b)) (.int ki k) u).run E.P w= .ok () (ChangeMaps.setBlock w b (.map es' c'))∧Mp ki es'.toList c' M'∧∀x,M'.lookup x=setF f k u x:=by
  rcases wJ (k:=k) M es.toList 0 he.is with⟨g1,g2⟩|⟨v0,i,e,g1,g2,g3,g4,g5⟩
  ·refine⟨es.push {key:= .int ki k,val:=u,born:=c},c+1,M++[(k,u)],?_,by rw[Array.toList_push];exact he.push u g1,fun x=>?_⟩
   ·unfold Instr.mapUpdate
    simp only[Sem.run_bind,jV ht,Result.andThen_ok]
    simp only[getObj,Sem.run,hh]
    simp only[Result.andThen,Sem.run_bind,qZ hkt,Instr.findKey,jV hkt,g2,Sem.run_pure]
    simp only[setObj,Sem.run]
    rw[hh]
    rfl
   rw[qCa g1,setF,hf]
  refine⟨es.modify i fun e=>{e with key:= .int ki k,val:=u},c,setM k u M,?_,by rw[Array.toList_modify];exact he.modify (g5 u),fun x=>?_⟩
  ·have hs:Instr.sameBits 10000 (.int ki k) (.int ki k)=true:=by simp[Instr.sameBits]
   have he2:((es[i]?).map (·.key)).getD (.int ki k)= .int ki k:=by
    rw[←Array.getElem?_toList,g3]
    exact g4
   unfold Instr.mapUpdate
   simp only[Sem.run_bind,jV ht,Result.andThen_ok]
   simp only[getObj,Sem.run,hh]
   simp only[Result.andThen,Sem.run_bind,qZ hkt,Instr.findKey,jV hkt,g2,Sem.run_pure,Nat.zero_add,he2,Instr.keyThatStays,hs,if_true]
   simp only[setObj,Sem.run]
   rw[hh]
   rfl
  unfold setF
  by_cases e:x=k
  ·rw[if_pos e,e];exact qCp g1
  rw[if_neg e,yX e,hf]
 have hrun':(execOp a.eval ⟨d,.insert t x y v,ty,pos,af,gd⟩).run E.P w= .ok .skip (ChangeMaps.setBlock w b (.map es' c')):=by
  simp[execOp,g.f.ev hx,g.f.ev hy,g.f.ev hv,hrun]
 unfold Oper.wp
 rw[hrun',Oper.upon_skip]
 have hs2:Sat E.w0 (ChangeMaps.setBlock w b (.map es' c')) (pt b (.map es' c')::H'):=s1.write ⟨O,O,O,by simp[ChangeMaps.setBlock]⟩ (by simp[ChangeMaps.setBlock,hlt]) fun j hj=>by
  simp only[ChangeMaps.setBlock]
  rw[Array.getElem?_setIfInBounds_ne (by intro e;exact hj e.symm)]
 exact hn _ _ _ hk (hs2.imp fun k' h=>fP (fun k'' h''=>⟨es',c',M',h'',he',hf'⟩) h)
theorem rd_slz {w0:World}{g c m sz:Nat}{vs xs:List Value}{t:TypeId}(h:∀(i:Nat)(v:Value),vs[i]?=some v→xs[i]?=some v):∀k,sl (some ⟨g,0,none⟩) c t sz m xs k→RdAt w0 g 0 vs k:=fun k hk i v hv=>by
 obtain⟨_,h1|⟨g',cur,h1,h2,h3,h4,h5,h6⟩⟩:=hk
 ·cases h1.1
 cases h1
 refine .inr ⟨cur,t,(0,0),h2,?_⟩
 have hx:=h i v hv
 rw[←h6,List.getElem?_take]at hx
 split at hx
 ·rw[Nat.zero_add];simpa using hx
 cases hx
theorem ld_makeN {x:Operand}{t e:TypeId}{c es by_ sz sz':Nat}{zs zs':List Value}{kk:TK}(ht:E.tab t=some ⟨.slice e es by_,sz,zs⟩)(he:E.tab e=some ⟨kk,sz',zs'⟩)
  (hx:ev L x=some (.int .i64 (c:Nat))) (hb:by_*c≤281474976710656) (hc:c≤maxLen)
  (hk:∀b us,us.length=c*es→K (.slice (some ⟨b,0,none⟩) c c) (sl (some ⟨b,0,none⟩) c e es c us::H)):Ld E n L H ⟨d,.makeSlice t x x,ty,pos,af,gd⟩ K:=fun Q next a w G hn=>by
 obtain⟨hu,j,hj,hs,hby⟩:=fJ ht
 obtain⟨i,z,hi,hi2,hiz,hzc,_⟩:=fK he
 obtain rfl:i=j:=by rw[hi]at hj;simpa using hj
 subst hs hby
 have h63:(c:Int)≤9223372036854775807:=by have h:=hc;simp[maxLen]at h;omega
 have hr:=run_make (P:=E.P) w t e i z hu hi hiz .i64 .i64 (c:Int) (c:Int) (Int.natCast_nonneg c) (Int.le_refl _) (by rw[←Int.natCast_mul];omega) h63
 have hrun:(execOp a.eval ⟨d,.makeSlice t x x,ty,pos,af,gd⟩).run E.P w= .ok (.value (.slice (some ⟨w.heap.size,0,none⟩) c c)) (w.alloc (.cells (madeCells z.cells (c*i.size)) e)):=by
  simp[execOp,G.f.ev hx,hr]
 unfold Oper.wp
 rw[hrun,Oper.upon_value]
 have hz:=size_madeCells z.cells (c*i.size)
 generalize madeCells z.cells (c*i.size)=M at*
 refine hn _ _ _ (hk _ M.toList (by simpa using hz)) ?_
 have:=G.hp.new (.cells M e)
 exact this.imp fun _=>fP fun _ h=>gK (by simpa using hz) hc _ h
end Sl
