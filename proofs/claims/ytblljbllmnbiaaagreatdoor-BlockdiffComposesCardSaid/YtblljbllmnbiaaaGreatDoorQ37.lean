import Derived.Test.YtblljbllmnbiaaaGreatDoorQ36
set_option linter.all false
set_option maxHeartbeats 1000000
namespace Go.Proofs.YtblljbllmnbiaaaGreatDoor
open Go Go.RowKit Sl Eg
set_option maxRecDepth 10000
section
variable {E:Env}{Es:List Ent}{pp tb s most:Nat}
inductive Sns (L:List Rl):List (List UInt8)→List Nat→Prop where
 |nil:Sns L [] []
 |cons {t:List UInt8} {x:Nat} {ts:List (List UInt8)} {ids:List Nat}:Sn L t x→Sns L ts ids→Sns L (t::ts) (x::ids)
theorem Sns.length {L:List Rl}{ts:List (List UInt8)}{ids:List Nat}(h:Sns L ts ids):ids.length=ts.length:=by
 induction h with
 |nil=>rfl
 |cons _ _ ih=>simp[ih]
theorem Sns.append {L:List Rl}{ts us:List (List UInt8)}{ids js:List Nat}(h:Sns L ts ids)(h':Sns L us js):Sns L (ts++us) (ids++js):=by
 induction h with
 |nil=>exact h'
 |cons h1 _ ih=>exact .cons h1 ih
theorem Sns.one {L:List Rl}{t:List UInt8}{x:Nat}(h:Sn L t x):Sns L [t] [x]:= .cons h .nil
theorem Sns.up {Es M:List Ent}{ts:List (List UInt8)}{ids:List Nat}(h:Sns (rls Es) ts ids):Sns (rls (Es++M)) ts ids:=by
 induction h with
 |nil=>exact .nil
 |cons h1 _ ih=>exact .cons h1.up ih
theorem Sns.get {L:List Rl}{ts:List (List UInt8)}{ids:List Nat}(h:Sns L ts ids):∀{k x:Nat},ids[k]?=some x→∃t,ts[k]?=some t∧Sn L t x:=by
 induction h with
 |nil=>intro k x e;simp at e
 |cons h1 _ ih=>
  intro k x e
  cases k with
  |zero=>simp at e;subst e;exact⟨_,rfl,h1⟩
  |succ k=>exact ih (k:=k) (by simpa using e)
theorem zS {ts:List (List UInt8)}{k:Nat}{t:List UInt8}(h:ts[k]?=some t):(ts.take (k+1)).flatten=(ts.take k).flatten++t:=by
 rw[List.take_add_one,h];simp
theorem qTx (ts:List (List UInt8))(k:Nat):(ts.take k).flatten.length≤ts.flatten.length:=by
 have e:ts=ts.take k++ts.drop k:=(List.take_append_drop k ts).symm
 conv=>rhs;rw[e,List.flatten_append,List.length_append]
 omega
theorem idC_one (ids:List Nat):∀u∈idC ids,u.oneCell'=true:=fun u h=>by
 obtain⟨x,_,rfl⟩:=List.mem_map.1 h;rfl
theorem yA (ids:List Nat):(idC ids).length=ids.length:=by simp[idC]
theorem qOh {out ids:List Nat}{x:Nat}(h:out.length<ids.length):bX (idC (out++ids.drop out.length)) out.length [.int .i64 (x:Nat)]=idC ((out++[x])++ids.drop (out++[x]).length):=by
 rw[jL _ _ _ (by rw[yA,List.length_append,List.length_drop];simp;omega),iU,iU,iU,List.length_append,List.length_singleton,List.length_singleton]
 have e1:(idC out++idC (ids.drop out.length)).take out.length=idC out:=List.take_left' (yA out)
 have e2:(idC out++idC (ids.drop out.length)).drop (out.length+1)=idC (ids.drop (out.length+1)):=by
  rw[List.drop_append,yA,List.drop_of_length_le (by rw[yA];omega),show out.length+1-out.length=1 by omega]
  simp[idC,List.map_drop]
 rw[e1,e2]
 simp[idC]
theorem qGg {out ids:List Nat}{k x:Nat}(h:out.length≤k)(hx:ids[k]?=some x):(out++ids.drop out.length)[k]?=some x:=by
 rw[List.getElem?_append_right h,List.getElem?_drop,show out.length+(k-out.length)=k by omega];exact hx
theorem qSn (hE:Seat E){g c:Nat}{ids:List Nat}(h0:0<ids.length)(hl:ids.length<1000000):
  Ct E 89 [.slice (some ⟨g,0,none⟩) ids.length c] [sl (some ⟨g,0,none⟩) c 24 1 ids.length (idC ids)]
   (fun v Q=>∃g' c',v= .slice (some ⟨g',0,none⟩) ids.length c'∧Q=[sl (some ⟨g',0,none⟩) c' 24 1 ids.length (idC ids),sl (some ⟨g,0,none⟩) c 24 1 ids.length (idC ids)]):=by
 refine bO (hE.fn Tryz.func89) O O O (fun R=>?_)
 simp only[dR,uV,uW]
 refine gg17 ?_
 refine uU ?_
 refine lY (hE.t O) (fun b5=>?_)
 refine gg1 ?_
 refine uU ?_
 apply qJa (hE.t O) (hE.t O) O O O
 ·exact uK
 ·exact uK
 ·exact idC_one ids
 ·exact h0
 ·omega
 ·unfold maxLen;omega
 intro g' c' m' xs' hm hx
 obtain rfl:m'=ids.length:=by omega
 obtain rfl:xs'=idC ids:=by rw[hx];rfl
 refine gg4 ?_
 exact uZ O (.tmp O .nil) ⟨g',c',O,O⟩
end
section
variable {E:Env}{Es:List Ent}{pp tb s most:Nat}
structure CoG where
 M:List Ent
 ids:List Nat
 ts:List (List UInt8)
structure CiG where
 M:List Ent
 out:List Nat
 ts:List (List UInt8)
theorem qNf {v:Int}:bX (List.map (fun i=>[Value.int IntKind.i64 0].getD (i% [Value.int IntKind.i64 0].length) default) (List.range 1)) 0 (bP (.int .i64 v))=[.int .i64 v]:=rfl
theorem qAo (hE:Seat E)(hB:Base E.w0){g c:Nat}{ids:List Nat}{ts:List (List UInt8)}(h:Sns (rls Es) ts ids)(h0:0<ids.length)(hl:ids.length<1000000)(hlen:ts.flatten.length≤1000000000)(hroom:Es.length+ids.length*ts.flatten.length≤most):
  Ct E 54 [uPt pp,.slice (some ⟨g,0,none⟩) ids.length c] [cells pp [uPt s,uPt tb] 86,tabP tb s (rls Es),bR s most Es,sl (some ⟨g,0,none⟩) c 24 1 ids.length (idC ids)]
   (fun v Q=>∃M id,v= .tuple #[.int .i64 (id:Nat),.nilIface]∧M.length≤ids.length*ts.flatten.length∧Sn (rls (Es++M)) ts.flatten id∧Q=[cells pp [uPt s,uPt tb] 86,tabP tb s (rls (Es++M)),bR s most (Es++M),sl (some ⟨g,0,none⟩) c 24 1 ids.length (idC ids)]):=by
 have hmx:dB=1152921504606846976:=rfl
 have hnl:=h.length
 have hget:∀{k:Nat},k<ids.length→∃x t,ids[k]?=some x∧ts[k]?=some t∧Sn (rls Es) t x:=fun hk=>by
  obtain⟨x,hx⟩:∃x,ids[_]?=some x:=⟨_,List.getElem?_eq_getElem hk⟩
  obtain⟨t,h1,h2⟩:=h.get hx
  exact⟨x,t,hx,h1,h2⟩
 refine bO (hE.fn Tryz.func54) O O O (fun R=>?_)
 simp only[dR,uV,uW]
 refine gg10 ?_
 refine uX (fK hE) O ?_
 rintro _ _⟨rfl,rfl⟩
 simp only[uV,uW]
 refine gg15 ?_
 refine dV (fun k:Nat=>[(0,uPt pp),(1,.slice (some ⟨g,0,none⟩) ids.length c),(23,.slice (some ⟨g,0,none⟩) ids.length c),(24,.int .i64 (ids.length:Nat)),(25,.int .i64 (k:Nat))]) (fun _=>[cells pp [uPt s,uPt tb] 86,tabP tb s (rls Es),bR s most Es,sl (some ⟨g,0,none⟩) c 24 1 ids.length (idC ids),R]) (fun k=>ids.length-k) (fun k=>k≤ids.length) 0 (Nat.zero_le _) ⟨O,O,O,O,O,trivial⟩ ?_ ?_
 ·exact uI
 intro k hk
 refine gg6 ?_
 refine bE O (fun hlt=>?_) (fun hlt=>?_)
 ·have hkn:k<ids.length:=oO
  obtain⟨x,t,hx,ht,hsn⟩:=hget hkn
  have f0:=kJ hx ((k:Nat):Int).toNat oO
  have hx1:=hsn.gd.1
  rw[bQ]at hx1
  refine gg17 ?_
  refine dS 31 O (fun h1=>?_) (fun h1=>?_)
  ·exact absurd h1 oO
  refine gg5 ?_
  refine uX (fK hE) O ?_
  rintro _ _⟨rfl,rfl⟩
  simp only[uV,uW]
  refine gg1 ?_
  refine uX (qIj hE) O ?_
  rintro _ _⟨rfl,rfl⟩
  simp only[uV,uW]
  refine gg5 ?_
  refine bE O (fun h2=>?_) (fun h2=>?_)
  ·exact absurd h2 oO
  refine gg6 ?_
  refine uX (nD hE hB hsn.gd) O ?_
  rintro _ _⟨rfl,rfl⟩
  simp only[uV,uW]
  refine gg21 ?_
  refine iG 25 (.int .i64 ((k+1:Nat):Int)) O (bW oO) ?_
  refine bS (ι:=Nat) (j:=k+1) oO (by show ids.length-(k+1)<ids.length-k;omega) ⟨O,O,O,O,O,trivial⟩ ?_
  exact uI
 obtain rfl:k=ids.length:=by omega
 refine gg19 ?_
 refine dV (fun k:Nat=>[(0,uPt pp),(1,.slice (some ⟨g,0,none⟩) ids.length c),(10,.int .i64 ((ts.take k).flatten.length:Nat)),(49,.slice (some ⟨g,0,none⟩) ids.length c),(50,.int .i64 (ids.length:Nat)),(51,.int .i64 (k:Nat))]) (fun _=>[cells pp [uPt s,uPt tb] 86,tabP tb s (rls Es),bR s most Es,sl (some ⟨g,0,none⟩) c 24 1 ids.length (idC ids),R]) (fun k=>ids.length-k) (fun k=>k≤ids.length) 0 (Nat.zero_le _) ⟨O,O,O,O,O,O,trivial⟩ ?_ ?_
 ·exact uI
 intro k hk
 refine gg6 ?_
 refine bE O (fun hlt=>?_) (fun hlt=>?_)
 ·have hkn:k<ids.length:=oO
  obtain⟨x,t,hx,ht,hsn⟩:=hget hkn
  have f0:=kJ hx ((k:Nat):Int).toNat oO
  have eT:(ts.take (k+1)).flatten.length=(ts.take k).flatten.length+len (rls Es) x:=by rw[zS ht,List.length_append,hsn.len]
  have hTl:=qTx ts (k+1)
  refine gg21 ?_
  refine uX (mO hE hsn.gd.1) O ?_
  rintro _ _⟨rfl,rfl⟩
  simp only[uV,uW]
  refine uX (qSr hE oO) O ?_
  rintro _ _⟨rfl,rfl⟩
  simp only[uV,uW]
  refine gg21 ?_
  rw[←eT]
  refine iG 51 (.int .i64 ((k+1:Nat):Int)) O (bW oO) ?_
  refine bS (ι:=Nat) (j:=k+1) oO (by show ids.length-(k+1)<ids.length-k;omega) ⟨O,O,O,O,O,O,trivial⟩ ?_
  exact uI
 obtain rfl:k=ids.length:=by omega
 refine gg13 ?_
 refine bE O (fun hz=>?_) (fun hz=>?_)
 ·exact absurd hz oO
 refine gg5 ?_
 refine uX (qSn hE h0 hl) O ?_
 rintro _ _⟨g2,c2,rfl,rfl⟩
 simp only[uV,uW]
 refine gg5 ?_
 refine dV (fun x:CoG=>[(0,uPt pp),(14,.slice (some ⟨g2,0,none⟩) x.ids.length c2)]) (fun x=>[cells pp [uPt s,uPt tb] 86,tabP tb s (rls (Es++x.M)),bR s most (Es++x.M),sl (some ⟨g2,0,none⟩) c2 24 1 x.ids.length (idC x.ids),sl (some ⟨g,0,none⟩) c 24 1 ids.length (idC ids),R]) (fun x=>x.ids.length) (fun x=>1≤x.ids.length∧x.ids.length<1000000∧Sns (rls (Es++x.M)) x.ts x.ids∧x.ts.flatten=ts.flatten∧x.M.length+x.ids.length*ts.flatten.length≤ids.length*ts.flatten.length) ⟨[],ids,ts⟩ ⟨h0,hl,by rw[List.append_nil];exact h,rfl,by simp⟩ ⟨rfl,rfl,trivial⟩ ?_ ?_
 ·rw[List.append_nil]
  exact uI
 rintro⟨M,js,us⟩⟨hj1,hjl,hs,hfl,hpot⟩
 simp only at hj1 hjl hs hfl hpot ⊢
 refine gg8 ?_
 refine bE O (fun hgt=>?_) (fun hgt=>?_)
 ·refine gg6 ?_
  refine uB (gV 0 O O (hE.t O) O (Nat.zero_le _)) ?_
  refine gg10 ?_
  refine dV (fun x:CiG=>[(0,uPt pp),(14,.slice (some ⟨g2,0,none⟩) js.length c2),(15,.slice (some ⟨g2,0,none⟩) x.out.length c2),(16,.int .i64 ((2*x.out.length:Nat):Int))]) (fun x=>[cells pp [uPt s,uPt tb] 86,tabP tb s (rls (Es++x.M)),bR s most (Es++x.M),sl (some ⟨g2,0,none⟩) c2 24 1 js.length (idC (x.out++js.drop x.out.length)),sl (some ⟨g,0,none⟩) c 24 1 ids.length (idC ids),R]) (fun x=>js.length-2*x.out.length) (fun x=>2*x.out.length≤js.length∧(∃N,x.M=M++N)∧Sns (rls (Es++x.M)) x.ts x.out∧x.ts.flatten=(us.take (2*x.out.length)).flatten∧x.M.length+(js.length-x.out.length)*ts.flatten.length≤ids.length*ts.flatten.length) ⟨M,[],[]⟩ ⟨by simp,⟨[],by simp⟩,.nil,by simp,by simpa using hpot⟩ ⟨rfl,rfl,rfl,rfl,trivial⟩ ?_ ?_
  ·simp only[List.length_nil,List.drop_zero,List.nil_append]
   exact uI
  rintro⟨M1,out,vs⟩⟨ho,⟨N,hMN⟩,hso,hvf,hpot1⟩
  simp only at ho hMN hso hvf hpot1 ⊢
  subst hMN
  have hs1:Sns (rls (Es++(M++N))) us js:=by rw[←List.append_assoc];exact hs.up
  refine gg10 ?_
  refine bE O (fun hin=>?_) (fun hin=>?_)
  ·have hi1:2*out.length<js.length:=oO
   have hi2:2*out.length+1<js.length:=oO
   obtain⟨x,hx⟩:∃x,js[2*out.length]?=some x:=⟨_,List.getElem?_eq_getElem hi1⟩
   obtain⟨y,hy⟩:∃x,js[2*out.length+1]?=some x:=⟨_,List.getElem?_eq_getElem hi2⟩
   obtain⟨tx,htx,hsx⟩:=hs1.get hx
   obtain⟨ty,hty,hsy⟩:=hs1.get hy
   have f0:=kJ (qGg (out:=out) oO hx) ((2*out.length:Nat):Int).toNat oO
   have f1:=kJ (qGg (out:=out) oO hy) (((2*out.length:Nat):Int)+1).toNat oO
   have e1:=zS htx
   have e2:=zS hty
   have hle:=qTx us (2*out.length+1+1)
   have hxy:tx.length+ty.length≤ts.flatten.length:=by
    rw[e2,e1,hfl]at hle
    simp only[List.length_append]at hle
    omega
   have hsub:(js.length-out.length)*ts.flatten.length=(js.length-(out.length+1))*ts.flatten.length+ts.flatten.length:=by
    rw[show js.length-out.length=(js.length-(out.length+1))+1 by omega,Nat.succ_mul]
   have hr:(Es++(M++N)).length+(tx.length+ty.length)≤most:=by
    have e3:(Es++(M++N)).length=Es.length+(M++N).length:=List.length_append
    omega
   have hl2:tx.length+ty.length≤1000000000:=oO
   refine gg5 ?_
   refine uH ([sl (some ⟨g2,0,none⟩) c2 24 1 js.length (idC (out++js.drop out.length))]) ?_
   refine gg10 ?_
   apply dG 10 O oK O
   refine uC (ct_join (Es:=Es++(M++N)) hE hB hsx hsy hl2 hr) O ?_
   rintro _ _⟨N2,id,rfl,hN2,hid, -,rfl⟩
   rw[List.append_assoc,List.append_assoc]at hid ⊢
   simp only[uV,uW]
   refine uE ?_
   refine gg20 ?_
   refine uU ?_
   refine aU (hE.t O) (hE.t O) O O O (fun b103=>?_)
   refine uU ?_
   apply kM (hE.t O) (hE.t O) O O
   ·exact uK
   ·exact uK
   ·rfl
   ·rfl
   ·omega
   refine gg9 ?_
   have hol:out.length<js.length:=oO
   have hset:=qOh (out:=out) (ids:=js) (x:=id) hol
   have e4:(out++[id]).length=out.length+1:=by simp
   refine iG 15 (.slice (some ⟨g2,0,none⟩) (out++[id]).length c2) O (by rw[e4]) ?_
   refine iG 16 (.int .i64 ((2*(out++[id]).length:Nat):Int)) O (bW (by rw[e4];omega)) ?_
   refine bS (ι:=CiG) (j:=⟨M++(N++N2),out++[id],vs++[tx++ty]⟩) ⟨by show 2*(out++[id]).length≤_;rw[e4];omega,⟨_,rfl⟩,?_,?_,?_⟩ (by show js.length-2*(out++[id]).length<js.length-2*out.length;rw[e4];omega) ⟨rfl,rfl,rfl,rfl,trivial⟩ ?_
   ·show Sns (rls (Es++(M++(N++N2)))) (vs++[tx++ty]) (out++[id])
    refine Sns.append ?_ (.one hid)
    have:=hso.up (M:=N2)
    rwa [List.append_assoc,List.append_assoc]at this
   ·show(vs++[tx++ty]).flatten=(us.take (2*(out++[id]).length)).flatten
    rw[e4,show 2*(out.length+1)=2*out.length+1+1 by omega,e2,e1,List.flatten_append,hvf]
    simp
   ·show(M++(N++N2)).length+(js.length-(out++[id]).length)*ts.flatten.length≤_
    rw[e4,←List.append_assoc,List.length_append]
    omega
   simp only[Nat.mul_one]
   rw[qNf,hset]
   exact uI
  have hN2:js.length=2*out.length∨js.length=2*out.length+1:=oO
  have hlev:js.length=2*out.length+1→∃x t,js[2*out.length]?=some x∧us[2*out.length]?=some t∧Sn (rls (Es++(M++N))) t x:=fun e=>by
   obtain⟨x,hx⟩:∃x,js[2*out.length]?=some x:=⟨_,List.getElem?_eq_getElem oO⟩
   obtain⟨t,h1,h2⟩:=hs1.get hx
   exact⟨x,t,hx,h1,h2⟩
  have husl:=hs.length
  refine gg14 ?_
  refine bE O (fun hod=>?_) (fun hod=>?_)
  ·have hno:js.length=2*out.length+1:=oO
   obtain⟨x,t,hx,ht,hsx⟩:=hlev hno
   have hol:out.length<js.length:=oO
   have f0:=kJ (qGg (out:=out) oO hx) (((js.length:Nat):Int)-1).toNat oO
   have hset:=qOh (out:=out) (ids:=js) (x:=x) hol
   have e4:(out++[x]).length=out.length+1:=by simp
   have e5:us.take (2*out.length+1)=us:=List.take_of_length_le oO
   have e6:=zS ht
   rw[e5]at e6
   refine gg8 ?_
   refine uU ?_
   refine aU (hE.t O) (hE.t O) O O O (fun b116=>?_)
   refine uU ?_
   apply kM (hE.t O) (hE.t O) O O
   ·exact uK
   ·exact uK
   ·rfl
   ·rfl
   ·omega
   refine gg8 ?_
   refine iG 14 (.slice (some ⟨g2,0,none⟩) (out++[x]).length c2) O (by rw[e4]) ?_
   simp only[Nat.mul_one]
   rw[qNf,hset]
   refine qMt (cK (p:=sl (some ⟨g2,0,none⟩) c2 24 1 js.length (idC ((out++[x])++js.drop (out++[x]).length))) (p':=sl (some ⟨g2,0,none⟩) c2 24 1 (out++[x]).length (idC (out++[x]))) uK (pR (by rw[e4];omega) (by rw[Nat.mul_one,iU];exact List.take_left' (yA _)) (by simp))) ?_
   refine bS (ι:=CoG) (j:=⟨M++N,out++[x],vs++[t]⟩) ⟨?_,?_,?_,?_,?_⟩ (by show(out++[x]).length<js.length;rw[e4];omega) ⟨O,O,trivial⟩ ?_
   ·show 1≤(out++[x]).length;omega
   ·show(out++[x]).length<1000000;omega
   ·exact hso.append (.one hsx)
   ·show(vs++[t]).flatten=_
    rw[List.flatten_append,hvf,←hfl,e6];simp
   ·show(M++N).length+(out++[x]).length*_≤_
    rw[e4]
    rw[show js.length-out.length=out.length+1 by omega]at hpot1
    exact hpot1
   exact uI
  have hne:js.length=2*out.length:=oO
  refine gg7 ?_
  refine qMt (cK (p:=sl (some ⟨g2,0,none⟩) c2 24 1 js.length (idC (out++js.drop out.length))) (p':=sl (some ⟨g2,0,none⟩) c2 24 1 out.length (idC out)) uK (pR oO (by rw[Nat.mul_one,iU];exact List.take_left' (yA _)) (by simp))) ?_
  refine bS (ι:=CoG) (j:=⟨M++N,out,vs⟩) ⟨?_,?_,hso,?_,?_⟩ (by show out.length<js.length;omega) ⟨O,O,trivial⟩ ?_
  ·show 1≤out.length;omega
  ·show out.length<1000000;omega
  ·show vs.flatten=_
   rw[hvf,←hfl,List.take_of_length_le oO]
  ·show(M++N).length+out.length*_≤_
   rw[show js.length-out.length=out.length by omega]at hpot1
   exact hpot1
  exact uI
 obtain⟨x,rfl⟩:∃x,js=[x]:=List.length_eq_one_iff.1 oO
 obtain⟨t,rfl,hsx⟩:∃t,us=[t]∧Sn (rls (Es++M)) t x:=by
  have:=hs.length
  obtain⟨t,rfl⟩:∃t,us=[t]:=List.length_eq_one_iff.1 (by simpa using this.symm)
  obtain⟨t',h1,h2⟩:=hs.get (k:=0) (x:=x) rfl
  simp at h1
  subst h1
  exact⟨_,O,h2⟩
 have f0:(idC [x])[(0:Int).toNat]?=some (.int .i64 (x:Nat)):=rfl
 have hl1:(1:Int)≤(([x].length:Nat):Int):=by simp
 refine gg15 ?_
 apply cB
 ·rfl
 ·(apply Rs.tmp rfl;apply Rs.tmp rfl;exact Rs.nil)
 ·refine⟨M,x,O,oO,?_,O⟩
  rw[←hfl]
  simpa using hsx
 exact uI
theorem qPo (hE:Seat E)(hB:Base E.w0):Ct E 54 [uPt pp,.slice none 0 0] [cells pp [uPt s,uPt tb] 86,tabP tb s (rls Es),bR s most Es] (fun v Q=>v= .tuple #[.int .i64 0,.nilIface]∧Q=[cells pp [uPt s,uPt tb] 86,tabP tb s (rls Es),bR s most Es]):=by
 refine bO (hE.fn Tryz.func54) O O O (fun R=>?_)
 simp only[dR,uV,uW]
 refine gg10 ?_
 refine uX (fK hE) O ?_
 rintro _ _⟨rfl,rfl⟩
 simp only[uV,uW]
 refine gg15 ?_
 refine gU 1 ?_
 refine gg27 ?_
 refine gU 1 ?_
 refine gg30 ?_
 exact uZ O (.tmp O (.tmp O .nil)) ⟨O,O⟩
end
end Go.Proofs.YtblljbllmnbiaaaGreatDoor
