import Derived.Test.YtjbdlljghogodaaGreatDoorQ08
set_option linter.all false
set_option maxHeartbeats 1000000
namespace Go.Proofs.YtjbdlljghogodaaGreatDoor
open Go Go.RowKit Sl Eg
set_option maxRecDepth 10000
section
variable {E:Env}{Es:List Ent}{pp tb s most:Nat}
structure CmG where
 st:Nat
 sum:Nat
 gx:List (Nat×Nat)
 gy:List (Nat×Nat)
 mx:List (Nat×Nat)
 my:List (Nat×Nat)
 q1:Option Addr
 q2:Option Addr
 d1:Nat
 d2:Nat
 m0:Nat
structure CmOk (L:List Rl)(bk:Bool)(X Y:List UInt8)(C0 from_:Nat)(x:CmG):Prop where
 st:x.st≤16777216
 w:∃w,X=w++strm L bk x.gx∧Y=w++strm L bk x.gy∧w.length=x.sum
 okx:gok L x.gx
 oky:gok L x.gy
 cost:x.st+(cost L x.gx+cost L x.gy)≤C0
 lx:x.gx.length≤4194304+2*x.st
 ly:x.gy.length≤4194304+2*x.st
 mark:from_≤x.st→∃u,strm L bk x.mx=u++strm L bk x.gx∧strm L bk x.my=u++strm L bk x.gy∧u.length+x.m0=x.sum∧gok L x.mx∧gok L x.my∧x.mx.length≤4194304+2*x.st∧x.my.length≤4194304+2*x.st
def CmPost (X Y:List UInt8)(C0:Nat)(pp s tb most:Nat)(Es:List Ent)(v:Value)(Q:List HP):Prop:=
 ∃n,v= .int .i64 (n:Nat)∧n≤lcp X Y∧(C0<16777216→n=lcp X Y)∧Q=[cells pp [uPt s,uPt tb] 108,tabP tb s (rls Es),bR s most Es]
theorem zS {L:List Rl}{a:List (Nat×Nat)}{sy k m:Nat}(hm:m≤k):cost L (eY a sy k m)+m*(2*len L sy-1)=cost L (a++[(sy,k)]):=by
 unfold eY
 rw[mQ,qKz]
 split
 ·rename_i h;rw[h]
 rw[mQ,qKz,Nat.add_assoc,←Nat.add_mul,Nat.sub_add_cancel hm]
theorem qPk {L:List Rl}(hwf:Wf L){bk:Bool}{i:Nat}{r:Rl}(h:L[i]?=some r)(hn:∀b,r≠ .letter b):cost L (fO bk r)+1≤2*len L (i+1)-1:=by
 have hk:=hwf.ok i r h
 have hlt:=(List.getElem?_eq_some_iff.1 h).1
 cases r with
 |letter b=>exact absurd rfl (hn b)
 |pair l r=>
  rw[qEr h hk]
  obtain⟨k1,k2,k3,k4⟩:=hk
  have h1:=qG hwf l k1 oO
  have h2:=qG hwf r k3 oO
  cases bk<;>simp[fO,cost]<;>omega
 |power x k=>
  rw[pF h hk]
  obtain⟨k1,k2,k3⟩:=hk
  have h1:=qG hwf x k1 oO
  simp only[fO,cost,Nat.add_zero]
  have e:k*(2*len L x-1)+k=2*(k*len L x):=by
   rw[←Nat.mul_succ,show(2*len L x-1).succ=2*len L x by omega,Nat.mul_left_comm]
  omega
theorem mI {L:List Rl}(hwf:Wf L){bk:Bool}{a:List (Nat×Nat)}{i k:Nat}{r:Rl}(h:L[i]?=some r)(hg:gok L (a++[(i+1,k)]))(hl:lvl L (i+1)≠0):
  strm L bk (eY a (i+1) k 1++fO bk r)=strm L bk (a++[(i+1,k)])∧gok L (eY a (i+1) k 1++fO bk r)∧cost L (eY a (i+1) k 1++fO bk r)+1≤cost L (a++[(i+1,k)])∧(eY a (i+1) k 1++fO bk r).length≤a.length+3:=by
 have hn:∀b,r≠ .letter b:=by
  rintro b rfl
  exact hl (iU h).2
 have ho:=kU.1 (gV.1 hg).2
 refine⟨?_,gV.2 ⟨zH hg ho.2.2.2.1,qLs hwf h ho.2.2.1⟩,?_,?_⟩
 ·rw[nH,qTl h (hwf.ok i r h) hn,qBm ho.2.2.2.1,rep_one]
 ·have h1:=zS (L:=L) (a:=a) (sy:=i+1) ho.2.2.2.1
  have h2:=qPk hwf (bk:=bk) h hn
  rw[mQ]
  omega
 rw[List.length_append]
 have h1:(eY a (i+1) k 1).length≤a.length+1:=by unfold eY;split <;>simp
 have h2:(fO bk r).length≤2:=by cases r<;>cases bk<;>simp[fO]
 omega
theorem qQb (hE:Seat E)(hB:Base E.w0){bk:Bool}{p3 p4:Option Addr}{c3 c4:Nat}{gx0 gy0:List (Nat×Nat)}(hgx:gok (rls Es) gx0)(hgy:gok (rls Es) gy0)(hl3:gx0.length≤4194304)(hl4:gy0.length≤4194304)
  (hX:(strm (rls Es) bk gx0).length≤1152921504606846976) (hY:(strm (rls Es) bk gy0).length≤1152921504606846976):
  Ct E 166 [.agg #[uPt pp,.bool bk,.slice p3 gx0.length c3],.agg #[uPt pp,.bool bk,.slice p4 gy0.length c4]]
   [sl p3 c3 245 2 gx0.length (gsC gx0),sl p4 c4 245 2 gy0.length (gsC gy0),cells pp [uPt s,uPt tb] 108,tabP tb s (rls Es),bR s most Es] (CmPost (strm (rls Es) bk gx0) (strm (rls Es) bk gy0) (cost (rls Es) gx0+cost (rls Es) gy0) pp s tb most Es):=by
 refine dY (p:=bR s most Es) uK (fun _ h=>dP h) (fun hsay=>?_)
 obtain⟨hwf,htx,hmost,hfit⟩:=hsay
 generalize hXX:strm (rls Es) bk gx0=X at*
 generalize hYY:strm (rls Es) bk gy0=Y at*
 generalize hCC:cost (rls Es) gx0+cost (rls Es) gy0=C0 at*
 refine bO (hE.fn Tryz.func166) O O O (fun R=>?_)
 simp only[dR,uV,uW]
 refine gg2 ?_
 refine uU ?_
 refine gL O (fun b2=>?_)
 refine uU ?_
 refine gL O (fun b3=>?_)
 refine gg13 ?_
 refine uU (cZ (hE.t O) (fun b7=>?_))
 refine gg9 ?_
 refine dW (fun x:CmG=>[(2,uPt b2),(3,uPt b3),(5,uPt pp),(6,.int .i64 (x.sum:Nat)),(7,uPt b7),(18,.int .i64 (x.st:Nat))])
  (fun x=>[rdP b2 (uPt pp) bk x.gx,rdP b3 (uPt pp) bk x.gy,cells b7 [.slice x.q1 x.mx.length x.d1,.slice x.q2 x.my.length x.d2,.int .i64 (x.m0:Nat)] 345,sl x.q1 x.d1 245 2 x.mx.length (gsC x.mx),sl x.q2 x.d2 245 2 x.my.length (gsC x.my),cells pp [uPt s,uPt tb] 108,tabP tb s (rls Es),bR s most Es,R])
  (fun x=>16777216-x.st) (CmOk (rls Es) bk X Y C0 1025) ⟨0,0,gx0,gy0,[],[],none,none,0,0,0⟩ ?_ ?_ ?_ ?_
 ·exact⟨by simp,⟨[],by simp[hXX],by simp[hYY],rfl⟩,hgx,hgy,by simp[hCC],by simpa using hl3,by simpa using hl4,fun h=>absurd h (by simp)⟩
 ·exact⟨O,O,O,O,O,O,trivial⟩
 ·apply cO (iH (t:=245) (sz:=2))
  apply cO (iH (t:=245) (sz:=2))
  apply cO
  ·apply fH (gs:=gx0) (x:=b2) (p:=p3) (c:=c3) (pv:=uPt pp) (bk:=bk)
   ·exact uK
   ·rfl
   rfl
  apply cO
  ·apply fH (gs:=gy0) (x:=b3) (p:=p4) (c:=c4) (pv:=uPt pp) (bk:=bk)
   ·exact uK
   ·rfl
   rfl
  exact uI
 rintro⟨st,sum,gx,gy,mx,my,q1,q2,d1,d2,m0⟩hok
 have hst:=hok.st
 obtain⟨w,hw1,hw2,hw3⟩:=hok.w
 have okx:=hok.okx
 have oky:=hok.oky
 have hcost:=hok.cost
 have lx:=hok.lx
 have ly:=hok.ly
 have hmk:=hok.mark
 simp only at hst hw1 hw2 hw3 okx oky hcost lx ly hmk ⊢
 have hsum:sum+(strm (rls Es) bk gx).length≤1152921504606846976:=by rw[hw1,List.length_append,hw3]at hX;exact hX
 have hsumy:sum+(strm (rls Es) bk gy).length≤1152921504606846976:=by rw[hw2,List.length_append,hw3]at hY;exact hY
 have hlcp:lcp X Y=sum+lcp (strm (rls Es) bk gx) (strm (rls Es) bk gy):=by rw[hw1,hw2,qDc,hw3]
 refine gg6 ?_
 refine bE O (fun hlt=>?_) (fun hlt=>?_)
 ·refine gg10 ?_
  apply qBq (ps:=fun i':Option Addr×Nat=>[cells b2 [uPt pp,.bool bk,.slice i'.1 gx.length i'.2] 296,sl i'.1 i'.2 245 2 gx.length (gsC gx)]) (p:=rdP b2 (uPt pp) bk gx)
  ·exact uK
  ·exact lZ
  rintro⟨px,cx⟩
  simp only[uV,uW]
  apply qBq (ps:=fun i':Option Addr×Nat=>[cells b3 [uPt pp,.bool bk,.slice i'.1 gy.length i'.2] 296,sl i'.1 i'.2 245 2 gy.length (gsC gy)]) (p:=rdP b3 (uPt pp) bk gy)
  ·exact uK
  ·exact lZ
  rintro⟨py,cy⟩
  simp only[uV,uW]
  refine gg8 ?_
  refine dS 25 O (fun hx0=>?_) (fun hx0=>?_)
  ·refine gg22 ?_
   apply cB
   ·rfl
   ·(apply Rs.tmp rfl;exact Rs.nil)
   ·have:gx=[]:=List.eq_nil_of_length_eq_zero oO
    subst this
    refine⟨sum,O,?_,fun _=>?_,O⟩<;>rw[hlcp,strm,lL]<;>omega
   exact uI
  refine gg11 ?_
  refine bE O (fun hy0=>?_) (fun hy0=>?_)
  ·refine gg14 ?_
   apply cB
   ·rfl
   ·(apply Rs.tmp rfl;exact Rs.nil)
   ·have:gy=[]:=List.eq_nil_of_length_eq_zero oO
    subst this
    refine⟨sum,O,?_,fun _=>?_,O⟩<;>rw[hlcp,strm,kF]<;>omega
   exact uI
  have px1:0<gx.length:=oO
  have py1:0<gy.length:=oO
  refine jK (p:=sl px cx 245 2 gx.length (gsC gx)) uK (fun _ h=>fA h px1) ?_
  rintro⟨g1,rfl⟩
  refine jK (p:=sl py cy 245 2 gy.length (gsC gy)) uK (fun _ h=>fA h py1) ?_
  rintro⟨g2,rfl⟩
  refine gg2 ?_
  refine iT (fun x:CmG=>[(2,uPt b2),(3,uPt b3),(5,uPt pp),(6,.int .i64 (x.sum:Nat)),(7,uPt b7),(8,.int .i64 (st:Nat)),(18,.int .i64 (st:Nat))]) (fun x=>[rdP b2 (uPt pp) bk x.gx,rdP b3 (uPt pp) bk x.gy,cells b7 [.slice x.q1 x.mx.length x.d1,.slice x.q2 x.my.length x.d2,.int .i64 (x.m0:Nat)] 345,sl x.q1 x.d1 245 2 x.mx.length (gsC x.mx),sl x.q2 x.d2 245 2 x.my.length (gsC x.my),cells pp [uPt s,uPt tb] 108,tabP tb s (rls Es),bR s most Es,R]) (fun x=>CmOk (rls Es) bk X Y C0 1024 x∧x.st=st∧x.gx.length=gx.length∧x.gy.length=gy.length) ?_ ?_
  ·refine gg5 ?_
   refine dS 33 O (fun he=>?_) (fun he=>?_)
   ·refine gg13 ?_
    refine bE O (fun hz=>?_) (fun hz=>?_)
    ·refine uN 8 ([cells b2 [uPt pp,.bool bk,.slice (some ⟨g1,0,none⟩) gx.length cx] 296,cells b3 [uPt pp,.bool bk,.slice (some ⟨g2,0,none⟩) gy.length cy] 296]) ?_
     refine gg2 ?_
     refine uT 3 O (uBf O) ?_
     refine gg1 ?_
     refine uT 6 O (aB O) ?_
     apply eO 2 O oK O
     refine uC (qLd hE px1 oO) O ?_
     rintro _ _⟨g1',c1',rfl,rfl⟩
     simp only[uV,uW]
     refine uE ?_
     apply eO 5 O oK O
     refine uC (qLd hE py1 oO) O ?_
     rintro _ _⟨g2',c2',rfl,rfl⟩
     simp only[uV,uW]
     refine uE ?_
     apply dG 7 O oK
     ·exact iZ (hE.t O) O O
     ·rfl
     apply gM O oK oK O
     refine uS ?_
     refine dZ (⟨st,sum,gx,gy,gx,gy,some ⟨g1',0,none⟩,some ⟨g2',0,none⟩,c1',c2',sum⟩:CmG) ⟨⟨hst,⟨w,hw1,hw2,hw3⟩,okx,oky,hcost,lx,ly,fun _=>⟨[],O,O,by simp,okx,oky,lx,ly⟩⟩,rfl,rfl,rfl⟩ ⟨rfl,rfl,rfl,rfl,rfl,rfl,rfl,trivial⟩ ?_
     apply cO
     ·apply fH (gs:=gx) (x:=b2) (pv:=uPt pp) (bk:=bk)
      ·exact uK
      ·rfl
      rfl
     apply cO
     ·apply fH (gs:=gy) (x:=b3) (pv:=uPt pp) (bk:=bk)
      ·exact uK
      ·rfl
      rfl
     exact uI
    refine gg6 ?_
    refine bE O (fun hgt=>?_) (fun hgt=>?_)
    ·obtain⟨u,hu1,hu2,hu3,hu4,hu5,hu6,hu7⟩:=hmk oO
     refine gg6 ?_
     refine uX (ct_leap hE (L:=rls Es) (bk:=bk) (u:=u) hu4 hu5 okx oky oO oO oO oO hu1 hu2 hu3 oO oO) O ?_
     rintro _ _⟨gx',gy',v,rfl,v1,v2,v3,v4,v5,v6,v7,v8,rfl⟩
     simp only[uV,uW]
     have hvl:sum+v.length≤1152921504606846976:=by rw[v1,List.length_append]at hsum;omega
     refine gg3 ?_
     refine gG 6 (.int .i64 ((sum+v.length:Nat):Int)) O (bW oO) ?_
     refine dZ (⟨st,sum+v.length,gx',gy',mx,my,q1,q2,d1,d2,m0⟩:CmG) ⟨⟨hst,⟨w++v,by rw[List.append_assoc,←v1];exact hw1,by rw[List.append_assoc,←v2];exact hw2,by simp[hw3]⟩,v3,v4,by show st+(cost (rls Es) gx'+cost (rls Es) gy')≤C0;omega,by show gx'.length≤4194304+2*st;omega,by show gy'.length≤4194304+2*st;omega,fun _=>⟨u++v,by rw[List.append_assoc,←v1];exact hu1,by rw[List.append_assoc,←v2];exact hu2,by simp;omega,hu4,hu5,hu6,hu7⟩⟩,rfl,v5,v6⟩ ⟨rfl,rfl,rfl,rfl,rfl,rfl,rfl,trivial⟩ ?_
     rw[←v5,←v6]
     apply cO
     ·apply fH (gs:=gx') (x:=b2) (pv:=uPt pp) (bk:=bk)
      ·exact uK
      ·rfl
      rfl
     apply cO
     ·apply fH (gs:=gy') (x:=b3) (pv:=uPt pp) (bk:=bk)
      ·exact uK
      ·rfl
      rfl
     exact uI
    obtain rfl:st=1024:=by omega
    exact absurd (by decide) hz
   refine gg15 ?_
   refine bE O (fun hgt=>?_) (fun hgt=>?_)
   ·exact absurd hgt oO
   refine gg1 ?_
   refine dZ (⟨st,sum,gx,gy,mx,my,q1,q2,d1,d2,m0⟩:CmG) ⟨⟨hst,⟨w,hw1,hw2,hw3⟩,okx,oky,hcost,lx,ly,fun h=>absurd h (by show ¬1024≤st;omega)⟩,O,O,O⟩ ⟨O,O,O,O,O,O,O,trivial⟩ ?_
   apply cO
   ·apply fH (gs:=gx) (x:=b2) (pv:=uPt pp) (bk:=bk)
    ·exact uK
    ·rfl
    rfl
   apply cO
   ·apply fH (gs:=gy) (x:=b3) (pv:=uPt pp) (bk:=bk)
    ·exact uK
    ·rfl
    rfl
   exact uI
  clear hok hw1 hw2 hw3 okx oky hcost lx ly hmk hsum hsumy hlcp w
  rintro⟨st',sum,gx',gy',mx,my,q1,q2,d1,d2,m0⟩⟨hok,hs1,hs2,hs3⟩
  obtain⟨w,hw1,hw2,hw3⟩:=hok.w
  have okx:=hok.okx
  have oky:=hok.oky
  have hcost:=hok.cost
  have lx:=hok.lx
  have ly:=hok.ly
  have hmk:=hok.mark
  simp only at hs1 hs2 hs3 hw1 hw2 hw3 okx oky hcost lx ly hmk ⊢
  clear hok
  subst hs1
  rcases List.eq_nil_or_concat gx' with h|⟨a,⟨sx,kx⟩,rfl⟩
  ·subst h;simp at hs2;omega
  rcases List.eq_nil_or_concat gy' with h|⟨b,⟨sy,ky⟩,rfl⟩
  ·subst h;simp at hs3;omega
  simp only[List.concat_eq_append]at*
  have hla:(a++[(sx,kx)]).length=a.length+1:=by simp
  have hlb:(b++[(sy,ky)]).length=b.length+1:=by simp
  have hgax:(a++[(sx,kx)])[a.length]?=some (sx,kx):=by simp
  have hgby:(b++[(sy,ky)])[b.length]?=some (sy,ky):=by simp
  have hox:=kU.1 (gV.1 okx).2
  have hoy:=kU.1 (gV.1 oky).2
  have hox5:=hox.2.2.2.2
  have hoy5:=hoy.2.2.2.2
  unfold dB at hox5 hoy5
  have hsum:sum+(strm (rls Es) bk (a++[(sx,kx)])).length≤1152921504606846976:=by rw[hw1,List.length_append,hw3]at hX;exact hX
  have hlcp:lcp X Y=sum+lcp (strm (rls Es) bk (a++[(sx,kx)])) (strm (rls Es) bk (b++[(sy,ky)])):=by rw[hw1,hw2,qDc,hw3]
  obtain⟨ix,rfl⟩:∃i,sx=i+1:=⟨sx-1,oO⟩
  obtain⟨iy,rfl⟩:∃i,sy=i+1:=⟨sy-1,oO⟩
  have hix:ix<Es.length:=by have:=hox.2.1;rw[bQ]at this;omega
  have hiy:iy<Es.length:=by have:=hoy.2.1;rw[bQ]at this;omega
  have eA:0+(((a.length+1:Nat):Int)-1).toNat*2=a.length*2:=oO
  have eB:0+(((b.length+1:Nat):Int)-1).toNat*2=b.length*2:=oO
  have f1:(gsC (a++[(ix+1,kx)]))[0+(((a.length+1:Nat):Int)-1).toNat*2]?=some (.int .i64 ((ix+1:Nat):Int)):=by rw[eA];exact(iY hgax).1
  have f2:(gsC (a++[(ix+1,kx)]))[0+(((a.length+1:Nat):Int)-1).toNat*2+1]?=some (.int .i64 (kx:Nat)):=by rw[eA];exact(iY hgax).2
  have f3:(gsC (b++[(iy+1,ky)]))[0+(((b.length+1:Nat):Int)-1).toNat*2]?=some (.int .i64 ((iy+1:Nat):Int)):=by rw[eB];exact(iY hgby).1
  have f4:(gsC (b++[(iy+1,ky)]))[0+(((b.length+1:Nat):Int)-1).toNat*2+1]?=some (.int .i64 (ky:Nat)):=by rw[eB];exact(iY hgby).2
  rw[hla]at lx hs2
  rw[hlb]at ly hs3
  clear hgax hgby px1 py1 hx0 hy0 hs2 hs3 g1 g2 cx cy gx gy
  refine iT (fun x:Nat×Nat=>[(2,uPt b2),(3,uPt b3),(5,uPt pp),(6,.int .i64 (sum:Nat)),(7,uPt b7),(8,.int .i64 (st':Nat)),(9,.pointer (some ⟨x.1,0,none⟩)),(10,.pointer (some ⟨x.2,0,none⟩)),(18,.int .i64 (st':Nat))]) (fun x=>[rdP b2 (uPt pp) bk (a++[(ix+1,kx)]),rdP b3 (uPt pp) bk (b++[(iy+1,ky)]),cells x.1 [.int .i64 ((ix+1:Nat):Int),.int .i64 (kx:Nat)] 245,cells x.2 [.int .i64 ((iy+1:Nat):Int),.int .i64 (ky:Nat)] 245,cells b7 [.slice q1 mx.length d1,.slice q2 my.length d2,.int .i64 (m0:Nat)] 345,sl q1 d1 245 2 mx.length (gsC mx),sl q2 d2 245 2 my.length (gsC my),cells pp [uPt s,uPt tb] 108,tabP tb s (rls Es),bR s most Es,R]) (fun _=>True) ?_ ?_
  ·apply qBq (ps:=fun i':Option Addr×Nat=>[cells b2 [uPt pp,.bool bk,.slice i'.1 (a++[(ix+1,kx)]).length i'.2] 296,sl i'.1 i'.2 245 2 (a++[(ix+1,kx)]).length (gsC (a++[(ix+1,kx)]))]) (p:=rdP b2 (uPt pp) bk (a++[(ix+1,kx)]))
   ·exact uK
   ·exact lZ
   rintro⟨px,cx⟩
   simp only[uV,uW]
   apply qBq (ps:=fun i':Option Addr×Nat=>[cells b3 [uPt pp,.bool bk,.slice i'.1 (b++[(iy+1,ky)]).length i'.2] 296,sl i'.1 i'.2 245 2 (b++[(iy+1,ky)]).length (gsC (b++[(iy+1,ky)]))]) (p:=rdP b3 (uPt pp) bk (b++[(iy+1,ky)]))
   ·exact uK
   ·exact lZ
   rintro⟨py,cy⟩
   simp only[uV,uW]
   rw[hla,hlb]
   refine jK (p:=sl px cx 245 2 (a.length+1) (gsC (a++[(ix+1,kx)]))) uK (fun _ h=>fA h oO) ?_
   rintro⟨g1,rfl⟩
   refine jK (p:=sl py cy 245 2 (b.length+1) (gsC (b++[(iy+1,ky)]))) uK (fun _ h=>fA h oO) ?_
   rintro⟨g2,rfl⟩
   refine uN 19 ([cells b2 [uPt pp,.bool bk,.slice (some ⟨g1,0,none⟩) (a.length+1) cx] 296,cells b3 [uPt pp,.bool bk,.slice (some ⟨g2,0,none⟩) (b.length+1) cy] 296,sl (some ⟨g1,0,none⟩) cx 245 2 (a.length+1) (gsC (a++[(ix+1,kx)])),sl (some ⟨g2,0,none⟩) cy 245 2 (b.length+1) (gsC (b++[(iy+1,ky)]))]) ?_
   refine gg16 ?_
   apply qOi 16 17 O O oK O O
   ·refine cZ (hE.t O) (fun b9=>?_)
    refine uE ?_
    apply eO 17 O oK O
    refine cZ (hE.t O) (fun b10=>?_)
    refine uE ?_
    apply eO 18 O oK O
    refine uS ?_
    refine uE ?_
    apply gM O oK oK O
    refine uS ?_
    refine dZ (b9,b10) trivial ⟨O,O,O,O,O,O,O,O,O,trivial⟩ ?_
    apply cO
    ·apply fH (gs:=a++[(ix+1,kx)]) (x:=b2) (pv:=uPt pp) (bk:=bk)
     ·exact uK
     ·exact hla.symm
     rfl
    apply cO
    ·apply fH (gs:=b++[(iy+1,ky)]) (x:=b3) (pv:=uPt pp) (bk:=bk)
     ·exact uK
     ·exact hlb.symm
     rfl
    exact uI
   refine cZ (hE.t O) (fun b10=>?_)
   refine uE ?_
   apply eO 16 O oK O
   refine cZ (hE.t O) (fun b9=>?_)
   refine uE ?_
   apply eO 18 O oK O
   refine uS ?_
   refine uE ?_
   apply gM O oK oK O
   refine uS ?_
   refine dZ (b9,b10) trivial ⟨O,O,O,O,O,O,O,O,O,trivial⟩ ?_
   apply cO
   ·apply fH (gs:=a++[(ix+1,kx)]) (x:=b2) (pv:=uPt pp) (bk:=bk)
    ·exact uK
    ·exact hla.symm
    rfl
   apply cO
   ·apply fH (gs:=b++[(iy+1,ky)]) (x:=b3) (pv:=uPt pp) (bk:=bk)
    ·exact uK
    ·exact hlb.symm
    rfl
   exact uI
  rintro⟨b9,b10⟩_
  simp only
  refine gg10 ?_
  refine bE O (fun heq=>?_) (fun heq=>?_)
  ·obtain rfl:ix=iy:=by omega
   obtain⟨m,hm⟩:∃m,m=min kx ky:=⟨_,rfl⟩
   have hmm:(if(ky:Int)<(kx:Int)then(ky:Int)else(kx:Int))=(m:Nat):=by split <;>omega
   have hsx:=qBm (L:=rls Es) (bk:=bk) (a:=a) (sy:=ix+1) (k:=kx) (m:=m) oO
   have hsy:=qBm (L:=rls Es) (bk:=bk) (a:=b) (sy:=ix+1) (k:=ky) (m:=m) oO
   have hcx:=zS (L:=rls Es) (a:=a) (sy:=ix+1) (k:=kx) (m:=m) oO
   have hcy:=zS (L:=rls Es) (a:=b) (sy:=ix+1) (k:=ky) (m:=m) oO
   have hlp:=qG hwf (ix+1) oO (by rw[bQ];omega)
   have hlm:m*len (rls Es) (ix+1)+sum≤1152921504606846976:=by
    rw[hsx,List.length_append,rep_length,eQ]at hsum;omega
   have hll:=hwf.short (ix+1)
   unfold dB at hll
   have m1:(m:Int)*(len (rls Es) (ix+1):Int)=((m*len (rls Es) (ix+1):Nat):Int):=(Int.natCast_mul ..).symm
   have b1:0≤(m:Int)*(len (rls Es) (ix+1):Int)∧(m:Int)*(len (rls Es) (ix+1):Int)+sum≤1152921504606846976:=by rw[m1];omega
   have hm1:1≤m*(2*len (rls Es) (ix+1)-1):=Nat.le_trans oO (Nat.mul_le_mul (show 1≤m by omega) (show 1≤2*len (rls Es) (ix+1)-1 by omega))
   have hdx:(eY a (ix+1) kx m).length≤a.length+1:=by unfold eY;split <;>simp
   have hdy:(eY b (ix+1) ky m).length≤b.length+1:=by unfold eY;split <;>simp
   refine gg10 ?_
   refine w_eq 11 (.int .i64 (m:Nat)) O (bW hmm) ?_
   refine gg7 ?_
   refine uX (vD hE hix) O ?_
   rintro _ _⟨rfl,rfl⟩
   simp only[uV,uW]
   refine gg8 ?_
   refine uX (tZ hE (a:=a) (sy:=ix+1) (k:=kx) (m:=m) oO hox5 oO) O ?_
   rintro _ _⟨rfl,rfl⟩
   simp only[uV,uW]
   refine gg5 ?_
   refine uX (tZ hE (a:=b) (sy:=ix+1) (k:=ky) (m:=m) oO hoy5 oO) O ?_
   rintro _ _⟨rfl,rfl⟩
   simp only[uV,uW]
   refine gg10 ?_
   refine gG 6 (.int .i64 ((sum+m*len (rls Es) (ix+1):Nat):Int)) O (bW (by rw[m1];omega)) ?_
   refine gG 18 (.int .i64 ((st'+1:Nat):Int)) O (bW oO) ?_
   refine bS (ι:=CmG) (j:=⟨st'+1,sum+m*len (rls Es) (ix+1),eY a (ix+1) kx m,eY b (ix+1) ky m,mx,my,q1,q2,d1,d2,m0⟩) ?_ ?_ ?_ ?_
   ·refine⟨by show st'+1≤16777216;omega,⟨w++rep m (tx (rls Es) bk (ix+1)),by rw[List.append_assoc,←hsx];exact hw1,by rw[List.append_assoc,←hsy];exact hw2,by simp[hw3,rep_length,eQ]⟩,zH okx oO,zH oky oO,by show st'+1+(cost _ (eY a (ix+1) kx m)+cost _ (eY b (ix+1) ky m))≤C0;omega,by show(eY a (ix+1) kx m).length≤4194304+2*(st'+1);omega,by show(eY b (ix+1) ky m).length≤4194304+2*(st'+1);omega,fun h=>?_⟩
    obtain⟨u,u1,u2,u3,u4,u5,u6,u7⟩:=hmk (by have:1025≤st'+1:=h;omega)
    exact⟨u++rep m (tx (rls Es) bk (ix+1)),by rw[List.append_assoc,←hsx];exact u1,by rw[List.append_assoc,←hsy];exact u2,by simp[rep_length,eQ];omega,u4,u5,by show mx.length≤4194304+2*(st'+1);omega,by show my.length≤4194304+2*(st'+1);omega⟩
   ·show 16777216-(st'+1)<16777216-st';omega
   ·exact⟨O,O,O,O,O,O,trivial⟩
   exact uI
  refine gg3 ?_
  refine uH ([cells b9 [.int .i64 ((ix+1:Nat):Int),.int .i64 (kx:Nat)] 245]) ?_
  refine gg1 ?_
  refine uD 2 O (uBf O) ?_
  refine gg1 ?_
  apply dH 1 O oK O
  refine uC (tX hE) O ?_
  rintro _ _⟨rfl,rfl⟩
  simp only[uV,uW]
  refine uE ?_
  apply dH 4 O oK O
  refine uC (zC hE hB hix hox.2.2.1) O ?_
  rintro _ _⟨rfl,rfl⟩
  simp only[uV,uW]
  refine uE ?_
  refine gg8 ?_
  refine uH ([cells b10 [.int .i64 ((iy+1:Nat):Int),.int .i64 (ky:Nat)] 245]) ?_
  refine gg1 ?_
  refine uD 2 O (uBf O) ?_
  refine gg1 ?_
  apply dH 1 O oK O
  refine uC (tX hE) O ?_
  rintro _ _⟨rfl,rfl⟩
  simp only[uV,uW]
  refine uE ?_
  apply dH 4 O oK O
  refine uC (zC hE hB hiy hoy.2.2.1) O ?_
  rintro _ _⟨rfl,rfl⟩
  simp only[uV,uW]
  refine uE ?_
  refine gg13 ?_
  refine dS 113 O (fun z1=>?_) (fun z1=>?_)
  ·refine gg7 ?_
   refine bE O (fun z2=>?_) (fun z2=>?_)
   ·refine gg14 ?_
    obtain⟨ca,hca⟩:=qLx hwf (by rw[bQ];exact hix) z1
    obtain⟨cb,hcb⟩:=qLx hwf (by rw[bQ];exact hiy) z2
    have hne:ca≠cb:=by
     rintro rfl
     exact heq (by rw[hwf.nodup ix iy _ hca hcb])
    have hz:lcp (strm (rls Es) bk (a++[(ix+1,kx)])) (strm (rls Es) bk (b++[(iy+1,ky)]))=0:=by
     rw[lN,lN,qIy hca,qIy hcb,show kx=(kx-1)+1 by omega,show ky=(ky-1)+1 by omega,rep_succ,rep_succ]
     exact lcp_ne hne _ _
    exact uZ O (.tmp O .nil) ⟨sum,O,oO,fun _=>by omega,rfl⟩
   have hnz:¬(lvl (rls Es) (ix+1)=0∧lvl (rls Es) (iy+1)=0):=fun h=>z2 h.2
   have hentx:Es[ix]?=some (Es[ix]'hix):=List.getElem?_eq_getElem hix
   generalize Es[ix]'hix=enx at hentx
   have henty:Es[iy]?=some (Es[iy]'hiy):=List.getElem?_eq_getElem hiy
   generalize Es[iy]'hiy=eny at henty
   have px:=hox.2.2.1
   have py:=hoy.2.2.1
   refine gg10 ?_
   refine bE O (fun hge=>?_) (fun hge=>?_)
   ·obtain⟨x1,x2,x3,x4⟩:=mI hwf (bk:=bk) (kY hentx) okx oO
    refine gg1 ?_
    refine uX (pV hE (a:=a) hentx hox.2.2.2.1 hox5 oO) O ?_
    rintro _ _⟨rfl,rfl⟩
    simp only[uV,uW]
    refine gg9 ?_
    refine bE O (fun hge2=>?_) (fun hge2=>?_)
    ·obtain⟨y1,y2,y3,y4⟩:=mI hwf (bk:=bk) (kY henty) oky oO
     refine gg1 ?_
     refine uX (pV hE (a:=b) henty hoy.2.2.2.1 hoy5 oO) O ?_
     rintro _ _⟨rfl,rfl⟩
     simp only[uV,uW]
     refine gg7 ?_
     have sx:strm (rls Es) bk (eY a (ix+1) kx 1++fO bk enx.r)=strm (rls Es) bk (a++[(ix+1,kx)]):=x1
     have sy:strm (rls Es) bk (eY b (iy+1) ky 1++fO bk eny.r)=strm (rls Es) bk (b++[(iy+1,ky)]):=y1
     refine gG 18 (.int .i64 ((st'+1:Nat):Int)) O (bW oO) ?_
     refine bS (ι:=CmG) (j:=⟨st'+1,sum,eY a (ix+1) kx 1++fO bk enx.r,eY b (iy+1) ky 1++fO bk eny.r,mx,my,q1,q2,d1,d2,m0⟩) ?_ ?_ ?_ ?_
     ·refine⟨by show st'+1≤16777216;omega,⟨w,by rw[sx];exact hw1,by rw[sy];exact hw2,hw3⟩,x2,y2,by show st'+1+(cost _ (eY a (ix+1) kx 1++fO bk enx.r)+cost _ (eY b (iy+1) ky 1++fO bk eny.r))≤C0;omega,by show(eY a (ix+1) kx 1++fO bk enx.r).length≤4194304+2*(st'+1);omega,by show(eY b (iy+1) ky 1++fO bk eny.r).length≤4194304+2*(st'+1);omega,fun h=>?_⟩
      obtain⟨u,u1,u2,u3,u4,u5,u6,u7⟩:=hmk (by have:1025≤st'+1:=h;omega)
      exact⟨u,by rw[sx];exact u1,by rw[sy];exact u2,u3,u4,u5,by show mx.length≤4194304+2*(st'+1);omega,by show my.length≤4194304+2*(st'+1);omega⟩
     ·show 16777216-(st'+1)<16777216-st';omega
     ·exact⟨O,O,O,O,O,O,trivial⟩
     exact uI
    refine gg7 ?_
    have sx:strm (rls Es) bk (eY a (ix+1) kx 1++fO bk enx.r)=strm (rls Es) bk (a++[(ix+1,kx)]):=x1
    have sy:strm (rls Es) bk (b++[(iy+1,ky)])=strm (rls Es) bk (b++[(iy+1,ky)]):=rfl
    refine gG 18 (.int .i64 ((st'+1:Nat):Int)) O (bW oO) ?_
    refine bS (ι:=CmG) (j:=⟨st'+1,sum,eY a (ix+1) kx 1++fO bk enx.r,b++[(iy+1,ky)],mx,my,q1,q2,d1,d2,m0⟩) ?_ ?_ ?_ ?_
    ·refine⟨by show st'+1≤16777216;omega,⟨w,by rw[sx];exact hw1,by rw[sy];exact hw2,hw3⟩,x2,oky,by show st'+1+(cost _ (eY a (ix+1) kx 1++fO bk enx.r)+cost _ (b++[(iy+1,ky)]))≤C0;omega,by show(eY a (ix+1) kx 1++fO bk enx.r).length≤4194304+2*(st'+1);omega,by show(b++[(iy+1,ky)]).length≤4194304+2*(st'+1);omega,fun h=>?_⟩
     obtain⟨u,u1,u2,u3,u4,u5,u6,u7⟩:=hmk (by have:1025≤st'+1:=h;omega)
     exact⟨u,by rw[sx];exact u1,by rw[sy];exact u2,u3,u4,u5,by show mx.length≤4194304+2*(st'+1);omega,by show my.length≤4194304+2*(st'+1);omega⟩
    ·show 16777216-(st'+1)<16777216-st';omega
    ·exact⟨O,O,O,O,O,O,trivial⟩
    exact uI
   refine gg9 ?_
   refine bE O (fun hge2=>?_) (fun hge2=>?_)
   ·obtain⟨y1,y2,y3,y4⟩:=mI hwf (bk:=bk) (kY henty) oky oO
    refine gg1 ?_
    refine uX (pV hE (a:=b) henty hoy.2.2.2.1 hoy5 oO) O ?_
    rintro _ _⟨rfl,rfl⟩
    simp only[uV,uW]
    refine gg7 ?_
    have sx:strm (rls Es) bk (a++[(ix+1,kx)])=strm (rls Es) bk (a++[(ix+1,kx)]):=rfl
    have sy:strm (rls Es) bk (eY b (iy+1) ky 1++fO bk eny.r)=strm (rls Es) bk (b++[(iy+1,ky)]):=y1
    refine gG 18 (.int .i64 ((st'+1:Nat):Int)) O (bW oO) ?_
    refine bS (ι:=CmG) (j:=⟨st'+1,sum,a++[(ix+1,kx)],eY b (iy+1) ky 1++fO bk eny.r,mx,my,q1,q2,d1,d2,m0⟩) ?_ ?_ ?_ ?_
    ·refine⟨by show st'+1≤16777216;omega,⟨w,by rw[sx];exact hw1,by rw[sy];exact hw2,hw3⟩,okx,y2,by show st'+1+(cost _ (a++[(ix+1,kx)])+cost _ (eY b (iy+1) ky 1++fO bk eny.r))≤C0;omega,by show(a++[(ix+1,kx)]).length≤4194304+2*(st'+1);omega,by show(eY b (iy+1) ky 1++fO bk eny.r).length≤4194304+2*(st'+1);omega,fun h=>?_⟩
     obtain⟨u,u1,u2,u3,u4,u5,u6,u7⟩:=hmk (by have:1025≤st'+1:=h;omega)
     exact⟨u,by rw[sx];exact u1,by rw[sy];exact u2,u3,u4,u5,by show mx.length≤4194304+2*(st'+1);omega,by show my.length≤4194304+2*(st'+1);omega⟩
    ·show 16777216-(st'+1)<16777216-st';omega
    ·exact⟨O,O,O,O,O,O,trivial⟩
    exact uI
   exact absurd hge2 oO
  refine gg6 ?_
  have hnz:¬(lvl (rls Es) (ix+1)=0∧lvl (rls Es) (iy+1)=0):=fun h=>z1 h.1
  have hentx:Es[ix]?=some (Es[ix]'hix):=List.getElem?_eq_getElem hix
  generalize Es[ix]'hix=enx at hentx
  have henty:Es[iy]?=some (Es[iy]'hiy):=List.getElem?_eq_getElem hiy
  generalize Es[iy]'hiy=eny at henty
  have px:=hox.2.2.1
  have py:=hoy.2.2.1
  refine gg10 ?_
  refine bE O (fun hge=>?_) (fun hge=>?_)
  ·obtain⟨x1,x2,x3,x4⟩:=mI hwf (bk:=bk) (kY hentx) okx oO
   refine gg1 ?_
   refine uX (pV hE (a:=a) hentx hox.2.2.2.1 hox5 oO) O ?_
   rintro _ _⟨rfl,rfl⟩
   simp only[uV,uW]
   refine gg9 ?_
   refine bE O (fun hge2=>?_) (fun hge2=>?_)
   ·obtain⟨y1,y2,y3,y4⟩:=mI hwf (bk:=bk) (kY henty) oky oO
    refine gg1 ?_
    refine uX (pV hE (a:=b) henty hoy.2.2.2.1 hoy5 oO) O ?_
    rintro _ _⟨rfl,rfl⟩
    simp only[uV,uW]
    refine gg7 ?_
    have sx:strm (rls Es) bk (eY a (ix+1) kx 1++fO bk enx.r)=strm (rls Es) bk (a++[(ix+1,kx)]):=x1
    have sy:strm (rls Es) bk (eY b (iy+1) ky 1++fO bk eny.r)=strm (rls Es) bk (b++[(iy+1,ky)]):=y1
    refine gG 18 (.int .i64 ((st'+1:Nat):Int)) O (bW oO) ?_
    refine bS (ι:=CmG) (j:=⟨st'+1,sum,eY a (ix+1) kx 1++fO bk enx.r,eY b (iy+1) ky 1++fO bk eny.r,mx,my,q1,q2,d1,d2,m0⟩) ?_ ?_ ?_ ?_
    ·refine⟨by show st'+1≤16777216;omega,⟨w,by rw[sx];exact hw1,by rw[sy];exact hw2,hw3⟩,x2,y2,by show st'+1+(cost _ (eY a (ix+1) kx 1++fO bk enx.r)+cost _ (eY b (iy+1) ky 1++fO bk eny.r))≤C0;omega,by show(eY a (ix+1) kx 1++fO bk enx.r).length≤4194304+2*(st'+1);omega,by show(eY b (iy+1) ky 1++fO bk eny.r).length≤4194304+2*(st'+1);omega,fun h=>?_⟩
     obtain⟨u,u1,u2,u3,u4,u5,u6,u7⟩:=hmk (by have:1025≤st'+1:=h;omega)
     exact⟨u,by rw[sx];exact u1,by rw[sy];exact u2,u3,u4,u5,by show mx.length≤4194304+2*(st'+1);omega,by show my.length≤4194304+2*(st'+1);omega⟩
    ·show 16777216-(st'+1)<16777216-st';omega
    ·exact⟨O,O,O,O,O,O,trivial⟩
    exact uI
   refine gg7 ?_
   have sx:strm (rls Es) bk (eY a (ix+1) kx 1++fO bk enx.r)=strm (rls Es) bk (a++[(ix+1,kx)]):=x1
   have sy:strm (rls Es) bk (b++[(iy+1,ky)])=strm (rls Es) bk (b++[(iy+1,ky)]):=rfl
   refine gG 18 (.int .i64 ((st'+1:Nat):Int)) O (bW oO) ?_
   refine bS (ι:=CmG) (j:=⟨st'+1,sum,eY a (ix+1) kx 1++fO bk enx.r,b++[(iy+1,ky)],mx,my,q1,q2,d1,d2,m0⟩) ?_ ?_ ?_ ?_
   ·refine⟨by show st'+1≤16777216;omega,⟨w,by rw[sx];exact hw1,by rw[sy];exact hw2,hw3⟩,x2,oky,by show st'+1+(cost _ (eY a (ix+1) kx 1++fO bk enx.r)+cost _ (b++[(iy+1,ky)]))≤C0;omega,by show(eY a (ix+1) kx 1++fO bk enx.r).length≤4194304+2*(st'+1);omega,by show(b++[(iy+1,ky)]).length≤4194304+2*(st'+1);omega,fun h=>?_⟩
    obtain⟨u,u1,u2,u3,u4,u5,u6,u7⟩:=hmk (by have:1025≤st'+1:=h;omega)
    exact⟨u,by rw[sx];exact u1,by rw[sy];exact u2,u3,u4,u5,by show mx.length≤4194304+2*(st'+1);omega,by show my.length≤4194304+2*(st'+1);omega⟩
   ·show 16777216-(st'+1)<16777216-st';omega
   ·exact⟨O,O,O,O,O,O,trivial⟩
   exact uI
  refine gg9 ?_
  refine bE O (fun hge2=>?_) (fun hge2=>?_)
  ·obtain⟨y1,y2,y3,y4⟩:=mI hwf (bk:=bk) (kY henty) oky oO
   refine gg1 ?_
   refine uX (pV hE (a:=b) henty hoy.2.2.2.1 hoy5 oO) O ?_
   rintro _ _⟨rfl,rfl⟩
   simp only[uV,uW]
   refine gg7 ?_
   have sx:strm (rls Es) bk (a++[(ix+1,kx)])=strm (rls Es) bk (a++[(ix+1,kx)]):=rfl
   have sy:strm (rls Es) bk (eY b (iy+1) ky 1++fO bk eny.r)=strm (rls Es) bk (b++[(iy+1,ky)]):=y1
   refine gG 18 (.int .i64 ((st'+1:Nat):Int)) O (bW oO) ?_
   refine bS (ι:=CmG) (j:=⟨st'+1,sum,a++[(ix+1,kx)],eY b (iy+1) ky 1++fO bk eny.r,mx,my,q1,q2,d1,d2,m0⟩) ?_ ?_ ?_ ?_
   ·refine⟨by show st'+1≤16777216;omega,⟨w,by rw[sx];exact hw1,by rw[sy];exact hw2,hw3⟩,okx,y2,by show st'+1+(cost _ (a++[(ix+1,kx)])+cost _ (eY b (iy+1) ky 1++fO bk eny.r))≤C0;omega,by show(a++[(ix+1,kx)]).length≤4194304+2*(st'+1);omega,by show(eY b (iy+1) ky 1++fO bk eny.r).length≤4194304+2*(st'+1);omega,fun h=>?_⟩
    obtain⟨u,u1,u2,u3,u4,u5,u6,u7⟩:=hmk (by have:1025≤st'+1:=h;omega)
    exact⟨u,by rw[sx];exact u1,by rw[sy];exact u2,u3,u4,u5,by show mx.length≤4194304+2*(st'+1);omega,by show my.length≤4194304+2*(st'+1);omega⟩
   ·show 16777216-(st'+1)<16777216-st';omega
   ·exact⟨O,O,O,O,O,O,trivial⟩
   exact uI
  exact absurd hge2 oO
 refine gg12 ?_
 apply cB
 ·rfl
 ·(apply Rs.tmp rfl;exact Rs.nil)
 ·refine⟨sum,O,oO,fun _=>by omega,rfl⟩
 exact uI
end
section
variable {E:Env}{Es:List Ent}{pp tb s most:Nat}
def good (L:List Rl)(i:Nat):Prop:=i≤L.length∧0≤lvl L i
theorem qLi (hE:Seat E){i:Nat}(hi:i≤(rls Es).length):Ct E 168 [uPt pp,.int .i64 (i:Nat)] [cells pp [uPt s,uPt tb] 108,tabP tb s (rls Es),bR s most Es] (fun v Q=>v= .int .i64 (len (rls Es) i:Nat)∧Q=[cells pp [uPt s,uPt tb] 108,tabP tb s (rls Es),bR s most Es]):=by
 cases i with
 |zero=>exact ct_size0 hE
 |succ i=>exact vD hE (by rw[bQ]at hi;omega)
theorem qEf (hE:Seat E){i:Nat}{bk:Bool}:Ct E 167 [uPt pp,.int .i64 (i:Nat),.int .i64 ((0:Nat):Int),.bool bk] [cells pp [uPt s,uPt tb] 108,tabP tb s (rls Es),bR s most Es] (NrPost pp s tb most Es bk []):=by
 refine bO (hE.fn Tryz.func167) O O O (fun R=>?_)
 simp only[dR,uV,uW]
 refine gg2 ?_
 refine uU (cZ (hE.t O) (fun b8=>?_))
 refine gg7 ?_
 refine uU (cZ (hE.t O) (fun b9=>?_))
 refine gg15 ?_
 refine nT 1 ?_
 refine gg28 ?_
 apply cB
 ·rfl
 ·((apply Rs.cell rfl (hE.t rfl) rfl;(focus((repeat(first |rfl|assumption|constructor));done)));exact Rs.nil)
 ·exact⟨none,0,[],O,O,fun g h=>by simp at h,by simp,rfl⟩
 apply cO (iH (t:=245) (sz:=2))
 exact uI
theorem vX (hE:Seat E){i n:Nat}{bk:Bool}(hg:good (rls Es) i)(hn:n≤len (rls Es) i):Ct E 167 [uPt pp,.int .i64 (i:Nat),.int .i64 (n:Nat),.bool bk] [cells pp [uPt s,uPt tb] 108,tabP tb s (rls Es),bR s most Es] (NrPost pp s tb most Es bk ((tx (rls Es) bk i).drop (len (rls Es) i-n))):=by
 cases n with
 |zero=>
  have e:(tx (rls Es) bk i).drop (len (rls Es) i-0)=[]:=List.drop_eq_nil_of_le (by rw[eQ];omega)
  rw[e]
  exact qEf hE
 |succ n=>
  cases i with
  |zero=>rw[qEs]at hn;omega
  |succ i=>exact qGz hE (by have:=hg.1;rw[bQ]at this;omega) oO hn hg.2
theorem tY (hE:Seat E)(hB:Base E.w0){i:Nat}(hg:good (rls Es) i):Ct E 114 [uPt pp,.int .i64 (i:Nat)] [cells pp [uPt s,uPt tb] 108,tabP tb s (rls Es),bR s most Es] (fun v Q=>v= .tuple #[.int .i64 (lvl (rls Es) i),.nilIface]∧Q=[cells pp [uPt s,uPt tb] 108,tabP tb s (rls Es),bR s most Es]):=by
 cases i with
 |zero=>exact ct_Top0 hE
 |succ i=>exact ct_Top hE hB (by have:=hg.1;rw[bQ]at this;omega) hg.2
theorem ct_check (hE:Seat E)(hB:Base E.w0){i j:Nat}(hi:good (rls Es) i)(hj:good (rls Es) j):Ct E 165 [uPt pp,.int .i64 (i:Nat),.int .i64 (j:Nat)] [cells pp [uPt s,uPt tb] 108,tabP tb s (rls Es),bR s most Es] (fun v Q=>v= .nilIface∧Q=[cells pp [uPt s,uPt tb] 108,tabP tb s (rls Es),bR s most Es]):=by
 have hi1:=hi.1
 have hj1:=hj.1
 rw[bQ]at hi1 hj1
 refine bO (hE.fn Tryz.func165) O O O (fun R=>?_)
 simp only[dR,uV,uW]
 refine gg9 ?_
 refine uX (fD hE) O ?_
 rintro _ _⟨rfl,rfl⟩
 simp only[uV,uW]
 refine gg16 ?_
 refine nT 3 ?_
 refine gg23 ?_
 refine dS 25 O (fun h1=>?_) (fun h1=>?_)
 ·exact absurd h1 oO
 refine gg5 ?_
 refine uX (fD hE) O ?_
 rintro _ _⟨rfl,rfl⟩
 simp only[uV,uW]
 refine gg1 ?_
 refine uX (yJ hE) O ?_
 rintro _ _⟨rfl,rfl⟩
 simp only[uV,uW]
 refine gg5 ?_
 refine bE O (fun h2=>?_) (fun h2=>?_)
 ·exact absurd h2 oO
 refine gg31 ?_
 refine dS 25 O (fun h1=>?_) (fun h1=>?_)
 ·exact absurd h1 oO
 refine gg5 ?_
 refine uX (fD hE) O ?_
 rintro _ _⟨rfl,rfl⟩
 simp only[uV,uW]
 refine gg1 ?_
 refine uX (yJ hE) O ?_
 rintro _ _⟨rfl,rfl⟩
 simp only[uV,uW]
 refine gg5 ?_
 refine bE O (fun h2=>?_) (fun h2=>?_)
 ·exact absurd h2 oO
 refine gg31 ?_
 refine nT 3 ?_
 refine gg22 ?_
 refine uX (tY hE hB hi) O ?_
 rintro _ _⟨rfl,rfl⟩
 simp only[uV,uW]
 refine gg44 ?_
 refine uX (tY hE hB hj) O ?_
 rintro _ _⟨rfl,rfl⟩
 simp only[uV,uW]
 refine gg41 ?_
 exact uZ O (.tmp O .nil) ⟨O,O⟩
end
end Go.Proofs.YtjbdlljghogodaaGreatDoor
