import Derived.Test.YtjbdlljghogodaaGreatDoorQ07
import Derived.LoopN
set_option linter.all false
set_option maxHeartbeats 1000000
namespace Go.Proofs.YtjbdlljghogodaaGreatDoor
open Go Go.RowKit Sl Eg
set_option maxRecDepth 10000
variable {E:Env}{Es:List Ent}{pp tb s most:Nat}
theorem qBm {L:List Rl}{bk:Bool}{a:List (Nat×Nat)}{sy k m:Nat}(hm:m≤k):strm L bk (a++[(sy,k)])=rep m (tx L bk sy)++strm L bk (eY a sy k m):=by
 unfold eY
 rw[lN]
 split
 ·rename_i h;rw[h]
 rw[lN,←List.append_assoc,←xV,Nat.add_sub_cancel' hm]
theorem zH {L:List Rl}{a:List (Nat×Nat)}{sy k m:Nat}(h:gok L (a++[(sy,k)]))(hm:m≤k):gok L (eY a sy k m):=by
 obtain⟨h1,h2⟩:=gV.1 h
 obtain⟨a1,a2,a3,a4,a5⟩:=kU.1 h2
 unfold eY
 split
 ·exact h1
 exact gV.2 ⟨h1,kU.2 ⟨a1,a2,a3,oO,oO⟩⟩
theorem qTl {L:List Rl}{bk:Bool}{i:Nat}{r:Rl}(h:L[i]?=some r)(hk:r.ok (i+1))(hn:∀b,r≠ .letter b):strm L bk (fO bk r)=tx L bk (i+1):=by
 cases r with
 |letter b=>exact absurd rfl (hn b)
 |pair l r=>rw[qTy h hk];cases bk<;>simp[fO,strm,rep_one]
 |power x k=>rw[qMu h hk];simp[fO,strm]
theorem qLs {L:List Rl}(hwf:Wf L){bk:Bool}{i:Nat}{r:Rl}(h:L[i]?=some r)(h0:0≤lvl L (i+1)):gok L (fO bk r):=by
 have hk:=hwf.ok i r h
 have hlt:=(List.getElem?_eq_some_iff.1 h).1
 cases r with
 |letter b=>intro g hg;simp[fO]at hg
 |pair l r=>
  have hl:=lX h hk h0
  obtain⟨k1,k2,k3,k4⟩:=hk
  cases bk
  ·intro g hg
   simp[fO]at hg
   rcases hg with rfl|rfl
   ·exact⟨k3,by show r≤_;omega,hl.2,by simp,by simp[dB]⟩
   exact⟨k1,by show l≤_;omega,hl.1,by simp,by simp[dB]⟩
  intro g hg
  simp[fO]at hg
  rcases hg with rfl|rfl
  ·exact⟨k1,by show l≤_;omega,hl.1,by simp,by simp[dB]⟩
  exact⟨k3,by show r≤_;omega,hl.2,by simp,by simp[dB]⟩
 |power x k=>
  have hl:=rD h hk h0
  have hle:=qEx hwf h
  obtain⟨k1,k2,k3⟩:=hk
  intro g hg
  simp[fO]at hg
  subst hg
  exact⟨k1,by show x≤_;omega,hl,by show 1≤k;omega,hle⟩
def NrPost (pp s tb most:Nat)(Es:List Ent)(bk:Bool)(S:List UInt8)(v:Value)(Q:List HP):Prop:=
 ∃p c gs,v= .agg #[uPt pp,.bool bk,.slice p gs.length c]∧strm (rls Es) bk gs=S∧gok (rls Es) gs∧gs.length≤4194304∧Q=[sl p c 245 2 gs.length (gsC gs),cells pp [uPt s,uPt tb] 108,tabP tb s (rls Es),bR s most Es]
structure NrG where
 i:Nat
 k:Nat
 n:Nat
 a:List (Nat×Nat)
structure NrOk (L:List Rl)(bk:Bool)(i0:Nat)(S:List UInt8)(x:NrG):Prop where
 le:x.i≤i0
 ok:gok L (x.a++[(x.i+1,x.k)])
 n1:1≤x.n
 n2:x.n≤len L (x.i+1)
 al:x.a.length≤2*(i0-x.i)
 st:(tx L bk (x.i+1)).drop (len L (x.i+1)-x.n)++(rep (x.k-1) (tx L bk (x.i+1))++strm L bk x.a)=S
theorem qOs {L:List Rl}{bk:Bool}{a:List (Nat×Nat)}{sy k:Nat}(hk:1≤k):strm L bk (eY a sy k 1)=rep (k-1) (tx L bk sy)++strm L bk a:=by
 unfold eY
 split
 ·rename_i h;subst h;simp[kK]
 rw[lN]
theorem qMa {A:List (Nat×Nat)}{q:Nat×Nat}(h:A.length<1099511627000):(A++[q]).length<1099511627776:=by simp;omega
theorem qHf (a:List (Nat×Nat))(sy:Nat):eY a sy 1 1=a:=if_pos rfl
theorem qLm {u v:List UInt8}{N n:Nat}(hN:N=u.length+v.length)(h:n≤v.length):(u++v).drop (N-n)=v.drop (v.length-n):=by
 rw[List.drop_append,List.drop_eq_nil_of_le oO,List.nil_append,show N-n-u.length=v.length-n by omega]
theorem qHg {u v:List UInt8}{N n:Nat}(hN:N=u.length+v.length)(h:v.length≤n):(u++v).drop (N-n)=u.drop (u.length-(n-v.length))++v:=by
 rw[List.drop_append,show N-n=u.length-(n-v.length) by omega,show u.length-(n-v.length)-u.length=0 by omega,List.drop_zero]
theorem qGz (hE:Seat E){i0 n0:Nat}{bk:Bool}(hi0:i0<Es.length)(hn1:1≤n0)(hn2:n0≤len (rls Es) (i0+1))(hl0:0≤lvl (rls Es) (i0+1)):
  Ct E 167 [uPt pp,.int .i64 ((i0+1:Nat):Int),.int .i64 (n0:Nat),.bool bk] [cells pp [uPt s,uPt tb] 108,tabP tb s (rls Es),bR s most Es] (NrPost pp s tb most Es bk ((tx (rls Es) bk (i0+1)).drop (len (rls Es) (i0+1)-n0))):=by
 refine dY (p:=bR s most Es) uK (fun _ h=>dP h) (fun hsay=>?_)
 obtain⟨hwf,htx,hmost,hfit⟩:=hsay
 have hroom:=hwf.room
 have hshort:=hwf.short (i0+1)
 rw[bQ]at hroom
 unfold fF at hroom
 unfold dB at hshort
 obtain⟨S,hS⟩:∃S,S=(tx (rls Es) bk (i0+1)).drop (len (rls Es) (i0+1)-n0):=⟨_,rfl⟩
 rw[←hS]
 refine bO (hE.fn Tryz.func167) O O O (fun R=>?_)
 simp only[dR,uV,uW]
 refine gg2 ?_
 refine uU (cZ (hE.t O) (fun b8=>?_))
 refine gg7 ?_
 refine uU (cZ (hE.t O) (fun b9=>?_))
 refine gg10 ?_
 refine bE O (fun hn=>?_) (fun hn=>?_)
 ·apply kM
  ·apply cO (iH (t:=245) (sz:=2))
   apply fH (gs:=[]) (x:=b9) (m:=0) (pv:=uPt pp) (bk:=bk) (p:=none) (c:=0)
   ·exact uK
   ·rfl
   rfl
  refine gg2 ?_
  refine uX (xL hE (gs:=[]) (by simp)) O ?_
  rintro _ _⟨rfl,rfl⟩
  simp only[uV,uW]
  refine gg4 ?_
  refine dW (fun x:NrG=>[(0,uPt pp),(1,.int .i64 ((x.i+1:Nat):Int)),(2,.int .i64 (x.n:Nat)),(3,.bool bk),(8,uPt b8),(9,uPt b9)]) (fun x=>[rdP b9 (uPt pp) bk (x.a++[(x.i+1,x.k)]),cells b8 [.pointer none,.bool false,.slice none 0 0] 296,cells pp [uPt s,uPt tb] 108,tabP tb s (rls Es),bR s most Es,R]) (fun x=>x.i) (NrOk (rls Es) bk i0 S) ⟨i0,1,n0,[]⟩ ?_ ?_ ?_ ?_
  ·exact⟨Nat.le_refl _,kU.2 ⟨by show 1≤i0+1;omega,by rw[bQ];show i0+1≤_;omega,hl0,by show 1≤1;omega,by simp[dB]⟩,hn1,hn2,by simp,by simp[kK,strm,hS]⟩
  ·exact⟨O,O,O,O,O,O,trivial⟩
  ·exact uI
  rintro⟨i,k,n,a⟩hok
  obtain⟨le,ok,n1,n2,al,st⟩:=hok
  simp only at le ok n1 n2 al st ⊢
  have hi:i<Es.length:=oO
  have hshort2:=hwf.short (i+1)
  unfold dB at hshort2
  refine gg6 ?_
  refine dS 24 O (fun hn3=>?_) (fun hn3=>?_)
  ·refine gg7 ?_
   refine uX (vD hE hi) O ?_
   rintro _ _⟨rfl,rfl⟩
   simp only[uV,uW]
   refine gg5 ?_
   refine bE O (fun hlt=>?_) (fun hlt=>?_)
   ·have hent:Es[i]?=some (Es[i]'hi):=List.getElem?_eq_getElem hi
    generalize Es[i]'hi=en at hent
    have hr:=kY hent
    have hrok:=hwf.ok i en.r hr
    have hk:=kU.1 (gV.1 ok).2
    have hk5:=hk.2.2.2.2
    unfold dB at hk5
    have hA:strm (rls Es) bk (eY a (i+1) k 1)=rep (k-1) (tx (rls Es) bk (i+1))++strm (rls Es) bk a:=qOs hk.2.2.2.1
    have hAl:(eY a (i+1) k 1).length≤a.length+1:=by unfold eY;split <;>simp
    have hAok:=zH ok hk.2.2.2.1
    have hRok:=qLs hwf (bk:=bk) hr hk.2.2.1
    rw[←hA]at st
    refine gg5 ?_
    refine uX (pV hE (a:=a) hent hk.2.2.2.1 hk5 oO) O ?_
    rintro _ _⟨rfl,rfl⟩
    simp only[uV,uW]
    refine gg5 ?_
    refine uX (fD hE) O ?_
    rintro _ _⟨rfl,rfl⟩
    simp only[uV,uW]
    refine gg1 ?_
    refine uX (jB hE hent) O ?_
    rintro _ _⟨rfl,rfl⟩
    simp only[uV,uW]
    generalize hA2:eY a (i+1) k 1=A at*
    generalize en.r=r at*
    cases r with
    |letter b=>rw[qDd hr]at hlt;omega
    |power y t=>
     simp only[Rl.kind,Rl.byte,Rl.left,Rl.right,Rl.times]
     obtain⟨r1,r2,r3⟩:=id hrok
     obtain⟨j,rfl⟩:∃j,y=j+1:=⟨y-1,oO⟩
     have hlen:=pF hr hrok
     have hpos:=qG hwf (j+1) oO (by rw[bQ];omega)
     have htle:=qEx hwf hr
     unfold dB at htle
     have hlj:=hwf.short (j+1)
     unfold dB at hlj
     have htxy:=eQ (rls Es) bk (j+1)
     have hst:=drop_rep (t:=tx (rls Es) bk (j+1)) (k:=t) n1 oO (by rw[htxy,←hlen];exact n2)
     rw[htxy,←hlen,←qMu hr hrok]at hst
     rw[hst,List.append_assoc]at st
     have hq:(n-1)/len (rls Es) (j+1)<t:=(Nat.div_lt_iff_lt_mul hpos).2 oO
     have hmo:=Nat.mod_lt (n-1) hpos
     have hdiv:((n:Int)-1)/(len (rls Es) (j+1):Nat)=(((n-1)/len (rls Es) (j+1):Nat):Int):=by
      rw[show(n:Int)-1=((n-1:Nat):Int) by omega];exact(Int.natCast_ediv ..).symm
     have hmod:((n:Int)-1)%(len (rls Es) (j+1):Nat)=(((n-1)%len (rls Es) (j+1):Nat):Int):=by
      rw[show(n:Int)-1=((n-1:Nat):Int) by omega];exact(Int.natCast_emod ..).symm
     generalize(n-1)/len (rls Es) (j+1)=q at*
     generalize(n-1)%len (rls Es) (j+1)=m2 at*
     have hqm:t-1-q≤t:=oO
     have hdr:eY A (j+1) t (t-1-q)=A++[(j+1,q+1)]:=by
      unfold eY
      rw[if_neg oO,show t-(t-1-q)=q+1 by omega]
     have hgo:gok (rls Es) (A++[(j+1,q+1)]):=gV.2 ⟨hAok,kU.2 ⟨oO,by rw[bQ];omega,rD hr hrok hk.2.2.1,oO,by unfold dB;omega⟩⟩
     have hdv:(t:Int)-1-((n:Int)-1)/(len (rls Es) (j+1):Nat)=((t-1-q:Nat):Int):=by rw[hdiv];omega
     have hb1:0≤((n:Int)-1)/(len (rls Es) (j+1):Nat)∧((n:Int)-1)/(len (rls Es) (j+1):Nat)≤t:=by rw[hdiv];omega
     have hb2:0≤((n:Int)-1)%(len (rls Es) (j+1):Nat)∧((n:Int)-1)%(len (rls Es) (j+1):Nat)≤1152921504606846976:=by rw[hmod];omega
     cases bk with
     |true=>
      refine gg3 ?_
      refine uU (cZ (hE.t O) (fun b10=>?_))
      refine gg37 ?_
      refine uX (vD hE (Es:=Es) (i:=j) oO) O ?_
      rintro _ _⟨rfl,rfl⟩
      simp only[uV,uW]
      refine gg23 ?_
      refine l_eq 69 (.int .i64 ((t-1-q:Nat):Int)) O (bW hdv) ?_
      simp only[fO]
      refine uX (tZ hE (a:=A) (sy:=j+1) hqm htle oO) O ?_
      rw[hdr]
      rintro _ _⟨rfl,rfl⟩
      simp only[uV,uW]
      refine gg18 ?_
      refine gG 2 (.int .i64 ((m2+1:Nat):Int)) O (bW (by rw[hmod];omega)) ?_
      refine bS (ι:=NrG) (j:=⟨j,q+1,m2+1,A⟩) ?_ ?_ ?_ ?_
      ·exact⟨by show j≤i0;omega,hgo,by show 1≤m2+1;omega,by show m2+1≤len (rls Es) (j+1);omega,by show A.length≤2*(i0-j);omega,st⟩
      ·show j<i;omega
      ·exact⟨O,O,O,O,O,O,trivial⟩
      exact uI
     |false=>
      refine gg3 ?_
      refine uU (cZ (hE.t O) (fun b10=>?_))
      refine gg40 ?_
      refine uX (vD hE (Es:=Es) (i:=j) oO) O ?_
      rintro _ _⟨rfl,rfl⟩
      simp only[uV,uW]
      refine gg23 ?_
      refine l_eq 69 (.int .i64 ((t-1-q:Nat):Int)) O (bW hdv) ?_
      simp only[fO]
      refine uX (tZ hE (a:=A) (sy:=j+1) hqm htle oO) O ?_
      rw[hdr]
      rintro _ _⟨rfl,rfl⟩
      simp only[uV,uW]
      refine gg18 ?_
      refine gG 2 (.int .i64 ((m2+1:Nat):Int)) O (bW (by rw[hmod];omega)) ?_
      refine bS (ι:=NrG) (j:=⟨j,q+1,m2+1,A⟩) ?_ ?_ ?_ ?_
      ·exact⟨by show j≤i0;omega,hgo,by show 1≤m2+1;omega,by show m2+1≤len (rls Es) (j+1);omega,by show A.length≤2*(i0-j);omega,st⟩
      ·show j<i;omega
      ·exact⟨O,O,O,O,O,O,trivial⟩
      exact uI
    |pair l r=>
     simp only[Rl.kind,Rl.byte,Rl.left,Rl.right,Rl.times]
     obtain⟨r1,r2,r3,r4⟩:=id hrok
     obtain⟨jl,rfl⟩:∃j,l=j+1:=⟨l-1,oO⟩
     obtain⟨jr,rfl⟩:∃j,r=j+1:=⟨r-1,oO⟩
     have hlen:=qEr hr hrok
     have hll:=hwf.short (jl+1)
     have hlr:=hwf.short (jr+1)
     unfold dB at hll hlr
     have hlv:=lX hr hrok hk.2.2.1
     have htp:=qTy hr hrok bk
     cases bk with
     |true=>
      simp only[if_true]at htp
      have hrefs:A++fO true (.pair (jl+1) (jr+1))=A++[(jl+1,1)]++[(jr+1,1)]:=by simp[fO]
      refine gg3 ?_
      refine uU (cZ (hE.t O) (fun b10=>?_))
      refine gg26 ?_
      have g1:gok (rls Es) (A++[(jl+1,1)]):=gV.2 ⟨hAok,kU.2 ⟨oO,by rw[bQ];omega,hlv.1,oO,by simp[dB]⟩⟩
      have g2:gok (rls Es) (A++[(jl+1,1)]++[(jr+1,1)]):=gV.2 ⟨g1,kU.2 ⟨oO,by rw[bQ];omega,hlv.2,oO,by simp[dB]⟩⟩
      refine gg11 ?_
      refine uX (vD hE (Es:=Es) (i:=jl) oO) O ?_
      rintro _ _⟨rfl,rfl⟩
      simp only[uV,uW]
      refine gg21 ?_
      refine bE O (fun hc=>?_) (fun hc=>?_)
      ·rw[hrefs]
       refine gg2 ?_
       refine uX (tZ hE (a:=A++[(jl+1,1)]) (sy:=jr+1) (k:=1) (m:=1) oO oO (qMa oO)) O ?_
       rw[qHf]
       rintro _ _⟨rfl,rfl⟩
       simp only[uV,uW]
       refine gg8 ?_
       refine bS (ι:=NrG) (j:=⟨jl,1,n,A⟩) ?_ ?_ ?_ ?_
       ·exact⟨by show jl≤i0;omega,g1,n1,by show n≤len (rls Es) (jl+1);omega,by show A.length≤2*(i0-jl);omega,by rw[←st,htp,qLm (by rw[eQ,eQ];omega) (by rw[eQ];omega),eQ];simp[kK]⟩
       ·show jl<i;omega
       ·exact⟨O,O,O,O,O,O,trivial⟩
       exact uI
      rw[hrefs]
      refine gg14 ?_
      refine gG 2 (.int .i64 ((n-len (rls Es) (jl+1):Nat):Int)) O (bW oO) ?_
      refine bS (ι:=NrG) (j:=⟨jr,1,n-len (rls Es) (jl+1),A++[(jl+1,1)]⟩) ?_ ?_ ?_ ?_
      ·exact⟨by show jr≤i0;omega,g2,by show 1≤n-len (rls Es) (jl+1);omega,by show n-len (rls Es) (jl+1)≤len (rls Es) (jr+1);omega,by show(A++[_]).length≤2*(i0-jr);simp;omega,by rw[←st,htp,qHg (by rw[eQ,eQ];omega) (by rw[eQ];omega),eQ,eQ,lN];simp[kK,rep_one]⟩
      ·show jr<i;omega
      ·exact⟨O,O,O,O,O,O,trivial⟩
      exact uI
     |false=>
      simp only[Bool.false_eq_true,if_false]at htp
      have hrefs:A++fO false (.pair (jl+1) (jr+1))=A++[(jr+1,1)]++[(jl+1,1)]:=by simp[fO]
      refine gg3 ?_
      refine uU (cZ (hE.t O) (fun b10=>?_))
      refine gg29 ?_
      have g1:gok (rls Es) (A++[(jr+1,1)]):=gV.2 ⟨hAok,kU.2 ⟨oO,by rw[bQ];omega,hlv.2,oO,by simp[dB]⟩⟩
      have g2:gok (rls Es) (A++[(jr+1,1)]++[(jl+1,1)]):=gV.2 ⟨g1,kU.2 ⟨oO,by rw[bQ];omega,hlv.1,oO,by simp[dB]⟩⟩
      refine gg6 ?_
      refine uX (vD hE (Es:=Es) (i:=jr) oO) O ?_
      rintro _ _⟨rfl,rfl⟩
      simp only[uV,uW]
      refine gg21 ?_
      refine bE O (fun hc=>?_) (fun hc=>?_)
      ·rw[hrefs]
       refine gg2 ?_
       refine uX (tZ hE (a:=A++[(jr+1,1)]) (sy:=jl+1) (k:=1) (m:=1) oO oO (qMa oO)) O ?_
       rw[qHf]
       rintro _ _⟨rfl,rfl⟩
       simp only[uV,uW]
       refine gg8 ?_
       refine bS (ι:=NrG) (j:=⟨jr,1,n,A⟩) ?_ ?_ ?_ ?_
       ·exact⟨by show jr≤i0;omega,g1,n1,by show n≤len (rls Es) (jr+1);omega,by show A.length≤2*(i0-jr);omega,by rw[←st,htp,qLm (by rw[eQ,eQ];omega) (by rw[eQ];omega),eQ];simp[kK]⟩
       ·show jr<i;omega
       ·exact⟨O,O,O,O,O,O,trivial⟩
       exact uI
      rw[hrefs]
      refine gg14 ?_
      refine gG 2 (.int .i64 ((n-len (rls Es) (jr+1):Nat):Int)) O (bW oO) ?_
      refine bS (ι:=NrG) (j:=⟨jl,1,n-len (rls Es) (jr+1),A++[(jr+1,1)]⟩) ?_ ?_ ?_ ?_
      ·exact⟨by show jl≤i0;omega,g2,by show 1≤n-len (rls Es) (jr+1);omega,by show n-len (rls Es) (jr+1)≤len (rls Es) (jl+1);omega,by show(A++[_]).length≤2*(i0-jl);simp;omega,by rw[←st,htp,qHg (by rw[eQ,eQ];omega) (by rw[eQ];omega),eQ,eQ,lN];simp[kK,rep_one]⟩
      ·show jl<i;omega
      ·exact⟨O,O,O,O,O,O,trivial⟩
      exact uI
   have hne:n=len (rls Es) (i+1):=oO
   refine gg5 ?_
   apply qBq (ps:=fun i':Option Addr×Nat=>[cells b9 [uPt pp,.bool bk,.slice i'.1 (a++[(i+1,k)]).length i'.2] 296,sl i'.1 i'.2 245 2 (a++[(i+1,k)]).length (gsC (a++[(i+1,k)]))]) (p:=rdP b9 (uPt pp) bk (a++[(i+1,k)]))
   ·exact uK
   ·exact lZ
   rintro⟨p,c⟩
   simp only[uV,uW]
   refine gg7 ?_
   apply cB
   ·rfl
   ·((apply Rs.cell rfl (hE.t rfl) rfl;(focus((repeat(first |rfl|assumption|constructor));done)));exact Rs.nil)
   ·refine⟨p,c,a++[(i+1,k)],O,?_,ok,by simp;omega,rfl⟩
    rw[←st,lN,hne,Nat.sub_self,List.drop_zero,←List.append_assoc]
    have hk1:=(kU.1 (gV.1 ok).2).2.2.2.1
    congr 1
    rw[show k=(k-1)+1 by omega,rep_succ,Nat.add_sub_cancel]
   exact uI
  exact absurd n1 oO
 exact absurd hn1 oO
end Go.Proofs.YtjbdlljghogodaaGreatDoor
namespace Eg
def lcp:List UInt8→List UInt8→Nat
 |a::x,b::y=>if a=b then lcp x y+1 else 0
 |_,_=>0
theorem lL (y:List UInt8):lcp [] y=0:=by unfold lcp;rfl
theorem kF (x:List UInt8):lcp x []=0:=by cases x<;>rfl
theorem qDc (u x y:List UInt8):lcp (u++x) (u++y)=u.length+lcp x y:=by
 induction u with
 |nil=>simp
 |cons a u ih=>simp[lcp,ih];omega
theorem lcp_ne {a b:UInt8}(h:a≠b)(x y:List UInt8):lcp (a::x) (b::y)=0:=by simp[lcp,h]
theorem qRv:∀x y:List UInt8,lcp x y≤x.length∧lcp x y≤y.length
 |[],y=>by simp[lL]
 |a::x,[]=>by simp[kF]
 |a::x,b::y=>by
  have:=qRv x y
  unfold lcp
  split
  ·simp;omega
  simp
theorem qRz {W A R u:List UInt8}{t a:Nat}(ha:a≤t)(h:W++(rep t A++R)=u++(W++(rep (t-a) A++R)))(m:Nat)(hm:a≤m):W++(rep m A++R)=u++(W++(rep (m-a) A++R)):=by
 have e1:W++rep a A=u++W:=by
  have h':(W++rep a A)++(rep (t-a) A++R)=(u++W)++(rep (t-a) A++R):=by
   rw[List.append_assoc,List.append_assoc u,←h]
   congr 1
   rw[←List.append_assoc,←xV,Nat.add_sub_cancel' ha]
  exact List.append_cancel_right h'
 have e2:W++(rep m A++R)=(W++rep a A)++(rep (m-a) A++R):=by
  rw[List.append_assoc]
  congr 1
  rw[←List.append_assoc,←xV,Nat.add_sub_cancel' hm]
 rw[e2,e1,List.append_assoc]
theorem qRy {W A R u:List UInt8}{t a:Nat}(ha:a≤t)(h:W++(rep t A++R)=u++(W++(rep (t-a) A++R)))(k m:Nat)(hm:k*a≤m):W++(rep m A++R)=rep k u++(W++(rep (m-k*a) A++R)):=by
 induction k generalizing m with
 |zero=>simp[kK]
 |succ k ih=>
  rw[Nat.add_mul]at hm
  rw[qRz ha h m oO,ih (m-a) oO,rep_succ,List.append_assoc]
  congr 4
  rw[Nat.add_mul,Nat.one_mul]
  congr 1
  omega
def cost (L:List Rl):List (Nat×Nat)→Nat
 |[]=>0
 |g::r=>g.2*(2*len L g.1-1)+cost L r
theorem mQ (L:List Rl)(a b:List (Nat×Nat)):cost L (a++b)=cost L a+cost L b:=by
 induction a with
 |nil=>simp[cost]
 |cons g a ih=>simp[cost,ih];omega
theorem qKz (L:List Rl)(s k:Nat):cost L [(s,k)]=k*(2*len L s-1):=by simp[cost]
def Fw (bf nw:List (Nat×Nat))(i a:Nat):Prop:=
 (a=0∧bf=nw)∨(1≤a∧∃A s t B,bf=A++(s,t)::B∧nw=A++(s,t-a)::B∧i=A.length∧a≤t)
theorem Fw.snoc_same {bf nw:List (Nat×Nat)}{i a:Nat}(h:Fw bf nw i a)(g:Nat×Nat):Fw (bf++[g]) (nw++[g]) i a:=by
 rcases h with⟨h1,h2⟩|⟨h1,A,s,t,B,h2,h3,h4,h5⟩
 ·exact .inl ⟨h1,by rw[h2]⟩
 exact .inr ⟨h1,A,s,t,B++[g],by simp[h2],by simp[h3],h4,h5⟩
theorem Fw.snoc_less {bf nw:List (Nat×Nat)}{i:Nat}(h:Fw bf nw i 0){s t u:Nat}(hu:u<t):Fw (bf++[(s,t)]) (nw++[(s,u)]) nw.length (t-u):=by
 rcases h with⟨_,h2⟩|⟨h1,_⟩
 ·exact .inr ⟨oO,bf,s,t,[],O,by rw[h2,show t-(t-u)=u by omega],by rw[h2],oO⟩
 omega
theorem qMp (L:List Rl)(bk:Bool)(A B:List (Nat×Nat))(s t:Nat):strm L bk (A++(s,t)::B)=strm L bk B++(rep t (tx L bk s)++strm L bk A):=by
 rw[show A++(s,t)::B=A++([(s,t)]++B) by simp,nH,nH,qMq,List.append_assoc]
theorem qHq {L:List Rl}{bk:Bool}{A B:List (Nat×Nat)}{s t a k:Nat}{u:List UInt8}(ha:a≤t)(h:strm L bk (A++(s,t)::B)=u++strm L bk (A++(s,t-a)::B))(hk:k*a≤t-a):
  strm L bk (A++(s,t-a)::B)=rep k u++strm L bk (A++(s,t-a-k*a)::B):=by
 rw[qMp,qMp]at*
 exact qRy ha h k (t-a) hk
end Eg
namespace Go.Proofs.YtjbdlljghogodaaGreatDoor
open Go Go.RowKit Sl Eg
set_option maxRecDepth 10000
section
variable {E:Env}{Es:List Ent}{pp tb s most:Nat}
def FwPost (p1:Option Addr)(c1:Nat)(bf:List (Nat×Nat))(p2:Option Addr)(c2:Nat)(nw:List (Nat×Nat))(v:Value)(Q:List HP):Prop:=
 ∃(i a:Nat)(b:Bool),v= .tuple #[.int .i64 (i:Nat),.int .i64 (a:Nat),.bool b]∧(b=true→1≤a∧Fw bf nw i a)∧Q=[sl p1 c1 245 2 bf.length (gsC bf),sl p2 c2 245 2 nw.length (gsC nw)]
structure FwG where
 k:Nat
 i:Nat
 a:Nat
theorem qLe (hE:Seat E){p1 p2:Option Addr}{c1 c2:Nat}{bf nw:List (Nat×Nat)}(hb:∀g∈bf,g.2≤1152921504606846976) (hn:∀g∈nw,g.2≤1152921504606846976) (hl1:bf.length<1099511627776) (hl2:nw.length<1099511627776):
  Ct E 245 [.slice p1 bf.length c1,.slice p2 nw.length c2] [sl p1 c1 245 2 bf.length (gsC bf),sl p2 c2 245 2 nw.length (gsC nw)] (FwPost p1 c1 bf p2 c2 nw):=by
 refine bO (hE.fn Tryz.func245) O O O (fun R=>?_)
 simp only[dR,uV,uW]
 refine gg17 ?_
 refine bE O (fun hne=>?_) (fun hne=>?_)
 ·refine gg9 ?_
  exact uZ O (.tmp O (.tmp O (.tmp O .nil))) ⟨0,0,false,O,fun h=>(by cases h),O⟩
 have hlen:bf.length=nw.length:=oO
 refine gg11 ?_
 refine dW (fun x:FwG=>[(0,.slice p1 bf.length c1),(1,.slice p2 nw.length c2),(4,.int .i64 (x.i:Nat)),(5,.int .i64 (x.a:Nat)),(6,.bool false),(15,.slice p2 nw.length c2),(16,.int .i64 (nw.length:Nat)),(17,.int .i64 (x.k:Nat))]) (fun _=>[sl p1 c1 245 2 bf.length (gsC bf),sl p2 c2 245 2 nw.length (gsC nw),R]) (fun x=>nw.length-x.k) (fun x=>x.k≤nw.length∧x.a≤1152921504606846976∧Fw (bf.take x.k) (nw.take x.k) x.i x.a) ⟨0,0,0⟩ ?_ ?_ ?_ ?_
 ·exact⟨Nat.zero_le _,Nat.zero_le _,.inl ⟨O,O⟩⟩
 ·exact⟨O,O,O,O,O,O,O,O,trivial⟩
 ·exact uI
 rintro⟨k,i,a⟩⟨hk,hale,hfw⟩
 simp only at hk hale hfw ⊢
 refine gg6 ?_
 refine bE O (fun hlt=>?_) (fun hlt=>?_)
 ·have hkn:k<nw.length:=oO
  have hkb:k<bf.length:=oO
  obtain⟨⟨sn,tn⟩,hgn⟩:∃g,nw[k]?=some g:=⟨_,List.getElem?_eq_getElem hkn⟩
  obtain⟨⟨sb,tb'⟩,hgb⟩:∃g,bf[k]?=some g:=⟨_,List.getElem?_eq_getElem hkb⟩
  have htn:=hn _ (List.mem_of_getElem? hgn)
  have htb:=hb _ (List.mem_of_getElem? hgb)
  simp only at htn htb
  refine jK (p:=sl p1 c1 245 2 bf.length (gsC bf)) uK (fun _ h=>fA h oO) ?_
  rintro⟨g1,rfl⟩
  refine jK (p:=sl p2 c2 245 2 nw.length (gsC nw)) uK (fun _ h=>fA h oO) ?_
  rintro⟨g2,rfl⟩
  have f0:(gsC nw)[0+((k:Nat):Int).toNat*2]?=some (.int .i64 (sn:Nat)):=by rw[show 0+((k:Nat):Int).toNat*2=k*2 by omega];exact(iY hgn).1
  have f1:(gsC nw)[0+((k:Nat):Int).toNat*2+1]?=some (.int .i64 (tn:Nat)):=by rw[show 0+((k:Nat):Int).toNat*2+1=k*2+1 by omega];exact(iY hgn).2
  have f2:(gsC bf)[0+((k:Nat):Int).toNat*2+0]?=some (.int .i64 (sb:Nat)):=by rw[show 0+((k:Nat):Int).toNat*2+0=k*2 by omega];exact(iY hgb).1
  have f3:(gsC bf)[0+((k:Nat):Int).toNat*2+1]?=some (.int .i64 (tb':Nat)):=by rw[show 0+((k:Nat):Int).toNat*2+1=k*2+1 by omega];exact(iY hgb).2
  have e1:bf.take (k+1)=bf.take k++[(sb,tb')]:=by rw[List.take_add_one,hgb];rfl
  have e2:nw.take (k+1)=nw.take k++[(sn,tn)]:=by rw[List.take_add_one,hgn];rfl
  have e3:(nw.take k).length=k:=by simp;omega
  refine gg9 ?_
  refine uU (cZ (hE.t O) (fun b8=>?_))
  refine gg29 ?_
  refine dS 39 O (fun hs=>?_) (fun hs=>?_)
  ·refine gg29 ?_
   exact uZ O (.tmp O (.tmp O (.tmp O .nil))) ⟨0,0,false,O,fun h=>(by cases h),O⟩
  have hss:sb=sn:=oO
  refine gg6 ?_
  refine dS 43 O (fun hl=>?_) (fun hl=>?_)
  ·refine gg25 ?_
   exact uZ O (.tmp O (.tmp O (.tmp O .nil))) ⟨0,0,false,O,fun h=>(by cases h),O⟩
  refine gg6 ?_
  refine dS 46 O (fun hg=>?_) (fun hg=>?_)
  ·refine gg10 ?_
   refine bE O (fun ha=>?_) (fun ha=>?_)
   ·refine gg14 ?_
    exact uZ O (.tmp O (.tmp O (.tmp O .nil))) ⟨0,0,false,O,fun h=>(by cases h),O⟩
   obtain rfl:a=0:=by omega
   refine gg7 ?_
   refine bE O (fun hg2=>?_) (fun hg2=>?_)
   ·refine gg13 ?_
    refine gG 5 (.int .i64 ((tb'-tn:Nat):Int)) O (bW oO) ?_
    refine bS (ι:=FwG) (j:=⟨k+1,k,tb'-tn⟩) ?_ ?_ ?_ ?_
    ·refine⟨by show k+1≤_;omega,by show tb'-tn≤_;omega,?_⟩
     simp only
     rw[e1,e2,hss]
     have:=hfw.snoc_less (s:=sn) (t:=tb') (u:=tn) oO
     rwa [e3]at this
    ·show nw.length-(k+1)<nw.length-k;omega
    ·exact⟨O,O,O,O,O,O,O,O,trivial⟩
    exact uI
   exact absurd hg hg2
  refine gg16 ?_
  refine bE O (fun hg2=>?_) (fun hg2=>?_)
  ·exact absurd hg2 hg
  obtain rfl:tb'=tn:=by omega
  refine gg8 ?_
  refine bS (ι:=FwG) (j:=⟨k+1,i,a⟩) ?_ ?_ ?_ ?_
  ·refine⟨by show k+1≤_;omega,hale,?_⟩
   simp only
   rw[e1,e2,hss]
   exact hfw.snoc_same _
  ·show nw.length-(k+1)<nw.length-k;omega
  ·exact⟨O,O,O,O,O,O,O,O,trivial⟩
  exact uI
 refine gg17 ?_
 apply cB
 ·rfl
 ·(apply Rs.tmp rfl;apply Rs.tmp rfl;apply Rs.tmp rfl;exact Rs.nil)
 ·refine⟨i,a,decide (0<(a:Int)),O,fun h=>⟨by simp at h;omega,?_⟩,rfl⟩
  rw[List.take_of_length_le oO,List.take_of_length_le oO]at hfw
  exact hfw
 exact uI
end
section
variable {E:Env}{Es:List Ent}{pp tb s most:Nat}
def LpPost (L:List Rl)(bk:Bool)(p1:Option Addr)(c1:Nat)(mx:List (Nat×Nat))(p2:Option Addr)(c2:Nat)(my:List (Nat×Nat))(p3:Option Addr)(c3:Nat)(gx:List (Nat×Nat))(p4:Option Addr)(c4:Nat)(gy:List (Nat×Nat))(v:Value)(Q:List HP):Prop:=
 ∃gx' gy' w,v= .int .i64 (w.length:Nat)∧strm L bk gx=w++strm L bk gx'∧strm L bk gy=w++strm L bk gy'∧gok L gx'∧gok L gy'∧gx'.length=gx.length∧gy'.length=gy.length∧cost L gx'≤cost L gx∧cost L gy'≤cost L gy∧
  Q=[sl p1 c1 245 2 mx.length (gsC mx),sl p2 c2 245 2 my.length (gsC my),sl p3 c3 245 2 gx'.length (gsC gx'),sl p4 c4 245 2 gy'.length (gsC gy')]
theorem qLr {L:List Rl}{gs:List (Nat×Nat)}(h:gok L gs):∀g∈gs,g.2≤1152921504606846976:=fun g hg=>(h g hg).2.2.2.2
theorem qRl {L:List Rl}{A B:List (Nat×Nat)}{s t u:Nat}(h:gok L (A++(s,t)::B))(h1:1≤u)(h2:u≤t):gok L (A++(s,u)::B):=by
 intro g hg
 simp at hg
 rcases hg with hg|rfl|hg
 ·exact h g (by simp[hg])
 ·have:=h (s,t) (by simp)
  exact⟨this.1,this.2.1,this.2.2.1,h1,Nat.le_trans h2 this.2.2.2.2⟩
 exact h g (by simp[hg])
theorem qKy {L:List Rl}{A B:List (Nat×Nat)}{s t u:Nat}(h:u≤t):cost L (A++(s,u)::B)≤cost L (A++(s,t)::B):=by
 rw[mQ,mQ]
 simp only[cost]
 have:=Nat.mul_le_mul_right (2*len L s-1) h
 omega
theorem qTe {A B:List (Nat×Nat)}{s t u:Nat}:(A++(s,t)::B).set A.length (s,u)=A++(s,u)::B:=by simp
theorem qEm {A B:List (Nat×Nat)}{s t:Nat}:(A++(s,t)::B)[A.length]?=some (s,t):=by simp
theorem ct_leap (hE:Seat E){L:List Rl}{bk bk1 bk2:Bool}{pv1 pv2:Value}{p1 p2 p3 p4:Option Addr}{c1 c2 c3 c4 m0 sum:Nat}{mx my gx gy:List (Nat×Nat)}{u:List UInt8}(hmx:gok L mx)(hmy:gok L my)(hgx:gok L gx)(hgy:gok L gy)
  (hl1:mx.length<1099511627776) (hl2:my.length<1099511627776) (hl3:gx.length<1099511627776) (hl4:gy.length<1099511627776)
  (hux:strm L bk mx=u++strm L bk gx) (huy:strm L bk my=u++strm L bk gy) (hul:u.length+m0=sum) (hsum:sum≤1152921504606846976) (hlen:(strm L bk gx).length≤1152921504606846976):
  Ct E 214 [.agg #[.slice p1 mx.length c1,.slice p2 my.length c2,.int .i64 (m0:Nat)],.agg #[pv1,.bool bk1,.slice p3 gx.length c3],.agg #[pv2,.bool bk2,.slice p4 gy.length c4],.int .i64 (sum:Nat)]
   [sl p1 c1 245 2 mx.length (gsC mx),sl p2 c2 245 2 my.length (gsC my),sl p3 c3 245 2 gx.length (gsC gx),sl p4 c4 245 2 gy.length (gsC gy)] (LpPost L bk p1 c1 mx p2 c2 my p3 c3 gx p4 c4 gy):=by
 refine bO (hE.fn Tryz.func214) O O O (fun R=>?_)
 simp only[dR,uV,uW]
 refine gg2 ?_
 refine uU ?_
 refine gL O (fun b4=>?_)
 refine uU ?_
 refine gL O (fun b5=>?_)
 refine uU ?_
 refine gL O (fun b6=>?_)
 refine gg9 ?_
 refine uX (qLe hE (qLr hmx) (qLr hgx) hl1 hl3) O ?_
 rintro _ _⟨i,a,b,rfl,hf1,rfl⟩
 simp only[uV,uW]
 cases b with
 |false=>
  refine gg24 ?_
  exact uZ O (.tmp O .nil) ⟨gx,gy,[],O,O,O,hgx,hgy,O,O,Nat.le_refl _,Nat.le_refl _,O⟩
 |true=>
  refine gg25 ?_
  refine uX (qLe hE (qLr hmy) (qLr hgy) hl2 hl4) O ?_
  rintro _ _⟨j,b',b,rfl,hf2,rfl⟩
  simp only[uV,uW]
  cases b with
  |false=>
   refine gg24 ?_
   exact uZ O (.tmp O .nil) ⟨gx,gy,[],O,O,O,hgx,hgy,O,O,Nat.le_refl _,Nat.le_refl _,O⟩
  |true=>
   obtain⟨ha,hf1⟩:=hf1 rfl
   obtain⟨hb,hf2⟩:=hf2 rfl
   rcases hf1 with⟨h0,_⟩|⟨_,A,s1,t1,B,rfl,rfl,rfl,hat⟩
   ·omega
   rcases hf2 with⟨h0,_⟩|⟨_,A2,s2,t2,B2,rfl,rfl,rfl,hbt⟩
   ·omega
   have g1:=(hgx (s1,t1-a) (by simp)).2.2.2
   have g2:=(hgy (s2,t2-b') (by simp)).2.2.2
   unfold dB at g1 g2
   simp only at g1 g2
   obtain⟨k,hk⟩:∃k,k=min ((t1-a-1)/a) ((t2-b'-1)/b'):=⟨_,rfl⟩
   have hk1:k*a≤t1-a-1:=Nat.le_trans (Nat.mul_le_mul_right a oO) (Nat.div_mul_le_self _ _)
   have hk2:k*b'≤t2-b'-1:=Nat.le_trans (Nat.mul_le_mul_right b' oO) (Nat.div_mul_le_self _ _)
   have hx:=qHq (k:=k) hat hux oO
   have hy:=qHq (k:=k) hbt huy oO
   have hku:k*u.length≤1152921504606846976:=by
    rw[hx,List.length_append,rep_length]at hlen;omega
   generalize hX:t1-a=x1 at*
   generalize hY:t2-b'=y1 at*
   have hA:A.length<(A++(s1,x1)::B).length:=by simp
   have hA2:A2.length<(A2++(s2,y1)::B2).length:=by simp
   have e1:0+((A.length:Nat):Int).toNat*2+1=A.length*2+1:=oO
   have e2:0+((A2.length:Nat):Int).toNat*2+1=A2.length*2+1:=oO
   have f1:(gsC (A++(s1,x1)::B))[0+((A.length:Nat):Int).toNat*2+1]?=some (.int .i64 (x1:Nat)):=by rw[e1];exact(iY qEm).2
   have f2:(gsC (A2++(s2,y1)::B2))[0+((A2.length:Nat):Int).toNat*2+1]?=some (.int .i64 (y1:Nat)):=by rw[e2];exact(iY qEm).2
   have q1:((x1:Int)-1)/(a:Nat)=(((x1-1)/a:Nat):Int):=by rw[show(x1:Int)-1=((x1-1:Nat):Int) by omega];exact(Int.natCast_ediv ..).symm
   have q2:((y1:Int)-1)/(b':Nat)=(((y1-1)/b':Nat):Int):=by rw[show(y1:Int)-1=((y1-1:Nat):Int) by omega];exact(Int.natCast_ediv ..).symm
   have hkk:(if((y1:Int)-1)/(b':Nat)<((x1:Int)-1)/(a:Nat)then((y1:Int)-1)/(b':Nat)else((x1:Int)-1)/(a:Nat))=(k:Nat):=by
    rw[q1,q2,hk]
    generalize(x1-1)/a=u1
    generalize(y1-1)/b'=u2
    split <;>omega
   have m1:(k:Int)*(a:Int)=((k*a:Nat):Int):=(Int.natCast_mul ..).symm
   have m2:(k:Int)*(b':Int)=((k*b':Nat):Int):=(Int.natCast_mul ..).symm
   have m3:(k:Int)*((sum:Int)-(m0:Int))=((k*u.length:Nat):Int):=by rw[show(sum:Int)-(m0:Int)=(u.length:Int) by omega];exact(Int.natCast_mul ..).symm
   have b1:0≤(k:Int)*(a:Int)∧(k:Int)*(a:Int)≤x1:=by rw[m1];omega
   have b2:0≤(k:Int)*(b':Int)∧(k:Int)*(b':Int)≤y1:=by rw[m2];omega
   have b3:0≤(k:Int)*((sum:Int)-(m0:Int))∧(k:Int)*((sum:Int)-(m0:Int))≤1152921504606846976:=by rw[m3];omega
   have st1:bX (gsC (A++(s1,x1)::B)) (0+((A.length:Nat):Int).toNat*2+1) (bP (.int .i64 ((x1:Int)-(k:Int)*(a:Int))))=gsC (A++(s1,x1-k*a)::B):=by
    rw[e1,show(x1:Int)-(k:Int)*(a:Int)=((x1-k*a:Nat):Int) by rw[m1];omega]
    have:=qEn (gs:=A++(s1,x1)::B) qEm (x1-k*a)
    simp only[bX,bP]
    rw[this,qTe]
   have st2:bX (gsC (A2++(s2,y1)::B2)) (0+((A2.length:Nat):Int).toNat*2+1) (bP (.int .i64 ((y1:Int)-(k:Int)*(b':Int))))=gsC (A2++(s2,y1-k*b')::B2):=by
    rw[e2,show(y1:Int)-(k:Int)*(b':Int)=((y1-k*b':Nat):Int) by rw[m2];omega]
    have:=qEn (gs:=A2++(s2,y1)::B2) qEm (y1-k*b')
    simp only[bX,bP]
    rw[this,qTe]
   refine tL (p:=sl p3 c3 245 2 (A++(s1,x1)::B).length (gsC (A++(s1,x1)::B))) uK (fun _ h=>fA h oO) ?_
   rintro⟨g3,rfl⟩
   refine tL (p:=sl p4 c4 245 2 (A2++(s2,y1)::B2).length (gsC (A2++(s2,y1)::B2))) uK (fun _ h=>fA h oO) ?_
   rintro⟨g4,rfl⟩
   refine gg43 ?_
   refine w_eq 14 (.int .i64 (k:Nat)) O (bW hkk) ?_
   refine gg17 ?_
   rw[st1]
   refine gg17 ?_
   rw[st2]
   refine gg12 ?_
   apply cB
   ·rfl
   ·(apply Rs.tmp rfl;exact Rs.nil)
   ·refine⟨A++(s1,x1-k*a)::B,A2++(s2,y1-k*b')::B2,rep k u,?_,hx,hy,qRl hgx oO oO,qRl hgy oO oO,by simp,by simp,qKy oO,qKy oO,rfl⟩
    rw[rep_length]
    exact bW m3
   rw[show(A++(s1,x1-k*a)::B).length=(A++(s1,x1)::B).length by simp,show(A2++(s2,y1-k*b')::B2).length=(A2++(s2,y1)::B2).length by simp]
   exact uI
end
end Go.Proofs.YtjbdlljghogodaaGreatDoor
namespace Sl
open Go Go.RowKit
variable {E:Env}{n:Nat}{L:Fr}{S H H':List HP}{ty:TypeId}{pos:String}{af:Array Edge}{d:Option Nat}{gd:Option (Nat×Bool)}{K:Value→List HP→Prop}{Q:Exit→Act→World→Prop}
theorem equal_sl {P:Program}{t e:TypeId}(hu:P.underlying t=some (.slice e))(p:Option Addr)(a b c d:Nat)(w:World):(Op.equal t (.slice p a b) (.slice none c d)).run P w= .ok p.isNone w:=by
 unfold Op.equal
 rw[show Op.maxDepth=9999+1 from rfl,Op.equalIn]
 cases p<;>simp[underlying,program,Sem.run,hu]
theorem qNx (op:BinOp)(t:TypeId)(x y:Operand)(p q:Option Addr)(a b c d:Nat)(P:Program)(w:World):(eqGuard op t x y (.slice p a b) (.slice q c d)).run P w= .ok () w:=by
 unfold eqGuard;split <;>simp
theorem y_eq_sl {x:Operand}{t yt e:TypeId}{p:Option Addr}{a b s by_ sz:Nat}{zs:List Value}(hx:ev L x=some (.slice p a b))(ht:E.tab t=some ⟨.slice e s by_,sz,zs⟩):
  Yl E n L S ⟨d,.binOp .eql t x (.const (.slice none 0 0)) yt,ty,pos,af,gd⟩ (.bool p.isNone):=fun ac w g _=>by
 have hy:ac.eval (.const (.slice none 0 0))= .slice none 0 0:=rfl
 simp[execOp,qNx,binOp,equal_sl (fI ht).1,g.ev hx,hy]
theorem nU {t e:TypeId}{es by_ sz:Nat}{zs:List Value}(ht:E.tab t=some ⟨.slice e es by_,sz,zs⟩)(hk:∀b,K (.slice (some ⟨b,0,none⟩) 0 0) (sl (some ⟨b,0,none⟩) 0 e es 0 []::H)):
  Ld E n L H ⟨d,.buildSlice t 0 #[],ty,pos,af,gd⟩ K:=fun Q next a w g hn=>by
 obtain⟨hu,j,hj,hs,_⟩:=fI ht
 have hrun:(execOp a.eval ⟨d,.buildSlice t 0 #[],ty,pos,af,gd⟩).run E.P w= .ok (.value (.slice (some ⟨w.heap.size,0,none⟩) 0 0)) (w.alloc (.cells #[] e)):=by
  simp[execOp,Instr.buildSlice,underlying,program,Sem.run,hu,Go.sizeOf,typeInfo,hj,Instr.fill,newRow,newObj]
  congr 2
  exact Array.toList_inj.1 (by simp)
 unfold Oper.wp
 rw[hrun,Oper.upon_value]
 refine hn _ _ _ (hk _) ((g.hp.new _).imp fun k h=>gH (fun k' h'=>?_) h)
 exact⟨by simp,.inr ⟨_,#[],rfl,h',Nat.le_refl _,Nat.zero_le _,by simp,by simp⟩⟩
theorem yN {x y:Operand}{t e:TypeId}{p:Option Addr}{c m k cc g es by_ sz sz':Nat}{xs us zs zs':List Value}{kk:TK}{H'':List HP}(ht:E.tab t=some ⟨.slice e es by_,sz,zs⟩)(he:E.tab e=some ⟨kk,sz',zs'⟩)(hz:(Nat.beq zs'.length es&&Nat.blt 0 es)=true)
  (hx:ev L x=some (.slice p m c)) (hy:ev L y=some (.slice (some ⟨g,0,none⟩) k cc)) (hm:Take (sl (some ⟨g,0,none⟩) cc e es k us) H H') (hm2:Take (sl p c e es m xs) H' H'') (hp:∀u∈us,u.oneCell'=true) (h0:0<k) (hb:(m+k)*by_≤140737488355328) (hb2:m+k≤maxLen)
  (hk:∀g' c' m' xs',m'=m+k→xs'=xs++us→K (.slice (some ⟨g',0,none⟩) m' c') (sl (some ⟨g',0,none⟩) c' e es m' xs'::sl (some ⟨g,0,none⟩) cc e es k us::H'')):Ld E n L H ⟨d,.call {callee:= .builtin .append,args:= #[x,y],argTypes:= #[t,t]},ty,pos,af,gd⟩ K:=fun Q next a w G hn=>by
 obtain⟨hu,j,hj,hs,hby⟩:=fI ht
 obtain⟨i,z,hi,hi2,hiz,hzc,_⟩:=fE he
 obtain rfl:i=j:=by rw[hi]at hj;simpa using hj
 simp only[Bool.and_eq_true]at hz
 have z1:=Nat.eq_of_beq_eq_true hz.1
 have z2:0<es:=by simpa[Nat.blt_eq]using hz.2
 have s1:=G.hp.take hm
 have hl:us.length=k*es:=by obtain⟨h1,h2,_,_,hh,_⟩:=s1.hp;exact hh.1
 have s2:Sat E.w0 w (sl p c e es m xs::sl (some ⟨g,0,none⟩) cc e es k us::H''):=(s1.imp fun _ h=>jJ (fT (fun _=>hm2.out) h))
 have hnews:∀j u,us[j]?=some u→w.cell? ((⟨g,0,none⟩:Addr).add j)=some u:=fun j u hu=>by rw[addr_add,Nat.zero_add];exact(HasC.slice hu).cell s1
 obtain⟨g',c',w',hr,ho,hgr,hat,_⟩:=run_append_lies (P:=E.P) w t ty E.w0.heap.size e i z es by_ hu hi hiz hs hby (by rw[←Array.length_toList,hzc];exact z1) z2 (.slice p m c) m xs s2.owns ⟨g,0,none⟩ k cc us hl hnews hp h0 hb2 hb s2.size _ rfl
 have hrun:(execOp a.eval ⟨d,.call {callee:= .builtin .append,args:= #[x,y],argTypes:= #[t,t]},ty,pos,af,gd⟩).run E.P w= .ok (.value (.slice (some ⟨g',0,none⟩) (m+k) c')) w':=by
  simp[execOp,resolve,invoke,builtin,G.f.ev hx,G.f.ev hy,hr]
 unfold Oper.wp
 rw[hrun,Oper.upon_value]
 exact hn _ _ _ (hk g' c' _ _ O O) (s2.resl ho hgr hat)
theorem qOi {ops:List Oper}{m:Nat}{S:List HP}{fuel:Nat}{listed:Array Bool}(i j:Nat){d d':Option Nat}{op op':Op}{ty ty':TypeId}{pos pos':String}{af af':Array Edge}(hi:ops[i]?=some ⟨d,op,ty,pos,af,none⟩)(hj:ops[j]?=some ⟨d',op',ty',pos',af',none⟩)(hr:Region.ready .any ops.toArray listed=[i,j])(hd:inB n d=true)(hd':inB n d'=true)
  (h:Ld E n L H ⟨d,op,ty,pos,af,none⟩ (fun v H'=>(∀k,dU H' k→dU S k)∧WPM E ops m S Q fuel (listed.setIfInBounds i true) n (putL d v L) H')) (h':Ld E n L H ⟨d',op',ty',pos',af',none⟩ (fun v H'=>(∀k,dU H' k→dU S k)∧WPM E ops m S Q fuel (listed.setIfInBounds j true) n (putL d' v L) H')):WPM E ops m S Q (fuel+1) listed n L H:=fun _ a w g=>
 ⟨fun h0=>(by rw[hr]at h0;cases h0),fun x hx=>by
  have hx':x=i∨x=j:=by rw[hr]at hx;simpa using hx
  rcases hx' with rfl|rfl
  ·unfold wpOp
   simp only[eH hi,Region.wanted,if_true]
   exact .inl (h _ _ a w g (fun v H' w' hk hs=>⟨fun _=>hs.imp hk.1,hk.2 hk.1 _ _ ⟨g.f.put d v hd,hs⟩⟩))
  unfold wpOp
  simp only[eH hj,Region.wanted,if_true]
  exact .inl (h' _ _ a w g (fun v H' w' hk hs=>⟨fun _=>hs.imp hk.1,hk.2 hk.1 _ _ ⟨g.f.put d' v hd',hs⟩⟩))⟩
theorem y_and {x y:Operand}{xt yt:TypeId}{i j:Int}{kd:IntKind}(hx:ev L x=some (.int kd i))(hy:ev L y=some (.int kd j)):
  Yl E n L S ⟨d,.binOp .and xt x y yt,ty,pos,af,gd⟩ (.int kd (kd.wrap (BitVec.ofInt kd.bits i&&&BitVec.ofInt kd.bits j).toNat)):=fun a w g _=>by
 simp[execOp,eqGuard,binOp,Op.intBits,g.ev hx,g.ev hy]
def WRd (E:Env)(c:Code)(Q:Exit→Act→World→Prop)(m:Nat)(n:Nat)(L:Fr)(H:List HP):Prop:=∀a w,Good E n L H a w→Code.rounds E.P c Q m a w
theorem nT (m:Nat){c:Code}(h:WRd E c Q m n L H):WP E (.loop c) Q n L H:=fun a w g=>wp_loop_rounds m (h a w g)
theorem r_succ {m:Nat}{c:Code}(h:WP E c (Exit.then (Code.rounds E.P c Q m) Q) n L H):WRd E c Q (m+1) n L H:=fun a w g=>h a w g
theorem a_rd {m:Nat}{c:Code}(h:WRd E c Q m n L H):AT E (Exit.then (Code.rounds E.P c Q m) Q) .normal n L H:=h
theorem y_idx {x y:Operand}{t e:TypeId}{len sz sz':Nat}{k:IntKind}{i:Int}{kk:TK}{zs zs' cs:List Value}{v:Value}(h:ev L x=some (.agg ⟨cs⟩))(hy:ev L y=some (.int k i))(ht:E.tab t=some ⟨.array len e 1,sz,zs⟩)(he:E.tab e=some ⟨kk,sz',zs'⟩)(hk:kk.agg=false)
  (h0:0≤i) (h1:i<len) (hv:cs[i.toNat]?=some v):Yl E n L S ⟨d,.index t x y,ty,pos,af,gd⟩ v:=fun a w g _=>by
 obtain⟨hu,j,hj,hs⟩:=qIv ht
 simp[execOp,Instr.index,asIntOf,underlying,program,Sem.run,hu,g.ev h,g.ev hy,h0,h1,Go.sizeOf,typeInfo,hj,hs,part,lQ he,hk,hv]
theorem y_buildA {t e:TypeId}{len s:Nat}{ps:List (Nat×Operand)}{vs:List (Nat×Value)}{sz:Nat}{zs cs:List Value}(ht:E.tab t=some ⟨.array len e s,sz,zs⟩)(hp:evP L ps=some vs)(hf:qJt (fun i=>some (i*s,s)) zs vs=some cs):
  Yl E n L S ⟨d,.build t ps.toArray,ty,pos,af,gd⟩ (.agg ⟨cs⟩):=fun a w g _=>by
 obtain⟨z,hz,hc⟩:=zN ht w
 obtain⟨hu,j,hj,hs⟩:=qIv ht
 have hps:=g.evP hp
 have hfill:=qEk (fun i=>some (i*s,s)) vs zs cs hf
 have e':z.cells=⟨zs⟩:=by rw[←hc]
 have hpl:(ps.toArray.map fun x=>match x with |(i,x)=>(i,a.eval x)).toList=vs:=by simpa using hps
 simp only[execOp,Instr.build,Sem.run_bind,hz,Result.andThen_ok,underlying,program,Sem.run,hu,Go.sizeOf,typeInfo,hj,hs,e',hpl,Sem.run_pure]
 rw[hfill]
 rfl
end Sl
namespace Go.Proofs.YtjbdlljghogodaaGreatDoor
open Go Go.RowKit Sl Eg
set_option maxRecDepth 10000
variable {E:Env}
theorem qRm:∀(gs:List (Nat×Nat)),∀u∈gsC gs,u.oneCell'=true
 |[],_,h=>by simp[gsC]at h
 |g::r,u,h=>by
  simp[gsC]at h
  rcases h with rfl|rfl| h
  ·rfl
  ·rfl
  exact qRm r u h
theorem qLd (hE:Seat E){g c:Nat}{gs:List (Nat×Nat)}(h0:0<gs.length)(hl:gs.length<1099511627776):
  Ct E 213 [.slice (some ⟨g,0,none⟩) gs.length c] [sl (some ⟨g,0,none⟩) c 245 2 gs.length (gsC gs)]
   (fun v Q=>∃g' c',v= .slice (some ⟨g',0,none⟩) gs.length c'∧Q=[sl (some ⟨g',0,none⟩) c' 245 2 gs.length (gsC gs),sl (some ⟨g,0,none⟩) c 245 2 gs.length (gsC gs)]):=by
 refine bO (hE.fn Tryz.func213) O O O (fun R=>?_)
 simp only[dR,uV,uW]
 refine gg17 ?_
 refine uU ?_
 refine nU (hE.t O) (fun b5=>?_)
 refine gg1 ?_
 refine uU ?_
 apply yN (hE.t O) (hE.t O) O O O
 ·exact uK
 ·exact uK
 ·exact qRm gs
 ·exact h0
 ·omega
 ·unfold maxLen;omega
 intro g' c' m' xs' hm hx
 obtain rfl:m'=gs.length:=by omega
 obtain rfl:xs'=gsC gs:=by rw[hx];rfl
 refine gg4 ?_
 exact uZ O (.tmp O .nil) ⟨g',c',O,O⟩
end Go.Proofs.YtjbdlljghogodaaGreatDoor
namespace Eg
theorem le_lcp {A B:List UInt8}{n:Nat}:n≤lcp A B↔∀i,i<n→∃x,A[i]?=some x∧B[i]?=some x:=by
 induction n generalizing A B with
 |zero=>simp
 |succ n ih=>
  cases A with
  |nil=>
   rw[lL]
   constructor
   ·intro h;omega
   intro h;obtain⟨x,h1,_⟩:=h 0 oO;simp at h1
  |cons a A=>
   cases B with
   |nil=>
    rw[kF]
    constructor
    ·intro h;omega
    intro h;obtain⟨x,_,h1⟩:=h 0 oO;simp at h1
   |cons b B=>
    by_cases e:a=b
    ·subst e
     have:lcp (a::A) (a::B)=lcp A B+1:=by simp[lcp]
     rw[this,Nat.add_le_add_iff_right,ih]
     constructor
     ·intro h i hi
      cases i with
      |zero=>exact⟨a,rfl,rfl⟩
      |succ i=>simpa using h i oO
     intro h i hi
     simpa using h (i+1) oO
    have:lcp (a::A) (b::B)=0:=by simp[lcp,e]
    rw[this]
    constructor
    ·intro h;omega
    intro h
    obtain⟨x,h1,h2⟩:=h 0 oO
    simp at h1 h2
    exact absurd (h1.trans h2.symm) e
theorem qLv {A B:List UInt8}{n:Nat}(ha:n≤A.length)(_hb:n≤B.length):n≤lcp A B↔A.take n=B.take n:=by
 rw[le_lcp]
 constructor
 ·intro h
  apply List.ext_getElem?
  intro i
  rw[List.getElem?_take,List.getElem?_take]
  split
  ·rename_i hi
   obtain⟨x,h1,h2⟩:=h i hi
   rw[h1,h2]
  rfl
 intro h i hi
 have e:=congrArg (·[i]?) h
 simp only[List.getElem?_take,if_pos hi]at e
 exact⟨A[i]'oO,List.getElem?_eq_getElem oO,by rw[←e];exact List.getElem?_eq_getElem oO⟩
def Per (T:List UInt8)(d:Nat):Prop:=lcp T (T.drop d)=T.length-d
instance (T:List UInt8)(d:Nat):Decidable (Per T d):=inferInstanceAs (Decidable (_=_))
def seg (T:List UInt8)(a b:Nat):List UInt8:=(T.take b).drop a
def aft (T:List UInt8)(p d:Nat):Nat:=lcp (T.drop p) (T.drop (p+d))
end Eg
