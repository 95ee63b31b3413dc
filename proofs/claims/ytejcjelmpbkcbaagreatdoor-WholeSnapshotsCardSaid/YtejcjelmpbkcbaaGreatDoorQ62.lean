import Derived.Test.YtejcjelmpbkcbaaGreatDoorQ31
import Derived.Test.YtejcjelmpbkcbaaGreatDoorQ61
set_option linter.all false
set_option maxHeartbeats 1000000
namespace Go.Proofs.YtejcjelmpbkcbaaGreatDoor
open Go Go.RowKit Sl Eg
set_option maxRecDepth 10000
section
variable {E:Env}{Es:List Ent}{pp tb s most:Nat}
def cpC (st:List (Nat×Nat)):List Value:=st.flatMap fun p=>[.int .i64 (p.1:Nat),.int .i64 (p.2:Nat)]
def qJ (a b:List (Nat×Nat)):cpC (a++b)=cpC a++cpC b:=by simp[cpC]
def uG:∀(st:List (Nat×Nat)),(cpC st).length=st.length*2
 |[]=>rfl
 |p::st=>by
  have:=uG st;simp only[cpC,uu,aa,av,di]at this ⊢;omega
def qHa (st:List (Nat×Nat))(x t:Nat):cpC (st++[(x,t)])=cpC st++ .int .i64 (x:Nat):: .int .i64 (t:Nat)::[]:=by simp[cpC]
def qUh {st:List (Nat×Nat)}{x t:Nat}:(cpC (st++[(x,t)]))[(cpC st).length]?=some (.int .i64 (x:Nat))∧(cpC (st++[(x,t)]))[(cpC st).length+1]?=some (.int .i64 (t:Nat)):=by
 rw[qHa];exact⟨ap_0,ap_1⟩
def cp_set {st:List (Nat×Nat)}{x t u:Nat}:bX (cpC (st++[(x,t)])) ((cpC st).length+1) [.int .i64 (u:Nat)]=cpC (st++[(x,u)]):=by
 rw[qHa,qHa,sm_1]
def cp_ptr {st:List (Nat×Nat)}{g n:Nat}(h:n=st.length+1):(.pointer (some ⟨g,0+(((n:Nat):Int)-1).toNat*2,none⟩):Value)= .pointer (some ⟨g,(cpC st).length,none⟩):=by
 rw[uG,show 0+(((n:Nat):Int)-1).toNat*2=st.length*2 by omega]
structure SplG where
 st:List (Nat×Nat)
 done:List UInt8
 p:Option Addr
 c:Nat
 g:Nat
 cc:Nat
def ct_spell (hE:Seat E){bt g0 c0 x0:Nat}{pre:List UInt8}(hx0:1≤x0∧x0≤Es.length)(hl0:pre.length+len (rls Es) x0≤65536):Ct E 219 [uPt s,.int .i64 (x0:Nat),uPt bt] [bR s most Es,cells bt [.slice (some ⟨g0,0,none⟩) pre.length c0] 44,sl (some ⟨g0,0,none⟩) c0 5 1 pre.length (byC pre)]
  (fun v Q=>∃g c,v= .nilIface∧Q=[bR s most Es,cells bt [.slice (some ⟨g,0,none⟩) (pre++txt (rls Es) x0).length c] 44,sl (some ⟨g,0,none⟩) c 5 1 (pre++txt (rls Es) x0).length (byC (pre++txt (rls Es) x0))]):=by
 refine eU (p:=bR s most Es) uK (fun _ h=>dS h) (fun hsay=>?_);have hLl:=bQ Es;have hlen0:len (rls Es) x0=(txt (rls Es) x0).length:=rfl;refine bO (hE.fn Tryz.func219) O O O (fun R=>?_);simp only[dX,uV,uW];refine gg9 ?_;refine uU ?_;refine aU (hE.t O) (hE.t O) O O O (fun b14=>?_);refine gg5 ?_;refine iY (cK (p:=cells b14 [.int .i64 (x0:Nat),.int .i64 1] 352) (p':=sl (some ⟨b14,0,none⟩) 1 352 2 1 (cpC [(x0,1)])) uK (iK O (by unfold maxLen;omega))) ?_
 refine eQ (fun q:SplG=>[(0,uPt s),(2,uPt bt),(7,.slice q.p q.st.length q.c)]) (fun q=>[bR s most Es,cells bt [.slice (some ⟨q.g,0,none⟩) q.done.length q.cc] 44,sl (some ⟨q.g,0,none⟩) q.cc 5 1 q.done.length (byC q.done),sl q.p q.c 352 2 q.st.length (cpC q.st),R]) (fun q=>spM (rls Es) q.st) (fun q=>q.done++spT (rls Es) q.st=pre++txt (rls Es) x0∧SpOk (rls Es) q.st∧spM (rls Es) q.st≤131072) ⟨[(x0,1)],pre,some ⟨b14,0,none⟩,1,g0,c0⟩ ⟨by simp only[qJa],fun q hq=>by
  obtain rfl:=bg.1 hq;exact⟨hx0.1,oO,ai _⟩,by simp only[qF];omega⟩ ⟨rfl,rfl,rfl,trivial⟩ uI ?_
 rintro⟨st,done,p,c,g,cc⟩⟨htx,hok,hms⟩;simp only at htx hok hms ⊢;have hsl:=hok.len hsay.1;have htl:=bf List.length htx;simp only[aa]at htl;refine gg8 ?_;refine bE O (fun h=>?_) (fun h=>?_)
 ·obtain⟨ini,x,t,rfl⟩:∃ini x t,st=ini++[(x,t+1)]:=by
   rcases bu st with rfl|⟨ini,⟨x,t⟩,rfl⟩
   ·simp at h
   rw[bv]at hok;have:=(hok (x,t) (by simp)).2.2;exact⟨ini,x,t-1,by rw[bv,Nat.sub_add_cancel this]⟩
  have hil:(ini++[(x,t+1)]).length=ini.length+1:=by simp
  have hT:=spT_pop (rls Es) ini x t;have hM:=spM_pop (rls Es) ini x t;have hok':=hok.pop;have hxx:=hok (x,t+1) (by simp);simp only at hxx;obtain⟨i,rfl⟩:∃i,x=i+1:=⟨x-1,oO⟩;have hent:Es[i]?=some (Es[i]'oO):=ag oO;generalize Es[i]'oO=en at hent;have hri:(rls Es)[i]?=some en.r:=by simp[rls,hent]
  have hpl:=uG ini;obtain⟨f0,f1⟩:=qUh (st:=ini) (x:=i+1) (t:=t+1);obtain⟨f2,f3⟩:=qUh (st:=ini) (x:=i+1) (t:=t);refine jG (p:=sl p c 352 2 (ini++[(i+1,t+1)]).length (cpC (ini++[(i+1,t+1)]))) uK (fun _ h=>And.intro (fA h oO) (pM h).1) ?_;rintro⟨⟨g7,rfl⟩,hcap⟩;have hlp:=hsay.1.pos (i+1) oO oO
  have htb:t+1≤131072:=by
   have e:=hms;rw[mM,qF]at e;have:=qp (t+1) (show 1≤2*len (rls Es) (i+1)-1 by omega);omega
  have hLe:en.r.ok (i+1):=hsay.1.ok _ _ hri;refine gg10 ?_;refine l_eq 22 _ O (cp_ptr (st:=ini) hil) ?_;refine gg20 ?_;refine l_eq 31 (.int .i64 (t:Nat)) O (bW oO) ?_;refine gg5 ?_;simp only[bP];rw[cp_set];refine gg9 ?_;refine bE O (fun hz=>?_) (fun hz=>?_)
  ·obtain rfl:t=0:=by omega
   have hpp:qMk ini (i+1) 0=ini:=if_pos O;rw[hpp]at hT hM hok';refine gg5 ?_;refine uB (fU ini.length O O (hE.t O) oO oO) ?_;refine gg3 ?_;refine iY (cK (p:=sl (some ⟨g7,0,none⟩) c 352 2 (ini++[(i+1,0+1)]).length (cpC (ini++[(i+1,0)]))) (p':=sl (some ⟨g7,0,none⟩) c 352 2 ini.length (cpC ini)) uK (nG oO (by rw[qJ,←uG];simp) (by simp))) ?_;refine gg4 ?_;refine uX (kZ hE hent) O ?_;rintro _ _⟨rfl,rfl⟩;simp only[uV,uW];refine gg3 ?_;refine uU (cZ (hE.t O) (fun b10=>?_));refine gg12 ?_;generalize hre:en.r=r at hri;cases r with
   |letter b=>
    have hxt:txt (rls Es) (i+1)=[b]:=gN hri
    refine gg16 ?_
    refine uN 9 ([cells bt [.slice (some ⟨g,0,none⟩) done.length cc] 44,cells b10 [.int .i64 (Rl.kind ((Rl.letter b)):Nat),.int .u8 (Rl.byte ((Rl.letter b)):Nat),.int .i64 (Rl.left ((Rl.letter b)):Nat),.int .i64 (Rl.right ((Rl.letter b)):Nat),.int .i64 (Rl.times ((Rl.letter b)):Nat)] 141]) ?_
    refine gg4 ?_
    apply dG 4 O oK
    ·exact uBf O
    ·rfl
    apply dG 5 O oK
    ·(apply aO rfl (hE.t rfl) rfl;(repeat(first |rfl|assumption|constructor));done)
    ·rfl
    apply fI 6 O oK O
    refine aU (hE.t O) (hE.t O) O O O (fun b71=>?_)
    refine uE ?_
    apply fI 7 O oK O
    apply bU (hE.t O) (hE.t O) O O O
    ·exact uK
    ·exact uK
    ·rfl
    ·rfl
    ·omega
    ·omega
    ·(unfold maxLen;omega)
    intro g72 c72 n72 x72 hn72 hx72
    refine uE ?_
    apply dG 8 O oK
    ·exact bA O
    ·rfl
    apply iH O oK oK O
    refine uS ?_
    refine gg2 ?_
    obtain rfl:x72=byC (done++[b]):=by rw[hx72,iZ];rfl
    have hdl:(done++[b]).length=done.length+1:=by simp
    refine bS (ι:=SplG) (j:=⟨ini,done++[b],some ⟨g7,0,none⟩,c,g72,c72⟩) ⟨by simp only;rw[ah,←htx,hT,hxt],hok',by simp only;omega⟩ (by simp only;omega) ⟨rfl,rfl,rfl,trivial⟩ ?_
    simp only[hdl]
    subst hn72
    exact uI
   |pair a b=>
    obtain⟨hm,ht⟩:=qRb hsay.1 hri (ini)
    have hpo:=hsay.1.ok _ _ hri
    simp only[Rl.ok]at hpo
    have hok2:SpOk (rls Es) (ini++[(b,1),(a,1)]):=hok'.push (fun q hq=>by
     simp only[iq,vw,or_false]at hq;rcases hq with rfl|rfl
     ·exact⟨by simp only;omega,by simp only;omega,ai _⟩
     exact⟨by simp only;omega,by simp only;omega,ai _⟩)
    refine gg31 ?_
    refine uU ?_
    refine aU (hE.t O) (hE.t O) O O O (fun b83=>?_)
    refine uU ?_
    apply bU (hE.t O) (hE.t O) O O O
    ·exact uK
    ·exact uK
    ·rfl
    ·rfl
    ·omega
    ·omega
    ·(unfold maxLen;omega)
    intro g84 c84 n84 x84 hn84 hx84
    refine gg4 ?_
    obtain rfl:x84=cpC (ini++[(b,1),(a,1)]):=by rw[hx84];exact(qJ (ini) [(b,1),(a,1)]).symm
    have hdl:(ini++[(b,1),(a,1)]).length=(ini).length+2:=by simp
    refine bS (ι:=SplG) (j:=⟨ini++[(b,1),(a,1)],done,some ⟨g84,0,none⟩,c84,g,cc⟩) ⟨by simp only;rw[←htx,hT,ht],hok2,by simp only;omega⟩ (by simp only;omega) ⟨rfl,rfl,by simp only[hdl];rw[hn84];rfl,trivial⟩ ?_
    simp only[hdl]
    subst hn84
    exact uI
   |power a k=>
    obtain⟨hm,ht⟩:=qMj hsay.1 hri (ini)
    have hpo:=hsay.1.ok _ _ hri
    simp only[Rl.ok]at hpo
    have hok2:SpOk (rls Es) (ini++[(a,k)]):=hok'.push (fun q hq=>by
     obtain rfl:=bg.1 hq;exact⟨by simp only;omega,by simp only;omega,by simp only;omega⟩)
    refine gg30 ?_
    refine uU ?_
    refine aU (hE.t O) (hE.t O) O O O (fun b61=>?_)
    refine uU ?_
    apply bU (hE.t O) (hE.t O) O O O
    ·exact uK
    ·exact uK
    ·rfl
    ·rfl
    ·omega
    ·omega
    ·(unfold maxLen;omega)
    intro g62 c62 n62 x62 hn62 hx62
    refine gg4 ?_
    obtain rfl:x62=cpC (ini++[(a,k)]):=by rw[hx62];exact(qJ (ini) [(a,k)]).symm
    have hdl:(ini++[(a,k)]).length=(ini).length+1:=by simp
    refine bS (ι:=SplG) (j:=⟨ini++[(a,k)],done,some ⟨g62,0,none⟩,c62,g,cc⟩) ⟨by simp only;rw[←htx,hT,ht],hok2,by simp only;omega⟩ (by simp only;omega) ⟨rfl,rfl,by simp only[hdl];rw[hn62];rfl,trivial⟩ ?_
    simp only[hdl]
    subst hn62
    exact uI
  obtain⟨t,rfl⟩:∃t',t=t'+1:=⟨t-1,oO⟩;have hpp:qMk ini (i+1) (t+1)=ini++[(i+1,t+1)]:=if_neg oO;rw[hpp]at hT hM hok';have hil2:(ini++[(i+1,t+1)]).length=ini.length+1:=by simp
  have hil3:(ini++[(i+1,t+1+1)]).length=(ini++[(i+1,t+1)]).length:=by simp
  rw[hil3];refine gg6 ?_;refine uX (kZ hE hent) O ?_;rintro _ _⟨rfl,rfl⟩;simp only[uV,uW];refine gg3 ?_;refine uU (cZ (hE.t O) (fun b10=>?_));refine gg12 ?_;generalize hre:en.r=r at hri;cases r with
  |letter b=>
   have hxt:txt (rls Es) (i+1)=[b]:=gN hri
   refine gg16 ?_
   refine uN 9 ([cells bt [.slice (some ⟨g,0,none⟩) done.length cc] 44,cells b10 [.int .i64 (Rl.kind ((Rl.letter b)):Nat),.int .u8 (Rl.byte ((Rl.letter b)):Nat),.int .i64 (Rl.left ((Rl.letter b)):Nat),.int .i64 (Rl.right ((Rl.letter b)):Nat),.int .i64 (Rl.times ((Rl.letter b)):Nat)] 141]) ?_
   refine gg4 ?_
   apply dG 4 O oK
   ·exact uBf O
   ·rfl
   apply dG 5 O oK
   ·(apply aO rfl (hE.t rfl) rfl;(repeat(first |rfl|assumption|constructor));done)
   ·rfl
   apply fI 6 O oK O
   refine aU (hE.t O) (hE.t O) O O O (fun b71=>?_)
   refine uE ?_
   apply fI 7 O oK O
   apply bU (hE.t O) (hE.t O) O O O
   ·exact uK
   ·exact uK
   ·rfl
   ·rfl
   ·omega
   ·omega
   ·(unfold maxLen;omega)
   intro g72 c72 n72 x72 hn72 hx72
   refine uE ?_
   apply dG 8 O oK
   ·exact bA O
   ·rfl
   apply iH O oK oK O
   refine uS ?_
   refine gg2 ?_
   obtain rfl:x72=byC (done++[b]):=by rw[hx72,iZ];rfl
   have hdl:(done++[b]).length=done.length+1:=by simp
   refine bS (ι:=SplG) (j:=⟨ini++[(i+1,t+1)],done++[b],some ⟨g7,0,none⟩,c,g72,c72⟩) ⟨by simp only;rw[ah,←htx,hT,hxt],hok',by simp only;omega⟩ (by simp only;omega) ⟨rfl,rfl,rfl,trivial⟩ ?_
   simp only[hdl]
   subst hn72
   exact uI
  |pair a b=>
   obtain⟨hm,ht⟩:=qRb hsay.1 hri (ini++[(i+1,t+1)])
   have hpo:=hsay.1.ok _ _ hri
   simp only[Rl.ok]at hpo
   have hok2:SpOk (rls Es) (ini++[(i+1,t+1)]++[(b,1),(a,1)]):=hok'.push (fun q hq=>by
    simp only[iq,vw,or_false]at hq;rcases hq with rfl|rfl
    ·exact⟨by simp only;omega,by simp only;omega,ai _⟩
    exact⟨by simp only;omega,by simp only;omega,ai _⟩)
   refine gg31 ?_
   refine uU ?_
   refine aU (hE.t O) (hE.t O) O O O (fun b83=>?_)
   refine uU ?_
   apply bU (hE.t O) (hE.t O) O O O
   ·exact uK
   ·exact uK
   ·rfl
   ·rfl
   ·omega
   ·omega
   ·(unfold maxLen;omega)
   intro g84 c84 n84 x84 hn84 hx84
   refine gg4 ?_
   obtain rfl:x84=cpC (ini++[(i+1,t+1)]++[(b,1),(a,1)]):=by rw[hx84];exact(qJ (ini++[(i+1,t+1)]) [(b,1),(a,1)]).symm
   have hdl:(ini++[(i+1,t+1)]++[(b,1),(a,1)]).length=(ini++[(i+1,t+1)]).length+2:=by simp
   refine bS (ι:=SplG) (j:=⟨ini++[(i+1,t+1)]++[(b,1),(a,1)],done,some ⟨g84,0,none⟩,c84,g,cc⟩) ⟨by simp only;rw[←htx,hT,ht],hok2,by simp only;omega⟩ (by simp only;omega) ⟨rfl,rfl,by simp only[hdl];rw[hn84];rfl,trivial⟩ ?_
   simp only[hdl]
   subst hn84
   exact uI
  |power a k=>
   obtain⟨hm,ht⟩:=qMj hsay.1 hri (ini++[(i+1,t+1)])
   have hpo:=hsay.1.ok _ _ hri
   simp only[Rl.ok]at hpo
   have hok2:SpOk (rls Es) (ini++[(i+1,t+1)]++[(a,k)]):=hok'.push (fun q hq=>by
    obtain rfl:=bg.1 hq;exact⟨by simp only;omega,by simp only;omega,by simp only;omega⟩)
   refine gg30 ?_
   refine uU ?_
   refine aU (hE.t O) (hE.t O) O O O (fun b61=>?_)
   refine uU ?_
   apply bU (hE.t O) (hE.t O) O O O
   ·exact uK
   ·exact uK
   ·rfl
   ·rfl
   ·omega
   ·omega
   ·(unfold maxLen;omega)
   intro g62 c62 n62 x62 hn62 hx62
   refine gg4 ?_
   obtain rfl:x62=cpC (ini++[(i+1,t+1)]++[(a,k)]):=by rw[hx62];exact(qJ (ini++[(i+1,t+1)]) [(a,k)]).symm
   have hdl:(ini++[(i+1,t+1)]++[(a,k)]).length=(ini++[(i+1,t+1)]).length+1:=by simp
   refine bS (ι:=SplG) (j:=⟨ini++[(i+1,t+1)]++[(a,k)],done,some ⟨g62,0,none⟩,c62,g,cc⟩) ⟨by simp only;rw[←htx,hT,ht],hok2,by simp only;omega⟩ (by simp only;omega) ⟨rfl,rfl,by simp only[hdl];rw[hn62];rfl,trivial⟩ ?_
   simp only[hdl]
   subst hn62
   exact uI
 obtain rfl:st=[]:=dh oO;have hd:done=pre++txt (rls Es) x0:=by simpa[spT]using htx
 subst hd;refine gg11 ?_;exact uZ O (.tmp O .nil) ⟨g,cc,O,O⟩
end
section
variable {E:Env}{Es:List Ent}{pp tb s most:Nat}
def qNj (hE:Seat E){n:Nat}(hn:n≤1152921504606846976):Ct E 182 [.int .i64 (n:Nat)] [] (fun v Q=>v= .bool true∧Q=[]):=by
 refine bO (hE.fn Tryz.func182) O O O (fun R=>?_);simp only[dX,uV,uW];refine gg10 ?_;refine eF 5 O (fun h=>?_) (fun h=>?_)
 ·refine gg9 ?_;exact uZ O (.tmp O .nil) ⟨bf Value.bool (ma oO),O⟩
 exfalso;omega
def qNi (hE:Seat E){n:Nat}(hn:n≤1152921504606846976):Ct E 138 [.int .i64 0,.int .i64 (n:Nat),.int .i64 (n:Nat)] [] (fun v Q=>v= .nilIface∧Q=[]):=by
 refine bO (hE.fn Tryz.func138) O O O (fun R=>?_);simp only[dX,uV,uW];refine gg9 ?_;refine uX (qNj hE hn) O ?_;rintro _ _⟨rfl,rfl⟩;simp only[uV,uW];refine gg8 ?_;refine eF 14 O (fun h1=>?_) (fun h1=>?_)
 ·exfalso;omega
 refine gg6 ?_;refine eF 18 O (fun h2=>?_) (fun h2=>?_)
 ·exfalso;omega
 refine gg8 ?_;refine eF 23 O (fun h3=>?_) (fun h3=>?_)
 ·exfalso;omega
 refine gg13 ?_;refine bE O (fun h4=>?_) (fun h4=>?_)
 ·exfalso;omega
 refine gg8 ?_;exact uZ O (.tmp O .nil) ⟨O,O⟩
def ct_ext1 (hE:Seat E){bt b4 g0 c0 x:Nat}(hx:1≤x∧x≤Es.length)(hl:len (rls Es) x≤65536):Ct E 218 [.int .i64 (x:Nat),.int .i64 1,uPt bt,uPt b4] [cells b4 [uPt s] 25,bR s most Es,cells bt [.slice (some ⟨g0,0,none⟩) (([]:List UInt8)).length c0] 44,sl (some ⟨g0,0,none⟩) c0 5 1 (([]:List UInt8)).length (byC (([]:List UInt8)))]
  (fun v Q=>∃g c,v= .nilIface∧Q=[cells b4 [uPt s] 25,bR s most Es,cells bt [.slice (some ⟨g,0,none⟩) (txt (rls Es) x).length c] 44,sl (some ⟨g,0,none⟩) c 5 1 (txt (rls Es) x).length (byC (txt (rls Es) x))]):=by
 have h00:([]:List UInt8).length+len (rls Es) x≤65536:=by rw[di];omega
 refine bO (hE.fn Tryz.func218) O O O (fun R=>?_);simp only[dX,uV,uW];refine gg17 ?_;refine uX (ct_spell (pre:=[]) hE hx h00) O ?_;rintro _ _⟨g,c,rfl,rfl⟩;simp only[uV,uW];refine sZ (p:=sl (some ⟨g,0,none⟩) c 5 1 ([]++txt (rls Es) x).length (byC ([]++txt (rls Es) x))) uK (fun _ h=>pM h) ?_;rintro⟨hcap, -⟩;rw[jq]at hcap;refine gg16 ?_;refine uB (gD (l:=0) (h:=(txt (rls Es) x).length) O (hE.t O) ⟨_,O⟩ O (au _) oO) ?_;refine gg12 ?_;refine eQ (fun _:Unit=>[(22,.int .i64 (1-1)),(23,.int .i64 0)]) (fun _=>[cells b4 [uPt s] 25,bR s most Es,cells bt [.slice (some ⟨g,0,none⟩) (txt (rls Es) x).length c] 44,sl (some ⟨g,0,none⟩) c 5 1 (txt (rls Es) x).length (byC (txt (rls Es) x)),R]) (fun _=>0) (fun _=>True) () trivial ⟨O,O,trivial⟩ uI ?_;rintro _ _;refine gg6 ?_;refine bE O (fun h=>?_) (fun h=>?_)
 ·exfalso;omega
 refine gg11 ?_;exact uZ O (.tmp O .nil) ⟨g,c,O,O⟩
def ct_parts (hE:Seat E){bt b4 g0 c0 i:Nat}{en:Ent}(hent:Es[i]?=some en)(hl:len (rls Es) (i+1)≤65536):Ct E 217 [uPt s,.int .i64 ((i+1:Nat):Int),.int .i64 0,.int .i64 (len (rls Es) (i+1):Nat),.func (.func 218) #[] ⟨[uPt bt,uPt b4]⟩] [cells b4 [uPt s] 25,bR s most Es,cells bt [.slice (some ⟨g0,0,none⟩) (([]:List UInt8)).length c0] 44,sl (some ⟨g0,0,none⟩) c0 5 1 (([]:List UInt8)).length (byC (([]:List UInt8)))]
  (fun v Q=>∃g c,v= .nilIface∧Q=[cells b4 [uPt s] 25,bR s most Es,cells bt [.slice (some ⟨g,0,none⟩) (txt (rls Es) (i+1)).length c] 44,sl (some ⟨g,0,none⟩) c 5 1 (txt (rls Es) (i+1)).length (byC (txt (rls Es) (i+1)))]):=by
 refine eU (p:=bR s most Es) uK (fun _ h=>dS h) (fun hsay=>?_);have hil:i<Es.length:=(ae.1 hent).1;have htx:=hsay.2.1 i en hent;have hle:en.t.length=len (rls Es) (i+1):=by rw[htx];rfl
 have hlp:=hsay.1.pos (i+1) oO (by rw[bQ];omega);have hxx:1≤i+1∧i+1≤Es.length:=⟨oO,oO⟩;refine bO (hE.fn Tryz.func217) O O O (fun R=>?_);simp only[dX,uV,uW];refine gg11 ?_;refine uU ?_;refine aU (hE.t O) (hE.t O) O O O (fun b22=>?_);refine gg5 ?_;refine iY (cK (p:=cells b22 [.int .i64 ((i+1:Nat):Int),.int .i64 0,.int .i64 (len (rls Es) (i+1):Nat),.int .i64 1] 348) (p':=sl (some ⟨b22,0,none⟩) 1 348 4 1 [.int .i64 ((i+1:Nat):Int),.int .i64 0,.int .i64 (len (rls Es) (i+1):Nat),.int .i64 1]) uK (iK O (by unfold maxLen;omega))) ?_
 refine eQ (fun q:Option (Nat×Nat)=>[(0,uPt s),(4,.func (.func 218) #[] ⟨[uPt bt,uPt b4]⟩),(11,.slice (some ⟨b22,0,none⟩) (if q.isSome then 0 else 1) 1)])
  (fun q=>match q with
   |none=>[cells b4 [uPt s] 25,bR s most Es,cells bt [.slice (some ⟨g0,0,none⟩) (([]:List UInt8)).length c0] 44,sl (some ⟨g0,0,none⟩) c0 5 1 (([]:List UInt8)).length (byC (([]:List UInt8))),sl (some ⟨b22,0,none⟩) 1 348 4 1 [.int .i64 ((i+1:Nat):Int),.int .i64 0,.int .i64 (len (rls Es) (i+1):Nat),.int .i64 1],R]
   |some q=>[cells b4 [uPt s] 25,bR s most Es,cells bt [.slice (some ⟨q.1,0,none⟩) (txt (rls Es) (i+1)).length q.2] 44,sl (some ⟨q.1,0,none⟩) q.2 5 1 (txt (rls Es) (i+1)).length (byC (txt (rls Es) (i+1))),R]) (fun q=>if q.isSome then 0 else 1) (fun _=>True) none trivial ⟨rfl,rfl,rfl,trivial⟩ uI ?_
 rintro(_|⟨g,c⟩)_
 ·simp only[Option.isSome_none,if_false,oJ];refine gg8 ?_;refine bE O (fun h=>?_) (fun h=>?_)
  ·refine gg10 ?_;refine l_eq 30 (uPt b22) O O ?_;refine gg1 ?_;refine uU (cZ (hE.t O) (fun b12=>?_));refine gg9 ?_;refine uB (fU 0 O O (hE.t O) oO oO) ?_;refine gg10 ?_;refine eF 40 O (fun h1=>?_) (fun h1=>?_)
   ·exfalso;omega
   refine gg9 ?_;refine bE O (fun h2=>?_) (fun h2=>?_)
   ·exfalso;omega
   refine gg7 ?_;refine uX (qL hE hent) O ?_;rintro _ _⟨rfl,rfl⟩;simp only[uV,uW];refine gg3 ?_;refine uU (cZ (hE.t O) (fun b13=>?_));refine gg24 ?_;refine bE O (fun h3=>?_) (fun h3=>?_)
   ·refine gg8 ?_;refine uU ?_;apply qHw (hx:=O) (ha:=O) (hf:=hE.f oK)
    ·exact ct_ext1 (s:=s) (most:=most) (g0:=g0) (c0:=c0) hE hxx hl
    ·exact uK
    rintro _ _⟨g,c,rfl,rfl⟩;simp only[uV,uW];refine gg15 ?_;refine bS (ι:=Option (Nat×Nat)) (j:=some (g,c)) trivial (by simp) ⟨O,O,O,trivial⟩ ?_;exact uI
   exfalso;omega
  exfalso;omega
 simp only[xw,if_true];refine gg8 ?_;refine bE O (fun h=>?_) (fun h=>?_)
 ·exfalso;omega
 refine gg11 ?_;exact uZ O (.tmp O .nil) ⟨g,c,O,O⟩
def qRs (hE:Seat E){i:Nat}{en:Ent}(hent:Es[i]?=some en)(hl:len (rls Es) (i+1)≤65536):Ct E 189 [uPt s,.int .i64 ((i+1:Nat):Int),.int .i64 0,.int .i64 (len (rls Es) (i+1):Nat)] [bR s most Es]
  (fun v Q=>∃g c,v= .tuple #[.slice (some ⟨g,0,none⟩) (txt (rls Es) (i+1)).length c,.nilIface]∧Q=[bR s most Es,sl (some ⟨g,0,none⟩) c 5 1 (txt (rls Es) (i+1)).length (byC (txt (rls Es) (i+1)))]):=by
 refine eU (p:=bR s most Es) uK (fun _ h=>dS h) (fun hsay=>?_);have htx:=hsay.2.1 i en hent;have hle:en.t.length=len (rls Es) (i+1):=by rw[htx];rfl
 have hln:len (rls Es) (i+1)≤1152921504606846976:=oO;refine bO (hE.fn Tryz.func189) O O O (fun R=>?_);simp only[dX,uV,uW];refine gg2 ?_;refine uU ?_;refine gW O (fun b4=>?_);refine gg8 ?_;refine uX (qL hE hent) O ?_;rintro _ _⟨rfl,rfl⟩;simp only[uV,uW];refine gg3 ?_;refine uU (cZ (hE.t O) (fun b10=>?_));refine gg21 ?_;refine l_eq 26 (.int .i64 (len (rls Es) (i+1):Nat)) O (bW oO) ?_;refine uX (qNi hE hln) O ?_;rintro _ _⟨rfl,rfl⟩;simp only[uV,uW];refine gg19 ?_;refine bE O (fun h=>?_) (fun h=>?_)
 ·exfalso;omega
 refine gg5 ?_;refine uU ?_;refine kJ (hE.t O) (hE.t O) O O (by first |omega |exact bi rfl) (by(unfold maxLen;first |omega |exact bi rfl)) (fun b35 us35 hu35=>?_);refine uU (cZ (hE.t O) (fun b13=>?_));refine gg3 ?_;refine iY (cK (p:=sl (some ⟨b35,0,none⟩) (len (rls Es) (i+1)) 5 1 (len (rls Es) (i+1)) us35) (p':=sl (some ⟨b35,0,none⟩) (len (rls Es) (i+1)) 5 1 0 (byC [])) uK (nG (au _) O (by simp))) ?_;refine gg7 ?_;refine uX (ct_parts (g0:=b35) (c0:=len (rls Es) (i+1)) hE hent hl) O ?_;rintro _ _⟨g,c,rfl,rfl⟩;simp only[uV,uW];refine gg21 ?_;exact uZ O (.tmp O (.tmp O .nil)) ⟨g,c,O,O⟩
end
section
variable {E:Env}{Es:List Ent}{pp tb s most m bm:Nat}{f:Int→Option Value}
def qKh (hE:Seat E):Ct E 9 [uPt pp] [] (fun v Q=>∃m bm,v=uPt m∧Q=[cells m [uPt pp,.map (some bm)] 113,mapF bm .i64 (fun _=>none)]):=by
 refine bO (hE.fn Tryz.func9) O O O (fun R=>?_);simp only[dX,uV,uW];refine gg18 ?_;refine uU ?_;refine qDa .i64 (fun b6=>?_);refine gg1 ?_;refine uU ?_;refine gW O (fun b8=>?_);refine gg4 ?_;exact uZ O (.tmp O .nil) ⟨b8,b6,O,O⟩
def qKi (hE:Seat E):Ct E 85 [uPt m] [cells m [uPt pp,.map (some bm)] 113] (fun v Q=>v=uPt pp∧Q=[cells m [uPt pp,.map (some bm)] 113]):=by
 refine bO (hE.fn Tryz.func85) O O O (fun R=>?_);simp only[dX,uV,uW];refine gg25 ?_;exact uZ O (.tmp O .nil) ⟨O,O⟩
def qBy (hE:Seat E){x y:Nat}:Ct E 191 [uPt m,.int .i64 (x:Nat),.int .i64 (y:Nat),.nilIface] [cells m [uPt pp,.map (some bm)] 113,mapF bm .i64 f] (fun v Q=>v= .nilIface∧Q=[cells m [uPt pp,.map (some bm)] 113,mapF bm .i64 (setF f (x:Nat) (.int .i64 (y:Nat)))]):=by
 refine bO (hE.fn Tryz.func191) O O O (fun R=>?_);simp only[dX,uV,uW];refine gg20 ?_;refine uU ?_;apply qQ (kt:=56) (et:=56) (by rw[hE.P];kernel_rfl) (by rw[hE.P];kernel_rfl) O O O
 ·exact uK
 refine gg9 ?_;exact uZ O (.tmp O .nil) ⟨O,O⟩
def ct_learn (hE:Seat E)(hB:Base E.w0){i:Nat}{en:Ent}(hent:Es[i]?=some en)(hl:len (rls Es) (i+1)≤256)(hroom:Es.length+512≤most):
  Ct E 148 [uPt m,.int .i64 ((i+1:Nat):Int)] [cells pp [uPt s,uPt tb] 117,tabP tb s (rls Es),bR s most Es,cells m [uPt pp,.map (some bm)] 113,mapF bm .i64 f]
   (fun v Q=>∃M y,v= .tuple #[.int .i64 0,.nilIface]∧M.length≤512∧SigOf (rls (Es++M)) (i+1) y∧Q=[cells pp [uPt s,uPt tb] 117,tabP tb s (rls (Es++M)),bR s most (Es++M),cells m [uPt pp,.map (some bm)] 113,mapF bm .i64 (setF f ((i+1:Nat):Int) (.int .i64 (y:Nat)))]):=by
 refine eU (p:=bR s most Es) uK (fun _ h=>dS h) (fun hsay=>?_);have hil:i<Es.length:=(ae.1 hent).1;have htx:=hsay.2.1 i en hent;have hle:en.t.length=len (rls Es) (i+1):=by rw[htx];rfl
 have hlt:(txt (rls Es) (i+1)).length=len (rls Es) (i+1):=rfl;have hl2:len (rls Es) (i+1)≤65536:=oO;refine bO (hE.fn Tryz.func148) O O O (fun R=>?_);simp only[dX,uV,uW];refine gg12 ?_;refine uX (jS hE) O ?_;rintro _ _⟨rfl,rfl⟩;simp only[uV,uW];refine gg7 ?_;refine uX (qL hE hent) O ?_;rintro _ _⟨rfl,rfl⟩;simp only[uV,uW];refine gg3 ?_;refine uU (cZ (hE.t O) (fun b7=>?_));refine gg22 ?_;refine bE O (fun h=>?_) (fun h=>?_)
 ·refine gg6 ?_;refine l_eq 40 (.int .i64 (len (rls Es) (i+1):Nat)) O (bW oO) ?_;refine uX (qRs hE hent hl2) O ?_;rintro _ _⟨g,c,rfl,rfl⟩;simp only[uV,uW];refine gg24 ?_;refine uX (ct_OfQ (Es:=Es) (s:=s) (most:=most) (tb:=tb) (pp:=pp) (q:=sl (some ⟨g,0,none⟩) c 5 1 (txt (rls Es) (i+1)).length (byC (txt (rls Es) (i+1)))) (bs:=txt (rls Es) (i+1)) hE hB (fun _=>⟨g,0,O,qGj (fun _ _ h=>h)⟩) oO oO) O ?_;rintro _ _⟨M,id,rfl,hM,htt,hgd,hor,rfl⟩;simp only[uV,uW];refine gg13 ?_;refine uX (qBy (f:=f) (m:=m) (pp:=pp) (bm:=bm) (x:=i+1) (y:=id) hE) O ?_;rintro _ _⟨rfl,rfl⟩;simp only[uV,uW];refine gg6 ?_;have e:txt (rls (Es++M)) (i+1)=txt (rls Es) (i+1):=by rw[dA];exact jQ _ (by rw[bQ];omega)
  exact uZ O (.tmp O (.tmp O .nil)) ⟨M,id,O,oO,⟨by rw[bQ,aa];omega,by rw[htt,e],hgd,by rw[e];exact hor⟩,rfl⟩
 exfalso;omega
def SigL (L:List Rl)(xs ys:List Nat):Prop:=∀(i x y:Nat),xs[i]?=some x→ys[i]?=some y→SigOf L x y
def SigL.ext {L:List Rl}(M:List Rl){xs ys:List Nat}(h:SigL L xs ys):SigL (L++M) xs ys:=fun i x y h1 h2=>(h i x y h1 h2).ext M
def SigL.snoc {L:List Rl}{xs ys:List Nat}(h:SigL L xs ys){x y:Nat}(hx:xs[ys.length]?=some x)(hs:SigOf L x y):SigL L xs (ys++[y]):=fun i x' y' h1 h2=>by
 rcases ql i ys.length with e|e| e
 ·rw[ak e]at h2;exact h i x' y' h1 h2
 ·subst e;rw[hx]at h1;cases h1
  simp at h2;subst h2;exact hs
 have:=(ae.1 h2).1;simp at this;omega
end
section
variable {E:Env}{Es:List Ent}{pp tb s most m bm:Nat}{f:Int→Option Value}
def Names (l:List (List UInt8×Int)):Prop:=∀p∈l,ValidN p.1
def InR (n:Nat)(l:List (List UInt8×Int)):Prop:=∀p∈l,0≤p.2∧p.2≤(n:Nat)
def SgE (n:Nat)(l:List (List UInt8×Int))(e:Int):Prop:=(e=13∧¬Names l)∨(e=4∧Names l∧¬Ordered l l.length)∨(e=1∧Names l∧Ordered l l.length∧¬InR n l)
def SgO (n:Nat)(l:List (List UInt8×Int)):Prop:=Names l∧Ordered l l.length∧InR n l
def rawN (l:List (List UInt8×Int)):List Nat:=l.map fun p=>p.2.toNat
def qTq {xs:List Nat}{us:List Value}{k x:Nat}(hx:xs[k]?=some x)(hu:k<us.length):bX (idC (xs.take k)++us.drop k) k [.int .i64 (x:Nat)]=idC (xs.take (k+1))++us.drop (k+1):=by
 have hk:=(ae.1 hx).1;have e1:us.drop k=us[k]::us.drop (k+1):=kz hu;have e2:(idC (xs.take k)).length=k:=by simp[idC];omega
 have e3:xs.take (k+1)=xs.take k++[x]:=by rw[ic,hx];rfl
 have:=sm_0 (pre:=idC (xs.take k)) (x0:=us[k]) (r:=us.drop (k+1)) (v:= .int .i64 (x:Nat));rw[e2]at this;rw[e1,this,e3,lI];simp[idC]
def qQg {l:List (List UInt8×Int)}(h:0<l.length):nlC l≠[]:=fun e=>by
 have:=qGe l;rw[e]at this;simp at this;omega
end
section
variable {E:Env}{Es:List Ent}{pp tb s most m bm:Nat}{f:Int→Option Value}
def st_last {st:List (Nat×Bool)}{x:Nat}{b:Bool}:(stC ((x,b)::st))[(stC st).length]?=some (.int .i64 (x:Nat))∧(stC ((x,b)::st))[(stC st).length+1]?=some (.bool b):=⟨ap_0,ap_1⟩
def st_ptr {st:List (Nat×Bool)}{g n:Nat}(h:n=st.length+1):(.pointer (some ⟨g,0+(((n:Nat):Int)-1).toNat*2,none⟩):Value)= .pointer (some ⟨g,(stC st).length,none⟩):=by
 rw[zQ,show 0+(((n:Nat):Int)-1).toNat*2=st.length*2 by omega]
def AccOk (L:List Rl)(acc:List Nat):Prop:=acc.Nodup∧∀y∈acc,1≤y∧y≤L.length
def AccOk.len {L:List Rl}{acc:List Nat}(h:AccOk L acc):acc.length≤L.length:=by
 have:=qQj (B:=(List.range L.length).map (· +1)) h.1 (fun x hx=>by
  have:=h.2 x hx;exact fq.2 ⟨x-1,oQ.2 oO,oO⟩)
 simpa using this
def AccOk.visits {L:List Rl}(hw:Wf L){xs:List Nat}(hx:∀x∈xs,x≤L.length):AccOk L (dD L xs []):=by
 have:=rC hw L.length xs [] hx;refine⟨this.2.2 (by simp),fun y hy=>?_⟩;rcases this.1 y hy with h| h
 ·simp at h
 exact⟨h.1,h.2.2⟩
def AccOk.snoc {L:List Rl}{acc:List Nat}(h:AccOk L acc){x:Nat}(hx:x≤L.length)(hn:¬(x=0∨x∈acc)):AccOk L (acc++[x]):=by
 refine⟨oH.2 ⟨h.1,by simp,fun a ha b hb=>?_⟩,fun y hy=>?_⟩
 ·simp at hb;subst hb;rintro rfl;exact hn (.inr ha)
 rcases bn.1 hy with hy|hy
 ·exact h.2 y hy
 simp at hy;subst hy;exact⟨Nat.pos_of_ne_zero fun e=>hn (.inl e),hx⟩
structure LoG where
 k:Nat
 acc:List Nat
 p:Option Addr
 c:Nat
 ps:Option Addr
 cs:Nat
structure LiG where
 st:List (Nat×Bool)
 acc:List Nat
 p:Option Addr
 c:Nat
 ps:Option Addr
 cs:Nat
structure LkG where
 j:Nat
 ps:Option Addr
 cs:Nat
end
section
variable {E:Env}{Es:List Ent}{pp tb s most m bm:Nat}{f:Int→Option Value}
def qNg (hE:Seat E){g c:Nat}{bs:List UInt8}(hn:bs.length≤1099511627776):Ct E 54 [.slice (some ⟨g,0,none⟩) bs.length c] [ro g (byC bs)] (fun v Q=>∃g' c',v= .slice (some ⟨g',0,none⟩) (pU bs).length c'∧Q=[ro g (byC bs),sl (some ⟨g',0,none⟩) c' 5 1 (pU bs).length (byC (pU bs))]):=by
 have h10:=jV (n:=bs.length) oO;have hp:=qG bs.length;have hbl:=qNe bs;have hbb:(pU bs).length=(vput bs.length).length+bs.length:=aa;have hb1:((vput bs.length).length+(byC bs).length)*1≤140737488355328:=oO;have hb2:(vput bs.length).length+(byC bs).length≤maxLen:=by unfold maxLen;omega
 refine bO (hE.fn Tryz.func54) O O O (fun R=>?_);simp only[dX,uV,uW];refine gg10 ?_;refine uX (sK (n:=bs.length) hE oO) O ?_;rintro _ _⟨g2,c2,rfl,rfl⟩;simp only[uV,uW];refine gg1 ?_;refine uU ?_;refine qHv (us:=byC bs) (q:=ro g (byC bs)) (hE.t O) (hE.t O) O O O hbl.symm (fun _=>⟨g,0,O,rd_ro⟩) uK uK (lN bs) hb1 hb2 (fun p1 c1 m1 x1 hm1 hx1=>?_);obtain rfl:m1=(pU bs).length:=by omega
 obtain rfl:x1=byC (pU bs):=hx1.trans (iZ _ _).symm;refine sZ (p:=sl p1 c1 5 1 (pU bs).length (byC (pU bs))) uK (fun _ h=>fA h oO) ?_;rintro⟨g',rfl⟩;refine gg4 ?_;exact uZ O (.tmp O .nil) ⟨g',c1,O,O⟩
def nuF_at {ids:List Nat}{k x:Nat}(h:ids[k]?=some x)(hn:ids.Nodup):setF (nuF (ids.take k)) (x:Nat) (.int .i64 ((k+1:Nat):Int))=nuF (ids.take (k+1)):=by
 have hk:=(ae.1 h).1;have e:(ids.take k).length=k:=by simp;omega
 have htk:ids.take (k+1)=ids.take k++[x]:=by rw[ic,h];rfl
 have hx:x∉ids.take k:=fun hm=>by
  have:(ids.take k++[x]).Nodup:=htk▸hn.sublist (List.take_sublist _ _);exact(oH.1 this).2.2 x hm x (by simp) O
 have:=nuF_set hx;rw[e]at this;rw[this,htk]
def qTh (I:List Nat)(r:Rl):(kL I r).kind=r.kind:=by cases r<;>rfl
def qTg (I:List Nat)(r:Rl):(kL I r).byte=r.byte:=by cases r<;>rfl
def qDu (I:List Nat)(r:Rl):(kL I r).times=r.times:=by cases r<;>rfl
def qTi {I:List Nat}(h:0∉I)(r:Rl):(kL I r).left=numb I r.left:=by cases r<;>first |rfl|exact(jM.2 h).symm
def qOj {I:List Nat}(h:0∉I)(r:Rl):(kL I r).right=numb I r.right:=by cases r<;>first |rfl|exact(jM.2 h).symm
def renum_ok {I A:List Nat}{x n:Nat}{r:Rl}(hI:I=A++[x])(ho:r.ok n)(hk:∀k∈kids r,k∈A):(kL I r).ok (A.length+1)∧∀B,kL (I++B) r=kL I r:=by
 subst hI
 have key:∀k∈A,1≤numb (A++[x]) k∧numb (A++[x]) k≤A.length:=fun k hk=>by
  rw[qId hk];have:=qIe A k;have:numb A k≠0:=fun e=>jM.1 e hk
  omega
 have app:∀B,∀k∈A,numb (A++[x]++B) k=numb (A++[x]) k:=fun B k hk=>qId (by simp[hk])
 cases r with
 |letter b=>exact⟨trivial,fun _=>rfl⟩
 |pair a b=>
  have h1:=key a (hk a (by simp[kids]))
  have h2:=key b (hk b (by simp[kids]))
  refine⟨⟨h1.1,oO,h2.1,oO⟩,fun B=>?_⟩
  simp only[kL,app B a (hk a (by simp[kids])),app B b (hk b (by simp[kids]))]
 |power a k=>
  have h1:=key a (hk a (by simp[kids]))
  simp only[Rl.ok]at ho
  refine⟨⟨h1.1,oO,ho.2.2⟩,fun B=>?_⟩
  simp only[kL,app B a (hk a (by simp[kids]))]
def rulB_len (i:Nat)(hi:i≤1099511627776)(r:Rl)(ht:r.times≤1152921504606846976):0<(rulB i r).length∧(rulB i r).length≤21:=by
 cases r with
 |letter b=>simp[rulB]
 |pair a b=>
  have h1:=jV (n:=i-a) oO
  have h2:=jV (n:=i-b) oO
  simp only[rulB,av,aa];omega
 |power a k=>
  simp only[Rl.times]at ht
  have h1:=jV (n:=i-a) oO
  have h2:=jV (n:=k-2) oO
  simp only[rulB,av,aa];omega
def nmY (l:List (List UInt8×Int))(ys:List Nat):List (List UInt8×Nat):=(l.map (·.1)).zip ys
def qVs (ids:List Nat)(A:List (List UInt8×Nat))(p:List UInt8×Nat):encN ids (A++[p])=encN ids A++pU p.1++vput (numb ids p.2):=by simp[encN,pU]
def nmY_take {l:List (List UInt8×Int)}{ys:List Nat}{k y:Nat}{p:List UInt8×Int}(hp:l[k]?=some p)(hy:ys[k]?=some y):(nmY l ys).take (k+1)=(nmY l ys).take k++[(p.1,y)]:=by
 have:(nmY l ys)[k]?=some (p.1,y):=by
  unfold nmY;rw[ym];exact⟨by rw[bq,hp];rfl,hy⟩
 rw[ic,this];rfl
end
section
variable {E:Env}{Es:List Ent}{pp tb s most m bm:Nat}{f:Int→Option Value}
structure EnG where
 k:Nat
 done:List UInt8
 g:Nat
 c:Nat
end
end Go.Proofs.YtejcjelmpbkcbaaGreatDoor
namespace Sl
open Go Go.RowKit
variable {E:Env}{n:Nat}{L:Fr}{S S':List HP}{ty:TypeId}{pos:String}{af:Array Edge}{d:Option Nat}{gd:Option (Nat×Bool)}
def qPc {x:Operand}{src dst e:TypeId}{a:Option Addr}{bs:List UInt8}{c s by_ sz sz1 sz2:Nat}{zs zs1 zs2:List Value}{q:HP}(hx:ev L x=some (.slice a bs.length c))(hs:E.tab src=some ⟨.slice e s by_,sz,zs⟩)(he:E.tab e=some ⟨.int .u8,sz1,zs1⟩)(hd:E.tab dst=some ⟨.string,sz2,zs2⟩)
  (hq:Rdb E.w0 a (bs.map fun b=>Value.int .u8 (b.toNat:Nat)) q) (hm:Take q S S'):Yl E n L S ⟨d,.convert src dst x,ty,pos,af,gd⟩ (.string ⟨⟨bs⟩⟩):=fun A w g st=>by
 obtain⟨i',z,_,_,_,_,hk'⟩:=fH hd;simp only[TK.holds]at hk'
 have hu:E.P.underlying dst=some .string:=by
  split at hk'
  ·assumption
  cases hk'
 obtain⟨hsu,_⟩:=fQ hs
 have hr:(convert src dst (.slice a bs.length c)).run E.P w= .ok (.string ⟨⟨bs⟩⟩) w:=by
  cases bs with
  |nil=>
   cases a with
   |none=>
    rw[run_convert_bytes_string w src dst e none _ c hsu (nE he) hu]
    rfl
   |some a=>exact run_convert_bytes_back w src dst e a c [] hsu (nE he) hu (fun j hj=>by simp at hj)
  |cons b bs=>
   obtain⟨g',o,rfl,hq'⟩:=hq (by simp)
   refine run_convert_bytes_back w src dst e ⟨g',o,none⟩ c (b::bs) hsu (nE he) hu (fun j hj=>?_)
   rw[addr_add]
   exact qIj hq' (st.take hm) (i:=j) (by rw[bq,ag hj];rfl)
 simp[execOp,g.ev hx,hr]
end Sl
namespace Go.Proofs.YtejcjelmpbkcbaaGreatDoor
open Go Go.RowKit Sl Eg
set_option maxRecDepth 10000
variable {E:Env}
def qPh (hE:Seat E){a b:Option Addr}{c d:Nat}{xs bs:List UInt8}{q r:HP}(hq:Rdb E.w0 a (byC xs) q)(hr:Rdb E.w0 b (byC bs) r):Ct E 23 [.slice a xs.length c,.slice b bs.length d] [q,r] (fun v Q=>v= .bool (decide (xs=bs))∧Q=[q,r]):=by
 refine bO (hE.fn Tryz.func23) O O O (fun R=>?_);simp only[dX,uV,uW];refine gg8 ?_;refine uB (qPc (q:=q) O (hE.t O) (hE.t O) (hE.t O) hq uK) ?_;refine gg1 ?_;refine uB (qPc (q:=r) O (hE.t O) (hE.t O) (hE.t O) hr uK) ?_;refine gg5 ?_;exact uZ O (.tmp O .nil) ⟨O,O⟩
end Go.Proofs.YtejcjelmpbkcbaaGreatDoor
namespace Sl
open Go Go.RowKit
def qBe {w0:World}{g:Nat}{vs us:List Value}{t:TypeId}(h:∀(i:Nat)(v:Value),vs[i]?=some v→us[i]?=some v):∀k,cells g us t k→RdAt w0 g 0 vs k:=fun k hk i v hv=> .inr ⟨⟨us⟩,t,(0,0),hk,by rw[jg];simpa using h i v hv⟩
end Sl
namespace Go.Proofs.YtejcjelmpbkcbaaGreatDoor
open Go Go.RowKit Sl Eg
set_option maxRecDepth 10000
variable {E:Env}{Es:List Ent}{pp tb s most m bm:Nat}{f:Int→Option Value}
def xx_bytes {L:List Rl}(hw:Wf L){ys:List Nat}{x:Nat}(hx:x≤L.length)(ht:txt L x=[120,120])(hyl:ys.length=1)(hs:SigL L [x] ys):encB L (dD L ys []) (nmY [([97],(x:Int))] ys)=[2,1,120,3,1,0,1,1,97,2]:=by
 obtain⟨y,rfl⟩:=nz.1 hyl;have h:=hs 0 x y O O;obtain⟨n,m,rfl,g1,g2⟩:=twice hw (by rw[h.2.1];exact ht) h.2.2.1.2;have ho:=hw.ok n _ g1;simp only[Rl.ok]at ho
 have v0:dD L [m+1] []=[m+1]:=by
  rw[fV,gQ hw g2 (by simp)];rfl
 have v1:dD L [n+1] []=[m+1,n+1]:=by
  rw[fV,gQ hw g1 (by simp)];show dD L [m+1] []++[n+1]=_;rw[v0];rfl
 have hne:¬m+1=n+1:=oO;have hne':¬m=n:=oO;rw[v1,encB]
 have e1:encR L [m+1,n+1] [m+1,n+1].length=[1,120]++[3,1,0]:=by
  show encR L [m+1,n+1] (0+1+1)=_;rw[xG (i:=0+1) (n:=n) rfl g1,xG (i:=0) (n:=m) rfl g2];have:numb [m+1,n+1] (m+1)=1:=by simp[numb]
  simp only[kL,this,rulB,encR,jq];rw[lL oO,lL oO];rfl
 have e2:numb [m+1,n+1] (n+1)=2:=by simp[numb,hne']
 rw[e1];have e3:nmY [([97],(x:Int))] [n+1]=[([97],n+1)]:=rfl;rw[e3];simp only[encN,uu,List.flatMap_nil,e2,av,di];rw[lL oO,lL oO];rfl
def sgo_one {n:Nat}{x:Nat}(hx:x≤n):SgO n [([97],(x:Int))]:=by
 refine⟨fun p hp=>?_,fun i p q h _ _=>by simp at h,fun p hp=>?_⟩
 ·obtain rfl:=bg.1 hp;show ValidN [97];decide
 obtain rfl:=bg.1 hp;exact⟨by simp,by simp;omega⟩
def SgE.not {n:Nat}{l:List (List UInt8×Int)}{e:Int}(h:SgE n l e)(ho:SgO n l):False:=by
 rcases h with⟨_,h⟩|⟨_,_,h⟩|⟨_,_,_,h⟩
 ·exact h ho.1
 ·exact h ho.2.1
 exact h ho.2.2
end Go.Proofs.YtejcjelmpbkcbaaGreatDoor
namespace Sl
open Go Go.RowKit
variable {E:Env}{n:Nat}{L:Fr}{S H:List HP}{Q:Exit→Act→World→Prop}
end Sl
namespace Go.Proofs.YtejcjelmpbkcbaaGreatDoor
open Go Go.RowKit Sl Eg
set_option maxRecDepth 10000
section
variable {E:Env}
structure Im where
 name:List UInt8
 a:Option Addr
 bs:List UInt8
 c:Nat
end
section
variable {E:Env}{Es:List Ent}{pp tb s most m bm:Nat}
def rdb_sl {w0:World}{p:Option Addr}{c n:Nat}{t:TypeId}{vs:List Value}(hn:vs.length=n)(h:0<n→∃g,p=some ⟨g,0,none⟩):Rdb w0 p vs (sl p c t 1 n vs):=fun hne=>by
 obtain⟨g,rfl⟩:=h (by
  rcases jr n with e| e
  ·exact absurd (dh oO) hne
  exact e)
 exact⟨g,0,O,qGj (fun _ _ h=>h)⟩
def mkN (l:List Im)(ids:List Nat):List (List UInt8×Int):=(l.zip ids).map fun p=>(p.1.name,(p.2:Int))
def qW:∀(a b:List (List UInt8×Int)),nlC (a++b)=nlC a++nlC b
 |[],b=>rfl
 |p::a,b=>by simp[nlC,qW a b]
def Txs (L:List Rl)(l:List Im)(ids:List Nat):Prop:=∀(i:Nat)(x:Im)(id:Nat),l[i]?=some x→ids[i]?=some id→id≤L.length∧txt L id=x.bs
end
