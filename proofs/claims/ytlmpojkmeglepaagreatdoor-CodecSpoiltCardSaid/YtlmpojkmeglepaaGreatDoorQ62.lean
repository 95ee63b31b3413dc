import Derived.Test.YtlmpojkmeglepaaGreatDoorQ31
import Derived.Test.YtlmpojkmeglepaaGreatDoorQ61
set_option linter.all false
set_option maxHeartbeats 1000000
namespace Go.Proofs.YtlmpojkmeglepaaGreatDoor
open Go Go.RowKit Sl Eg
set_option maxRecDepth 10000
section
variable {E:Env}{Es:List Ent}{pp tb s most:Nat}
def cpC (st:List (Nat×Nat)):List Value:=st.flatMap fun p=>[.int .i64 (p.1:Nat),.int .i64 (p.2:Nat)]
theorem pU (a b:List (Nat×Nat)):cpC (a++b)=cpC a++cpC b:=by simp[cpC]
theorem sW:∀(st:List (Nat×Nat)),(cpC st).length=st.length*2
 |[]=>rfl
 |p::st=>by
  have:=sW st
  simp only[cpC,List.flatMap_cons,List.length_append,List.length_cons,List.length_nil]at this ⊢;omega
theorem qEf (st:List (Nat×Nat))(x t:Nat):cpC (st++[(x,t)])=cpC st++ .int .i64 (x:Nat):: .int .i64 (t:Nat)::[]:=by simp[cpC]
theorem qQm {st:List (Nat×Nat)}{x t:Nat}:(cpC (st++[(x,t)]))[(cpC st).length]?=some (.int .i64 (x:Nat))∧(cpC (st++[(x,t)]))[(cpC st).length+1]?=some (.int .i64 (t:Nat)):=by
 rw[qEf];exact⟨ap_0,ap_1⟩
theorem cp_set {st:List (Nat×Nat)}{x t u:Nat}:bX (cpC (st++[(x,t)])) ((cpC st).length+1) [.int .i64 (u:Nat)]=cpC (st++[(x,u)]):=by
 rw[qEf,qEf,sm_1]
theorem cp_ptr {st:List (Nat×Nat)}{g n:Nat}(h:n=st.length+1):(.pointer (some ⟨g,0+(((n:Nat):Int)-1).toNat*2,none⟩):Value)= .pointer (some ⟨g,(cpC st).length,none⟩):=by
 rw[sW,show 0+(((n:Nat):Int)-1).toNat*2=st.length*2 by omega]
structure SplG where
 st:List (Nat×Nat)
 done:List UInt8
 p:Option Addr
 c:Nat
 g:Nat
 cc:Nat
theorem ct_spell (hE:Seat E){bt g0 c0 x0:Nat}{pre:List UInt8}(hx0:1≤x0∧x0≤Es.length)(hl0:pre.length+len (rls Es) x0≤65536):Ct E 70 [uPt s,.int .i64 (x0:Nat),uPt bt] [bR s most Es,cells bt [.slice (some ⟨g0,0,none⟩) pre.length c0] 29,sl (some ⟨g0,0,none⟩) c0 5 1 pre.length (byC pre)]
  (fun v Q=>∃g c,v= .nilIface∧Q=[bR s most Es,cells bt [.slice (some ⟨g,0,none⟩) (pre++txt (rls Es) x0).length c] 29,sl (some ⟨g,0,none⟩) c 5 1 (pre++txt (rls Es) x0).length (byC (pre++txt (rls Es) x0))]):=by
 refine eQ (p:=bR s most Es) uK (fun _ h=>dR h) (fun hsay=>?_)
 have hLl:=bQ Es
 have hlen0:len (rls Es) x0=(txt (rls Es) x0).length:=rfl
 refine bO (hE.fn Tryz.func70) O O O (fun R=>?_)
 simp only[dU,uV,uW]
 refine gg9 ?_
 refine uU ?_
 refine aU (hE.t O) (hE.t O) O O O (fun b14=>?_)
 refine gg5 ?_
 refine jE (cO (p:=cells b14 [.int .i64 (x0:Nat),.int .i64 1] 198) (p':=sl (some ⟨b14,0,none⟩) 1 198 2 1 (cpC [(x0,1)])) uK (dX O (by unfold maxLen;omega))) ?_
 refine eZ (fun q:SplG=>[(0,uPt s),(2,uPt bt),(7,.slice q.p q.st.length q.c)]) (fun q=>[bR s most Es,cells bt [.slice (some ⟨q.g,0,none⟩) q.done.length q.cc] 29,sl (some ⟨q.g,0,none⟩) q.cc 5 1 q.done.length (byC q.done),sl q.p q.c 198 2 q.st.length (cpC q.st),R]) (fun q=>spM (rls Es) q.st) (fun q=>q.done++spT (rls Es) q.st=pre++txt (rls Es) x0∧SpOk (rls Es) q.st∧spM (rls Es) q.st≤131072) ⟨[(x0,1)],pre,some ⟨b14,0,none⟩,1,g0,c0⟩ ⟨by simp only[qGf],fun q hq=>by
  obtain rfl:=List.mem_singleton.1 hq
  exact⟨hx0.1,oO,Nat.le_refl _⟩,by simp only[pG];omega⟩ ⟨rfl,rfl,rfl,trivial⟩ uI ?_
 rintro⟨st,done,p,c,g,cc⟩⟨htx,hok,hms⟩
 simp only at htx hok hms ⊢
 have hsl:=hok.len hsay.1
 have htl:=congrArg List.length htx
 simp only[List.length_append]at htl
 refine gg8 ?_
 refine bE O (fun h=>?_) (fun h=>?_)
 ·obtain⟨ini,x,t,rfl⟩:∃ini x t,st=ini++[(x,t+1)]:=by
   rcases List.eq_nil_or_concat st with rfl|⟨ini,⟨x,t⟩,rfl⟩
   ·simp at h
   rw[List.concat_eq_append]at hok
   have:=(hok (x,t) (by simp)).2.2
   exact⟨ini,x,t-1,by rw[List.concat_eq_append,Nat.sub_add_cancel this]⟩
  have hil:(ini++[(x,t+1)]).length=ini.length+1:=by simp
  have hT:=spT_pop (rls Es) ini x t
  have hM:=spM_pop (rls Es) ini x t
  have hok':=hok.pop
  have hxx:=hok (x,t+1) (by simp)
  simp only at hxx
  obtain⟨i,rfl⟩:∃i,x=i+1:=⟨x-1,oO⟩
  have hent:Es[i]?=some (Es[i]'oO):=List.getElem?_eq_getElem oO
  generalize Es[i]'oO=en at hent
  have hri:(rls Es)[i]?=some en.r:=by simp[rls,hent]
  have hpl:=sW ini
  obtain⟨f0,f1⟩:=qQm (st:=ini) (x:=i+1) (t:=t+1)
  obtain⟨f2,f3⟩:=qQm (st:=ini) (x:=i+1) (t:=t)
  refine iJ (p:=sl p c 198 2 (ini++[(i+1,t+1)]).length (cpC (ini++[(i+1,t+1)]))) uK (fun _ h=>And.intro (eU h oO) (jK h).1) ?_
  rintro⟨⟨g7,rfl⟩,hcap⟩
  have hlp:=hsay.1.pos (i+1) oO oO
  have htb:t+1≤131072:=by
   have e:=hms
   rw[lZ,pG]at e
   have:=Nat.mul_le_mul_left (t+1) (show 1≤2*len (rls Es) (i+1)-1 by omega)
   omega
  have hLe:en.r.ok (i+1):=hsay.1.ok _ _ hri
  refine gg10 ?_
  refine l_eq 22 _ O (cp_ptr (st:=ini) hil) ?_
  refine gg20 ?_
  refine l_eq 31 (.int .i64 (t:Nat)) O (bW oO) ?_
  refine gg5 ?_
  simp only[bP]
  rw[cp_set]
  refine gg9 ?_
  refine bE O (fun hz=>?_) (fun hz=>?_)
  ·obtain rfl:t=0:=by omega
   have hpp:qJc ini (i+1) 0=ini:=if_pos O
   rw[hpp]at hT hM hok'
   refine gg5 ?_
   refine uB (fU ini.length O O (hE.t O) oO oO) ?_
   refine gg3 ?_
   refine jE (cO (p:=sl (some ⟨g7,0,none⟩) c 198 2 (ini++[(i+1,0+1)]).length (cpC (ini++[(i+1,0)]))) (p':=sl (some ⟨g7,0,none⟩) c 198 2 ini.length (cpC ini)) uK (lS oO (by rw[pU,←sW];simp) (by simp))) ?_
   refine gg4 ?_
   refine uX (nK hE hent) O ?_
   rintro _ _⟨rfl,rfl⟩
   simp only[uV,uW]
   refine gg3 ?_
   refine uU (dA (hE.t O) (fun b10=>?_))
   refine gg12 ?_
   generalize hre:en.r=r at hri
   cases r with
   |letter b=>
    have hxt:txt (rls Es) (i+1)=[b]:=iB hri
    refine gg16 ?_
    refine uN 9 ([cells bt [.slice (some ⟨g,0,none⟩) done.length cc] 29,cells b10 [.int .i64 (Rl.kind ((Rl.letter b)):Nat),.int .u8 (Rl.byte ((Rl.letter b)):Nat),.int .i64 (Rl.left ((Rl.letter b)):Nat),.int .i64 (Rl.right ((Rl.letter b)):Nat),.int .i64 (Rl.times ((Rl.letter b)):Nat)] 86]) ?_
    refine gg4 ?_
    apply dG 4 O oK
    ·exact uBf O
    ·rfl
    apply dG 5 O oK
    ·(apply aO rfl (hE.t rfl) rfl;(repeat(first |rfl|assumption|constructor));done)
    ·rfl
    apply dV 6 O oK O
    refine aU (hE.t O) (hE.t O) O O O (fun b71=>?_)
    refine uE ?_
    apply dV 7 O oK O
    apply bU (hE.t O) (hE.t O) O O O
    ·exact uK
    ·exact uK
    ·rfl
    ·rfl
    ·omega
    ·omega
    ·(unfold maxLen;omega)
    intro g72 c72 n72 x72 hn72 hx72
    refine uE ?_
    apply dG 8 O oK
    ·exact bA O
    ·rfl
    apply iF O oK oK O
    refine uS ?_
    refine gg2 ?_
    obtain rfl:x72=byC (done++[b]):=by rw[hx72,gL];rfl
    have hdl:(done++[b]).length=done.length+1:=by simp
    refine bS (ι:=SplG) (j:=⟨ini,done++[b],some ⟨g7,0,none⟩,c,g72,c72⟩) ⟨by simp only;rw[List.append_assoc,←htx,hT,hxt],hok',by simp only;omega⟩ (by simp only;omega) ⟨rfl,rfl,rfl,trivial⟩ ?_
    simp only[hdl]
    subst hn72
    exact uI
   |pair a b=>
    obtain⟨hm,ht⟩:=qNi hsay.1 hri (ini)
    have hpo:=hsay.1.ok _ _ hri
    simp only[Rl.ok]at hpo
    have hok2:SpOk (rls Es) (ini++[(b,1),(a,1)]):=hok'.push (fun q hq=>by
     simp only[List.mem_cons,List.not_mem_nil,or_false]at hq
     rcases hq with rfl|rfl
     ·exact⟨by simp only;omega,by simp only;omega,Nat.le_refl _⟩
     exact⟨by simp only;omega,by simp only;omega,Nat.le_refl _⟩)
    refine gg31 ?_
    refine uU ?_
    refine aU (hE.t O) (hE.t O) O O O (fun b83=>?_)
    refine uU ?_
    apply bU (hE.t O) (hE.t O) O O O
    ·exact uK
    ·exact uK
    ·rfl
    ·rfl
    ·omega
    ·omega
    ·(unfold maxLen;omega)
    intro g84 c84 n84 x84 hn84 hx84
    refine gg4 ?_
    obtain rfl:x84=cpC (ini++[(b,1),(a,1)]):=by rw[hx84];exact(pU (ini) [(b,1),(a,1)]).symm
    have hdl:(ini++[(b,1),(a,1)]).length=(ini).length+2:=by simp
    refine bS (ι:=SplG) (j:=⟨ini++[(b,1),(a,1)],done,some ⟨g84,0,none⟩,c84,g,cc⟩) ⟨by simp only;rw[←htx,hT,ht],hok2,by simp only;omega⟩ (by simp only;omega) ⟨rfl,rfl,by simp only[hdl];rw[hn84];rfl,trivial⟩ ?_
    simp only[hdl]
    subst hn84
    exact uI
   |power a k=>
    obtain⟨hm,ht⟩:=qJb hsay.1 hri (ini)
    have hpo:=hsay.1.ok _ _ hri
    simp only[Rl.ok]at hpo
    have hok2:SpOk (rls Es) (ini++[(a,k)]):=hok'.push (fun q hq=>by
     obtain rfl:=List.mem_singleton.1 hq
     exact⟨by simp only;omega,by simp only;omega,by simp only;omega⟩)
    refine gg30 ?_
    refine uU ?_
    refine aU (hE.t O) (hE.t O) O O O (fun b61=>?_)
    refine uU ?_
    apply bU (hE.t O) (hE.t O) O O O
    ·exact uK
    ·exact uK
    ·rfl
    ·rfl
    ·omega
    ·omega
    ·(unfold maxLen;omega)
    intro g62 c62 n62 x62 hn62 hx62
    refine gg4 ?_
    obtain rfl:x62=cpC (ini++[(a,k)]):=by rw[hx62];exact(pU (ini) [(a,k)]).symm
    have hdl:(ini++[(a,k)]).length=(ini).length+1:=by simp
    refine bS (ι:=SplG) (j:=⟨ini++[(a,k)],done,some ⟨g62,0,none⟩,c62,g,cc⟩) ⟨by simp only;rw[←htx,hT,ht],hok2,by simp only;omega⟩ (by simp only;omega) ⟨rfl,rfl,by simp only[hdl];rw[hn62];rfl,trivial⟩ ?_
    simp only[hdl]
    subst hn62
    exact uI
  obtain⟨t,rfl⟩:∃t',t=t'+1:=⟨t-1,oO⟩
  have hpp:qJc ini (i+1) (t+1)=ini++[(i+1,t+1)]:=if_neg oO
  rw[hpp]at hT hM hok'
  have hil2:(ini++[(i+1,t+1)]).length=ini.length+1:=by simp
  have hil3:(ini++[(i+1,t+1+1)]).length=(ini++[(i+1,t+1)]).length:=by simp
  rw[hil3]
  refine gg6 ?_
  refine uX (nK hE hent) O ?_
  rintro _ _⟨rfl,rfl⟩
  simp only[uV,uW]
  refine gg3 ?_
  refine uU (dA (hE.t O) (fun b10=>?_))
  refine gg12 ?_
  generalize hre:en.r=r at hri
  cases r with
  |letter b=>
   have hxt:txt (rls Es) (i+1)=[b]:=iB hri
   refine gg16 ?_
   refine uN 9 ([cells bt [.slice (some ⟨g,0,none⟩) done.length cc] 29,cells b10 [.int .i64 (Rl.kind ((Rl.letter b)):Nat),.int .u8 (Rl.byte ((Rl.letter b)):Nat),.int .i64 (Rl.left ((Rl.letter b)):Nat),.int .i64 (Rl.right ((Rl.letter b)):Nat),.int .i64 (Rl.times ((Rl.letter b)):Nat)] 86]) ?_
   refine gg4 ?_
   apply dG 4 O oK
   ·exact uBf O
   ·rfl
   apply dG 5 O oK
   ·(apply aO rfl (hE.t rfl) rfl;(repeat(first |rfl|assumption|constructor));done)
   ·rfl
   apply dV 6 O oK O
   refine aU (hE.t O) (hE.t O) O O O (fun b71=>?_)
   refine uE ?_
   apply dV 7 O oK O
   apply bU (hE.t O) (hE.t O) O O O
   ·exact uK
   ·exact uK
   ·rfl
   ·rfl
   ·omega
   ·omega
   ·(unfold maxLen;omega)
   intro g72 c72 n72 x72 hn72 hx72
   refine uE ?_
   apply dG 8 O oK
   ·exact bA O
   ·rfl
   apply iF O oK oK O
   refine uS ?_
   refine gg2 ?_
   obtain rfl:x72=byC (done++[b]):=by rw[hx72,gL];rfl
   have hdl:(done++[b]).length=done.length+1:=by simp
   refine bS (ι:=SplG) (j:=⟨ini++[(i+1,t+1)],done++[b],some ⟨g7,0,none⟩,c,g72,c72⟩) ⟨by simp only;rw[List.append_assoc,←htx,hT,hxt],hok',by simp only;omega⟩ (by simp only;omega) ⟨rfl,rfl,rfl,trivial⟩ ?_
   simp only[hdl]
   subst hn72
   exact uI
  |pair a b=>
   obtain⟨hm,ht⟩:=qNi hsay.1 hri (ini++[(i+1,t+1)])
   have hpo:=hsay.1.ok _ _ hri
   simp only[Rl.ok]at hpo
   have hok2:SpOk (rls Es) (ini++[(i+1,t+1)]++[(b,1),(a,1)]):=hok'.push (fun q hq=>by
    simp only[List.mem_cons,List.not_mem_nil,or_false]at hq
    rcases hq with rfl|rfl
    ·exact⟨by simp only;omega,by simp only;omega,Nat.le_refl _⟩
    exact⟨by simp only;omega,by simp only;omega,Nat.le_refl _⟩)
   refine gg31 ?_
   refine uU ?_
   refine aU (hE.t O) (hE.t O) O O O (fun b83=>?_)
   refine uU ?_
   apply bU (hE.t O) (hE.t O) O O O
   ·exact uK
   ·exact uK
   ·rfl
   ·rfl
   ·omega
   ·omega
   ·(unfold maxLen;omega)
   intro g84 c84 n84 x84 hn84 hx84
   refine gg4 ?_
   obtain rfl:x84=cpC (ini++[(i+1,t+1)]++[(b,1),(a,1)]):=by rw[hx84];exact(pU (ini++[(i+1,t+1)]) [(b,1),(a,1)]).symm
   have hdl:(ini++[(i+1,t+1)]++[(b,1),(a,1)]).length=(ini++[(i+1,t+1)]).length+2:=by simp
   refine bS (ι:=SplG) (j:=⟨ini++[(i+1,t+1)]++[(b,1),(a,1)],done,some ⟨g84,0,none⟩,c84,g,cc⟩) ⟨by simp only;rw[←htx,hT,ht],hok2,by simp only;omega⟩ (by simp only;omega) ⟨rfl,rfl,by simp only[hdl];rw[hn84];rfl,trivial⟩ ?_
   simp only[hdl]
   subst hn84
   exact uI
  |power a k=>
   obtain⟨hm,ht⟩:=qJb hsay.1 hri (ini++[(i+1,t+1)])
   have hpo:=hsay.1.ok _ _ hri
   simp only[Rl.ok]at hpo
   have hok2:SpOk (rls Es) (ini++[(i+1,t+1)]++[(a,k)]):=hok'.push (fun q hq=>by
    obtain rfl:=List.mem_singleton.1 hq
    exact⟨by simp only;omega,by simp only;omega,by simp only;omega⟩)
   refine gg30 ?_
   refine uU ?_
   refine aU (hE.t O) (hE.t O) O O O (fun b61=>?_)
   refine uU ?_
   apply bU (hE.t O) (hE.t O) O O O
   ·exact uK
   ·exact uK
   ·rfl
   ·rfl
   ·omega
   ·omega
   ·(unfold maxLen;omega)
   intro g62 c62 n62 x62 hn62 hx62
   refine gg4 ?_
   obtain rfl:x62=cpC (ini++[(i+1,t+1)]++[(a,k)]):=by rw[hx62];exact(pU (ini++[(i+1,t+1)]) [(a,k)]).symm
   have hdl:(ini++[(i+1,t+1)]++[(a,k)]).length=(ini++[(i+1,t+1)]).length+1:=by simp
   refine bS (ι:=SplG) (j:=⟨ini++[(i+1,t+1)]++[(a,k)],done,some ⟨g62,0,none⟩,c62,g,cc⟩) ⟨by simp only;rw[←htx,hT,ht],hok2,by simp only;omega⟩ (by simp only;omega) ⟨rfl,rfl,by simp only[hdl];rw[hn62];rfl,trivial⟩ ?_
   simp only[hdl]
   subst hn62
   exact uI
 obtain rfl:st=[]:=List.eq_nil_of_length_eq_zero oO
 have hd:done=pre++txt (rls Es) x0:=by simpa[spT]using htx
 subst hd
 refine gg11 ?_
 exact uZ O (.tmp O .nil) ⟨g,cc,O,O⟩
end
section
variable {E:Env}{Es:List Ent}{pp tb s most:Nat}
theorem qJx (hE:Seat E){n:Nat}(hn:n≤1152921504606846976):Ct E 94 [.int .i64 (n:Nat)] [] (fun v Q=>v= .bool true∧Q=[]):=by
 refine bO (hE.fn Tryz.func94) O O O (fun R=>?_)
 simp only[dU,uV,uW]
 refine gg10 ?_
 refine dY 5 O (fun h=>?_) (fun h=>?_)
 ·refine gg9 ?_
  exact uZ O (.tmp O .nil) ⟨congrArg Value.bool (decide_eq_true oO),O⟩
 exfalso;omega
theorem qJw (hE:Seat E){n:Nat}(hn:n≤1152921504606846976):Ct E 67 [.int .i64 0,.int .i64 (n:Nat),.int .i64 (n:Nat)] [] (fun v Q=>v= .nilIface∧Q=[]):=by
 refine bO (hE.fn Tryz.func67) O O O (fun R=>?_)
 simp only[dU,uV,uW]
 refine gg9 ?_
 refine uX (qJx hE hn) O ?_
 rintro _ _⟨rfl,rfl⟩
 simp only[uV,uW]
 refine gg8 ?_
 refine dY 14 O (fun h1=>?_) (fun h1=>?_)
 ·exfalso;omega
 refine gg6 ?_
 refine dY 18 O (fun h2=>?_) (fun h2=>?_)
 ·exfalso;omega
 refine gg8 ?_
 refine dY 23 O (fun h3=>?_) (fun h3=>?_)
 ·exfalso;omega
 refine gg13 ?_
 refine bE O (fun h4=>?_) (fun h4=>?_)
 ·exfalso;omega
 refine gg8 ?_
 exact uZ O (.tmp O .nil) ⟨O,O⟩
theorem ct_ext1 (hE:Seat E){bt b4 g0 c0 x:Nat}(hx:1≤x∧x≤Es.length)(hl:len (rls Es) x≤65536):Ct E 69 [.int .i64 (x:Nat),.int .i64 1,uPt bt,uPt b4] [cells b4 [uPt s] 24,bR s most Es,cells bt [.slice (some ⟨g0,0,none⟩) (([]:List UInt8)).length c0] 29,sl (some ⟨g0,0,none⟩) c0 5 1 (([]:List UInt8)).length (byC (([]:List UInt8)))]
  (fun v Q=>∃g c,v= .nilIface∧Q=[cells b4 [uPt s] 24,bR s most Es,cells bt [.slice (some ⟨g,0,none⟩) (txt (rls Es) x).length c] 29,sl (some ⟨g,0,none⟩) c 5 1 (txt (rls Es) x).length (byC (txt (rls Es) x))]):=by
 have h00:([]:List UInt8).length+len (rls Es) x≤65536:=by rw[List.length_nil];omega
 refine bO (hE.fn Tryz.func69) O O O (fun R=>?_)
 simp only[dU,uV,uW]
 refine gg17 ?_
 refine uX (ct_spell (pre:=[]) hE hx h00) O ?_
 rintro _ _⟨g,c,rfl,rfl⟩
 simp only[uV,uW]
 refine lV (p:=sl (some ⟨g,0,none⟩) c 5 1 ([]++txt (rls Es) x).length (byC ([]++txt (rls Es) x))) uK (fun _ h=>jK h) ?_
 rintro⟨hcap, -⟩
 rw[List.nil_append]at hcap
 refine gg16 ?_
 refine uB (gJ (l:=0) (h:=(txt (rls Es) x).length) O (hE.t O) ⟨_,O⟩ O (Nat.zero_le _) oO) ?_
 refine gg12 ?_
 refine eZ (fun _:Unit=>[(22,.int .i64 (1-1)),(23,.int .i64 0)]) (fun _=>[cells b4 [uPt s] 24,bR s most Es,cells bt [.slice (some ⟨g,0,none⟩) (txt (rls Es) x).length c] 29,sl (some ⟨g,0,none⟩) c 5 1 (txt (rls Es) x).length (byC (txt (rls Es) x)),R]) (fun _=>0) (fun _=>True) () trivial ⟨O,O,trivial⟩ uI ?_
 rintro _ _
 refine gg6 ?_
 refine bE O (fun h=>?_) (fun h=>?_)
 ·exfalso;omega
 refine gg11 ?_
 exact uZ O (.tmp O .nil) ⟨g,c,O,O⟩
theorem ct_parts (hE:Seat E){bt b4 g0 c0 i:Nat}{en:Ent}(hent:Es[i]?=some en)(hl:len (rls Es) (i+1)≤65536):Ct E 68 [uPt s,.int .i64 ((i+1:Nat):Int),.int .i64 0,.int .i64 (len (rls Es) (i+1):Nat),.func (.func 69) #[] ⟨[uPt bt,uPt b4]⟩] [cells b4 [uPt s] 24,bR s most Es,cells bt [.slice (some ⟨g0,0,none⟩) (([]:List UInt8)).length c0] 29,sl (some ⟨g0,0,none⟩) c0 5 1 (([]:List UInt8)).length (byC (([]:List UInt8)))]
  (fun v Q=>∃g c,v= .nilIface∧Q=[cells b4 [uPt s] 24,bR s most Es,cells bt [.slice (some ⟨g,0,none⟩) (txt (rls Es) (i+1)).length c] 29,sl (some ⟨g,0,none⟩) c 5 1 (txt (rls Es) (i+1)).length (byC (txt (rls Es) (i+1)))]):=by
 refine eQ (p:=bR s most Es) uK (fun _ h=>dR h) (fun hsay=>?_)
 have hil:i<Es.length:=(List.getElem?_eq_some_iff.1 hent).1
 have htx:=hsay.2.1 i en hent
 have hle:en.t.length=len (rls Es) (i+1):=by rw[htx];rfl
 have hlp:=hsay.1.pos (i+1) oO (by rw[bQ];omega)
 have hxx:1≤i+1∧i+1≤Es.length:=⟨oO,oO⟩
 refine bO (hE.fn Tryz.func68) O O O (fun R=>?_)
 simp only[dU,uV,uW]
 refine gg11 ?_
 refine uU ?_
 refine aU (hE.t O) (hE.t O) O O O (fun b22=>?_)
 refine gg5 ?_
 refine jE (cO (p:=cells b22 [.int .i64 ((i+1:Nat):Int),.int .i64 0,.int .i64 (len (rls Es) (i+1):Nat),.int .i64 1] 194) (p':=sl (some ⟨b22,0,none⟩) 1 194 4 1 [.int .i64 ((i+1:Nat):Int),.int .i64 0,.int .i64 (len (rls Es) (i+1):Nat),.int .i64 1]) uK (dX O (by unfold maxLen;omega))) ?_
 refine eZ (fun q:Option (Nat×Nat)=>[(0,uPt s),(4,.func (.func 69) #[] ⟨[uPt bt,uPt b4]⟩),(11,.slice (some ⟨b22,0,none⟩) (if q.isSome then 0 else 1) 1)])
  (fun q=>match q with
   |none=>[cells b4 [uPt s] 24,bR s most Es,cells bt [.slice (some ⟨g0,0,none⟩) (([]:List UInt8)).length c0] 29,sl (some ⟨g0,0,none⟩) c0 5 1 (([]:List UInt8)).length (byC (([]:List UInt8))),sl (some ⟨b22,0,none⟩) 1 194 4 1 [.int .i64 ((i+1:Nat):Int),.int .i64 0,.int .i64 (len (rls Es) (i+1):Nat),.int .i64 1],R]
   |some q=>[cells b4 [uPt s] 24,bR s most Es,cells bt [.slice (some ⟨q.1,0,none⟩) (txt (rls Es) (i+1)).length q.2] 29,sl (some ⟨q.1,0,none⟩) q.2 5 1 (txt (rls Es) (i+1)).length (byC (txt (rls Es) (i+1))),R]) (fun q=>if q.isSome then 0 else 1) (fun _=>True) none trivial ⟨rfl,rfl,rfl,trivial⟩ uI ?_
 rintro(_|⟨g,c⟩)_
 ·simp only[Option.isSome_none,if_false,Bool.false_eq_true]
  refine gg8 ?_
  refine bE O (fun h=>?_) (fun h=>?_)
  ·refine gg10 ?_
   refine l_eq 30 (uPt b22) O O ?_
   refine gg1 ?_
   refine uU (dA (hE.t O) (fun b12=>?_))
   refine gg9 ?_
   refine uB (fU 0 O O (hE.t O) oO oO) ?_
   refine gg10 ?_
   refine dY 40 O (fun h1=>?_) (fun h1=>?_)
   ·exfalso;omega
   refine gg9 ?_
   refine bE O (fun h2=>?_) (fun h2=>?_)
   ·exfalso;omega
   refine gg7 ?_
   refine uX (rQ hE hent) O ?_
   rintro _ _⟨rfl,rfl⟩
   simp only[uV,uW]
   refine gg3 ?_
   refine uU (dA (hE.t O) (fun b13=>?_))
   refine gg24 ?_
   refine bE O (fun h3=>?_) (fun h3=>?_)
   ·refine gg8 ?_
    refine uU ?_
    apply ld_callv (hx:=O) (ha:=O) (hf:=hE.f oK)
    ·exact ct_ext1 (s:=s) (most:=most) (g0:=g0) (c0:=c0) hE hxx hl
    ·exact uK
    rintro _ _⟨g,c,rfl,rfl⟩
    simp only[uV,uW]
    refine gg15 ?_
    refine bS (ι:=Option (Nat×Nat)) (j:=some (g,c)) trivial (by simp) ⟨O,O,O,trivial⟩ ?_
    exact uI
   exfalso;omega
  exfalso;omega
 simp only[Option.isSome_some,if_true]
 refine gg8 ?_
 refine bE O (fun h=>?_) (fun h=>?_)
 ·exfalso;omega
 refine gg11 ?_
 exact uZ O (.tmp O .nil) ⟨g,c,O,O⟩
theorem qCp (hE:Seat E){i:Nat}{en:Ent}(hent:Es[i]?=some en)(hl:len (rls Es) (i+1)≤65536):Ct E 41 [uPt s,.int .i64 ((i+1:Nat):Int),.int .i64 0,.int .i64 (len (rls Es) (i+1):Nat)] [bR s most Es]
  (fun v Q=>∃g c,v= .tuple #[.slice (some ⟨g,0,none⟩) (txt (rls Es) (i+1)).length c,.nilIface]∧Q=[bR s most Es,sl (some ⟨g,0,none⟩) c 5 1 (txt (rls Es) (i+1)).length (byC (txt (rls Es) (i+1)))]):=by
 refine eQ (p:=bR s most Es) uK (fun _ h=>dR h) (fun hsay=>?_)
 have htx:=hsay.2.1 i en hent
 have hle:en.t.length=len (rls Es) (i+1):=by rw[htx];rfl
 have hln:len (rls Es) (i+1)≤1152921504606846976:=oO
 refine bO (hE.fn Tryz.func41) O O O (fun R=>?_)
 simp only[dU,uV,uW]
 refine gg2 ?_
 refine uU ?_
 refine fA O (fun b4=>?_)
 refine gg8 ?_
 refine uX (rQ hE hent) O ?_
 rintro _ _⟨rfl,rfl⟩
 simp only[uV,uW]
 refine gg3 ?_
 refine uU (dA (hE.t O) (fun b10=>?_))
 refine gg21 ?_
 refine l_eq 26 (.int .i64 (len (rls Es) (i+1):Nat)) O (bW oO) ?_
 refine uX (qJw hE hln) O ?_
 rintro _ _⟨rfl,rfl⟩
 simp only[uV,uW]
 refine gg19 ?_
 refine bE O (fun h=>?_) (fun h=>?_)
 ·exfalso;omega
 refine gg5 ?_
 refine uU ?_
 refine kE (hE.t O) (hE.t O) O O (by first |omega |exact Nat.le_of_ble_eq_true rfl) (by(unfold maxLen;first |omega |exact Nat.le_of_ble_eq_true rfl)) (fun b35 us35 hu35=>?_)
 refine uU (dA (hE.t O) (fun b13=>?_))
 refine gg3 ?_
 refine jE (cO (p:=sl (some ⟨b35,0,none⟩) (len (rls Es) (i+1)) 5 1 (len (rls Es) (i+1)) us35) (p':=sl (some ⟨b35,0,none⟩) (len (rls Es) (i+1)) 5 1 0 (byC [])) uK (lS (Nat.zero_le _) O (by simp))) ?_
 refine gg7 ?_
 refine uX (ct_parts (g0:=b35) (c0:=len (rls Es) (i+1)) hE hent hl) O ?_
 rintro _ _⟨g,c,rfl,rfl⟩
 simp only[uV,uW]
 refine gg21 ?_
 exact uZ O (.tmp O (.tmp O .nil)) ⟨g,c,O,O⟩
end
section
variable {E:Env}{Es:List Ent}{pp tb s most m bm:Nat}{f:Int→Option Value}
theorem qQr (hE:Seat E):Ct E 10 [uPt pp] [] (fun v Q=>∃m bm,v=uPt m∧Q=[cells m [uPt pp,.map (some bm)] 93,mapF bm .i64 (fun _=>none)]):=by
 refine bO (hE.fn Tryz.func10) O O O (fun R=>?_)
 simp only[dU,uV,uW]
 refine gg18 ?_
 refine uU ?_
 refine rZ .i64 (fun b6=>?_)
 refine gg1 ?_
 refine uU ?_
 refine fA O (fun b8=>?_)
 refine gg4 ?_
 exact uZ O (.tmp O .nil) ⟨b8,b6,O,O⟩
theorem jC (hE:Seat E):Ct E 36 [uPt m] [cells m [uPt pp,.map (some bm)] 93] (fun v Q=>v=uPt pp∧Q=[cells m [uPt pp,.map (some bm)] 93]):=by
 refine bO (hE.fn Tryz.func36) O O O (fun R=>?_)
 simp only[dU,uV,uW]
 refine gg25 ?_
 exact uZ O (.tmp O .nil) ⟨O,O⟩
theorem qI (hE:Seat E){x y:Nat}:Ct E 103 [uPt m,.int .i64 (x:Nat),.int .i64 (y:Nat),.nilIface] [cells m [uPt pp,.map (some bm)] 93,mapF bm .i64 f] (fun v Q=>v= .nilIface∧Q=[cells m [uPt pp,.map (some bm)] 93,mapF bm .i64 (setF f (x:Nat) (.int .i64 (y:Nat)))]):=by
 refine bO (hE.fn Tryz.func103) O O O (fun R=>?_)
 simp only[dU,uV,uW]
 refine gg20 ?_
 refine uU ?_
 apply mJ (kt:=44) (et:=44) (by rw[hE.P];kernel_rfl) (by rw[hE.P];kernel_rfl) O O O
 ·exact uK
 refine gg9 ?_
 exact uZ O (.tmp O .nil) ⟨O,O⟩
theorem ct_learn (hE:Seat E)(hB:Base E.w0){i:Nat}{en:Ent}(hent:Es[i]?=some en)(hl:len (rls Es) (i+1)≤256)(hroom:Es.length+512≤most):
  Ct E 79 [uPt m,.int .i64 ((i+1:Nat):Int)] [cells pp [uPt s,uPt tb] 97,tabP tb s (rls Es),bR s most Es,cells m [uPt pp,.map (some bm)] 93,mapF bm .i64 f]
   (fun v Q=>∃M y,v= .tuple #[.int .i64 0,.nilIface]∧M.length≤512∧SigOf (rls (Es++M)) (i+1) y∧Q=[cells pp [uPt s,uPt tb] 97,tabP tb s (rls (Es++M)),bR s most (Es++M),cells m [uPt pp,.map (some bm)] 93,mapF bm .i64 (setF f ((i+1:Nat):Int) (.int .i64 (y:Nat)))]):=by
 refine eQ (p:=bR s most Es) uK (fun _ h=>dR h) (fun hsay=>?_)
 have hil:i<Es.length:=(List.getElem?_eq_some_iff.1 hent).1
 have htx:=hsay.2.1 i en hent
 have hle:en.t.length=len (rls Es) (i+1):=by rw[htx];rfl
 have hlt:(txt (rls Es) (i+1)).length=len (rls Es) (i+1):=rfl
 have hl2:len (rls Es) (i+1)≤65536:=oO
 refine bO (hE.fn Tryz.func79) O O O (fun R=>?_)
 simp only[dU,uV,uW]
 refine gg12 ?_
 refine uX (gK hE) O ?_
 rintro _ _⟨rfl,rfl⟩
 simp only[uV,uW]
 refine gg7 ?_
 refine uX (rQ hE hent) O ?_
 rintro _ _⟨rfl,rfl⟩
 simp only[uV,uW]
 refine gg3 ?_
 refine uU (dA (hE.t O) (fun b7=>?_))
 refine gg22 ?_
 refine bE O (fun h=>?_) (fun h=>?_)
 ·refine gg6 ?_
  refine l_eq 40 (.int .i64 (len (rls Es) (i+1):Nat)) O (bW oO) ?_
  refine uX (qCp hE hent hl2) O ?_
  rintro _ _⟨g,c,rfl,rfl⟩
  simp only[uV,uW]
  refine gg24 ?_
  refine uX (qQp (Es:=Es) (s:=s) (most:=most) (tb:=tb) (pp:=pp) (q:=sl (some ⟨g,0,none⟩) c 5 1 (txt (rls Es) (i+1)).length (byC (txt (rls Es) (i+1)))) (bs:=txt (rls Es) (i+1)) hE hB (fun _=>⟨g,0,O,sH (fun _ _ h=>h)⟩) oO oO) O ?_
  rintro _ _⟨M,id,rfl,hM,htt,hgd,hor,rfl⟩
  simp only[uV,uW]
  refine gg13 ?_
  refine uX (qI (f:=f) (m:=m) (pp:=pp) (bm:=bm) (x:=i+1) (y:=id) hE) O ?_
  rintro _ _⟨rfl,rfl⟩
  simp only[uV,uW]
  refine gg6 ?_
  have e:txt (rls (Es++M)) (i+1)=txt (rls Es) (i+1):=by rw[dB];exact gN _ (by rw[bQ];omega)
  exact uZ O (.tmp O (.tmp O .nil)) ⟨M,id,O,oO,⟨by rw[bQ,List.length_append];omega,by rw[htt,e],hgd,by rw[e];exact hor⟩,rfl⟩
 exfalso;omega
structure OcG where
 ids:List Nat
 M:List Ent
 f:Int→Option Value
theorem qLu (hE:Seat E)(hB:Base E.w0){x:Nat}(hx:x≤Es.length)(hl:len (rls Es) x≤256)(hroom:Es.length+512≤most)(hk:Kn (rls Es) f):
  Ct E 47 [uPt m,.int .i64 (x:Nat)] [cells pp [uPt s,uPt tb] 97,tabP tb s (rls Es),bR s most Es,cells m [uPt pp,.map (some bm)] 93,mapF bm .i64 f]
   (fun v Q=>∃M f' y,v= .tuple #[.int .i64 (y:Nat),.nilIface]∧M.length≤512∧Kn (rls (Es++M)) f'∧SigOf (rls (Es++M)) x y∧Q=[cells pp [uPt s,uPt tb] 97,tabP tb s (rls (Es++M)),bR s most (Es++M),cells m [uPt pp,.map (some bm)] 93,mapF bm .i64 f']):=by
 refine eQ (p:=bR s most Es) uK (fun _ h=>dR h) (fun hsay=>?_)
 have hmr:fB=1048576:=rfl
 refine bO (hE.fn Tryz.func47) O O O (fun R=>?_)
 simp only[dU,uV,uW]
 refine gg21 ?_
 refine uX (gK hE) O ?_
 rintro _ _⟨rfl,rfl⟩
 simp only[uV,uW]
 refine gg14 ?_
 refine dY 25 O (fun h1=>?_) (fun h1=>?_)
 ·exfalso;omega
 refine gg11 ?_
 refine uX (gK hE) O ?_
 rintro _ _⟨rfl,rfl⟩
 simp only[uV,uW]
 refine gg1 ?_
 refine uX (vU hE) O ?_
 rintro _ _⟨rfl,rfl⟩
 simp only[uV,uW]
 refine gg5 ?_
 refine bE O (fun h2=>?_) (fun h2=>?_)
 ·exfalso;omega
 refine gg9 ?_
 refine bE O (fun h3=>?_) (fun h3=>?_)
 ·obtain rfl:x=0:=by omega
  refine gg8 ?_
  apply cB
  ·rfl
  ·(apply Rs.tmp rfl;apply Rs.tmp rfl;exact Rs.nil)
  ·exact⟨[],f,0,O,by simp,by rw[List.append_nil];exact hk,SigOf.zero _,rfl⟩
  rw[List.append_nil]
  exact uI
 obtain⟨i,rfl⟩:∃i,x=i+1:=⟨x-1,oO⟩
 have f0:(idC [i+1])[0]?=some (.int .i64 ((i+1:Nat):Int)):=rfl
 refine gg5 ?_
 refine uU ?_
 refine aU (hE.t O) (hE.t O) O O O (fun b39=>?_)
 refine gg5 ?_
 refine jE (cO (p:=cells b39 [.int .i64 ((i+1:Nat):Int)] 44) (p':=sl (some ⟨b39,0,none⟩) 1 44 1 1 (idC [i+1])) uK (dX O (by unfold maxLen;omega))) ?_
 refine eZ (fun q:OcG=>[(0,uPt m),(1,.int .i64 ((i+1:Nat):Int)),(6,.slice (some ⟨b39,0,none⟩) q.ids.length 1)]) (fun q=>[cells pp [uPt s,uPt tb] 97,tabP tb s (rls (Es++q.M)),bR s most (Es++q.M),cells m [uPt pp,.map (some bm)] 93,mapF bm .i64 q.f,sl (some ⟨b39,0,none⟩) 1 44 1 q.ids.length (idC q.ids),R])
  (fun q=>2*q.ids.length+if(q.f ((i+1:Nat):Int)).isNone then 1 else 0) (fun q=>(q.ids=[i+1]∨q.ids=[])∧q.M.length≤512∧(q.f ((i+1:Nat):Int)=none→q.M=[])∧Kn (rls (Es++q.M)) q.f∧(q.ids=[]→q.f ((i+1:Nat):Int)≠none)) ⟨[i+1],[],f⟩ ⟨.inl rfl,by simp,fun _=>rfl,by rw[List.append_nil];exact hk,fun h=>by cases h⟩ ⟨rfl,rfl,rfl,trivial⟩ ?_ ?_
 ·rw[List.append_nil]
  exact uI
 rintro⟨ids,M,f'⟩⟨hids,hM,hnone,hkn,hend⟩
 simp only at hids hM hnone hkn hend ⊢
 have hi1:[i+1].length=1:=rfl
 have hEM:(Es++M).length=Es.length+M.length:=List.length_append
 rcases hids with rfl|rfl
 ·refine gg8 ?_
  refine bE O (fun h=>?_) (fun h=>?_)
  ·refine gg10 ?_
   refine l_eq 47 (uPt b39) O O ?_
   obtain⟨v,hfx⟩|hfx:(∃v,f' ((i+1:Nat):Int)=some v)∨f' ((i+1:Nat):Int)=none:=by
    cases f' ((i+1:Nat):Int)with
    |some v=>exact .inl ⟨v,rfl⟩
    |none=>exact .inr rfl
   ·refine gg12 ?_
    refine uB (kQ (kt:=44) (et:=44) (z:= .int .i64 0) (by rw[hE.P];kernel_rfl) (by rw[hE.P];kernel_rfl) (fun w=>by rw[hE.P];kernel_rfl) rfl rfl uK (by assumption)) ?_
    refine l_eq 55 (.tuple #[v,.bool true]) O O ?_
    refine gg19 ?_
    refine uB (fU 0 O O (hE.t O) oO oO) ?_
    refine gg6 ?_
    refine bS (ι:=OcG) (j:=⟨[],M,f'⟩) ⟨.inr O,hM,hnone,hkn,fun _=>by show f' ((i+1:Nat):Int)≠none;rw[hfx];simp⟩ (by simp[hfx]) ⟨rfl,rfl,rfl,trivial⟩ ?_
    refine cZ (cO (p:=sl (some ⟨b39,0,none⟩) 1 44 1 [i+1].length (idC [i+1])) (p':=sl (some ⟨b39,0,none⟩) 1 44 1 0 (idC [])) uK (lS (Nat.zero_le _) O (by simp))) ?_
    exact uI
   obtain rfl:=hnone hfx
   rw[List.append_nil]at hkn ⊢
   have hent:Es[i]?=some (Es[i]'oO):=List.getElem?_eq_getElem oO
   generalize Es[i]'oO=en at hent
   refine gg12 ?_
   refine uB (kQ (kt:=44) (et:=44) (z:= .int .i64 0) (by rw[hE.P];kernel_rfl) (by rw[hE.P];kernel_rfl) (fun w=>by rw[hE.P];kernel_rfl) rfl rfl uK (by assumption)) ?_
   refine l_eq 55 (.tuple #[.int .i64 0,.bool false]) O O ?_
   refine gg19 ?_
   refine uX (ct_learn (f:=f') (m:=m) (pp:=pp) (bm:=bm) hE hB hent hl hroom) O ?_
   rintro _ _⟨M,y,rfl,hM2,hsg,rfl⟩
   simp only[uV,uW]
   refine gg23 ?_
   refine bE O (fun hz=>?_) (fun hz=>?_)
   ·exact absurd O hz
   refine gg2 ?_
   have hset:setF f' ((i+1:Nat):Int) (.int .i64 (y:Nat)) ((i+1:Nat):Int)=some (.int .i64 (y:Nat)):=if_pos O
   refine bS (ι:=OcG) (j:=⟨[i+1],M,setF f' ((i+1:Nat):Int) (.int .i64 (y:Nat))⟩) ⟨.inl O,hM2,fun h=>absurd (hset.symm.trans h) (by simp),by simp only[dB]at hsg ⊢;exact(hkn.ext _).set hsg,fun h=>by cases h⟩ (by simp only[hset,hfx];simp) ⟨rfl,rfl,rfl,trivial⟩ ?_
   exact uI
  exfalso;simp at h
 refine gg8 ?_
 refine bE O (fun h=>?_) (fun h=>?_)
 ·exfalso;simp at h
 obtain⟨v,hfx⟩:∃v,f' ((i+1:Nat):Int)=some v:=Option.ne_none_iff_exists'.1 (hend rfl)
 obtain⟨y,rfl,hsg⟩:=hkn.at hfx
 refine gg12 ?_
 refine uB (kQ (kt:=44) (et:=44) (z:= .int .i64 0) (by rw[hE.P];kernel_rfl) (by rw[hE.P];kernel_rfl) (fun w=>by rw[hE.P];kernel_rfl) rfl rfl uK (by assumption)) ?_
 refine gg5 ?_
 exact uZ O (.tmp O (.tmp O .nil)) ⟨M,f',y,O,hM,hkn,hsg,O⟩
structure AlG where
 M:List Ent
 f:Int→Option Value
 ys:List Nat
 g:Nat
 c:Nat
def SigL (L:List Rl)(xs ys:List Nat):Prop:=∀(i x y:Nat),xs[i]?=some x→ys[i]?=some y→SigOf L x y
theorem SigL.ext {L:List Rl}(M:List Rl){xs ys:List Nat}(h:SigL L xs ys):SigL (L++M) xs ys:=fun i x y h1 h2=>(h i x y h1 h2).ext M
theorem SigL.snoc {L:List Rl}{xs ys:List Nat}(h:SigL L xs ys){x y:Nat}(hx:xs[ys.length]?=some x)(hs:SigOf L x y):SigL L xs (ys++[y]):=fun i x' y' h1 h2=>by
 rcases Nat.lt_trichotomy i ys.length with e|e| e
 ·rw[List.getElem?_append_left e]at h2;exact h i x' y' h1 h2
 ·subst e
  rw[hx]at h1
  cases h1
  simp at h2
  subst h2
  exact hs
 have:=(List.getElem?_eq_some_iff.1 h2).1
 simp at this
 omega
theorem ct_All (hE:Seat E)(hB:Base E.w0){xs:List Nat}{p:Option Addr}{c:Nat}(hx:∀x∈xs,x≤Es.length∧len (rls Es) x≤256) (hn:xs.length≤1000) (hroom:Es.length+512*xs.length≤most) (hk:Kn (rls Es) f):
  Ct E 55 [uPt m,.slice p xs.length c] [cells pp [uPt s,uPt tb] 97,tabP tb s (rls Es),bR s most Es,cells m [uPt pp,.map (some bm)] 93,mapF bm .i64 f,sl p c 44 1 xs.length (idC xs)]
   (fun v Q=>∃M f' ys p' c',v= .tuple #[.slice p' xs.length c',.nilIface]∧M.length≤512*xs.length∧Kn (rls (Es++M)) f'∧ys.length=xs.length∧SigL (rls (Es++M)) xs ys∧Q=[cells pp [uPt s,uPt tb] 97,tabP tb s (rls (Es++M)),bR s most (Es++M),cells m [uPt pp,.map (some bm)] 93,mapF bm .i64 f',sl p c 44 1 xs.length (idC xs),sl p' c' 44 1 xs.length (idC ys)]):=by
 refine bO (hE.fn Tryz.func55) O O O (fun R=>?_)
 simp only[dU,uV,uW]
 refine gg10 ?_
 refine uU ?_
 refine kE (hE.t O) (hE.t O) O O (by first |omega |exact Nat.le_of_ble_eq_true rfl) (by(unfold maxLen;first |omega |exact Nat.le_of_ble_eq_true rfl)) (fun b13 us13 hu13=>?_)
 refine gg12 ?_
 refine jE (cO (p:=sl (some ⟨b13,0,none⟩) xs.length 44 1 xs.length us13) (p':=sl (some ⟨b13,0,none⟩) xs.length 44 1 0 (idC [])) uK (lS (Nat.zero_le _) O (by simp))) ?_
 refine eZ (fun q:AlG=>[(0,uPt m),(6,.slice (some ⟨q.g,0,none⟩) q.ys.length q.c),(14,.slice p xs.length c),(15,.int .i64 (xs.length:Nat)),(16,.int .i64 (q.ys.length:Nat))]) (fun q=>[cells pp [uPt s,uPt tb] 97,tabP tb s (rls (Es++q.M)),bR s most (Es++q.M),cells m [uPt pp,.map (some bm)] 93,mapF bm .i64 q.f,sl p c 44 1 xs.length (idC xs),sl (some ⟨q.g,0,none⟩) q.c 44 1 q.ys.length (idC q.ys),R])
  (fun q=>xs.length-q.ys.length) (fun q=>q.ys.length≤xs.length∧q.M.length≤512*q.ys.length∧Kn (rls (Es++q.M)) q.f∧SigL (rls (Es++q.M)) xs q.ys) ⟨[],f,[],b13,xs.length⟩ ⟨Nat.zero_le _,by simp,by rw[List.append_nil];exact hk,fun i x y _ h=>by simp at h⟩ ⟨rfl,rfl,rfl,rfl,rfl,trivial⟩ ?_ ?_
 ·rw[List.append_nil]
  exact uI
 rintro⟨M,f',ys,g,c2⟩⟨hle,hM,hkn,hsl⟩
 simp only at hle hM hkn hsl ⊢
 refine gg6 ?_
 refine bE O (fun h=>?_) (fun h=>?_)
 ·have hlt:ys.length<xs.length:=oO
  obtain⟨x,hxi⟩:∃x,xs[ys.length]?=some x:=⟨_,List.getElem?_eq_getElem hlt⟩
  have hxx:=hx x (List.mem_of_getElem? hxi)
  have hx1:x≤(Es++M).length:=by simp;omega
  have hx2:len (rls (Es++M)) x≤256:=by
   unfold len
   rw[dB,gN _ (by rw[bQ];omega)]
   exact hxx.2
  have hx3:(Es++M).length+512≤most:=by simp;omega
  refine iJ (p:=sl p c 44 1 xs.length (idC xs)) uK (fun _ h=>eU h oO) ?_
  rintro⟨gx,rfl⟩
  have f0:=fP hxi (0+((ys.length:Nat):Int).toNat) oO
  have f1:=fP hxi (((ys.length:Nat):Int).toNat) oO
  refine gg15 ?_
  refine uX (qLu (Es:=Es++M) (f:=f') (m:=m) (pp:=pp) (bm:=bm) hE hB hx1 hx2 hx3 hkn) O ?_
  rintro _ _⟨M2,f2,y,rfl,hM2,hkn2,hsg,rfl⟩
  simp only[uV,uW]
  rw[List.append_assoc]at hkn2 hsg ⊢
  refine gg20 ?_
  refine uU ?_
  refine aU (hE.t O) (hE.t O) O O O (fun b31=>?_)
  refine uU ?_
  apply bU (hE.t O) (hE.t O) O O O
  ·exact uK
  ·exact uK
  ·rfl
  ·rfl
  ·omega
  ·omega
  ·(unfold maxLen;omega)
  intro g32 c32 n32 x32 hn32 hx32
  refine gg8 ?_
  obtain rfl:x32=idC (ys++[y]):=by rw[hx32,lT];rfl
  have hyl:(ys++[y]).length=ys.length+1:=by simp
  subst hn32
  refine bS (ι:=AlG) (j:=⟨M++M2,f2,ys++[y],g32,c32⟩) ⟨by simp only;omega,by simp only[List.length_append,List.length_singleton];omega,hkn2,?_⟩ (by simp only;omega) ⟨rfl,by simp only[hyl];rfl,rfl,rfl,by simp only[hyl];exact congrArg some (bW oO),trivial⟩ ?_
  ·simp only
   refine SigL.snoc ?_ hxi hsg
   rw[←List.append_assoc,dB]
   exact hsl.ext _
  simp only[hyl]
  exact uI
 have he:ys.length=xs.length:=oO
 refine gg13 ?_
 apply cB
 ·rfl
 ·(apply Rs.tmp rfl;apply Rs.tmp rfl;exact Rs.nil)
 ·exact⟨M,f',ys,some ⟨g,0,none⟩,c2,by rw[he];rfl,oO,hkn,he,hsl,rfl⟩
 rw[he]
 exact uI
theorem ct_AllN (hE:Seat E)(hB:Base E.w0){xs:List Nat}{n:Nat}(hxn:xs.length=n){p:Option Addr}{c:Nat}(hx:∀x∈xs,x≤Es.length∧len (rls Es) x≤256) (hn:n≤1000) (hroom:Es.length+512*n≤most) (hk:Kn (rls Es) f):
  Ct E 55 [uPt m,.slice p n c] [cells pp [uPt s,uPt tb] 97,tabP tb s (rls Es),bR s most Es,cells m [uPt pp,.map (some bm)] 93,mapF bm .i64 f,sl p c 44 1 n (idC xs)]
   (fun v Q=>∃M f' ys p' c',v= .tuple #[.slice p' n c',.nilIface]∧M.length≤512*n∧Kn (rls (Es++M)) f'∧ys.length=n∧SigL (rls (Es++M)) xs ys∧Q=[cells pp [uPt s,uPt tb] 97,tabP tb s (rls (Es++M)),bR s most (Es++M),cells m [uPt pp,.map (some bm)] 93,mapF bm .i64 f',sl p c 44 1 n (idC xs),sl p' c' 44 1 n (idC ys)]):=by
 subst hxn
 exact ct_All hE hB hx hn hroom hk
end
section
variable {E:Env}{Es:List Ent}{pp tb s most m bm:Nat}{f:Int→Option Value}
def Names (l:List (List UInt8×Int)):Prop:=∀p∈l,ValidN p.1
def InR (n:Nat)(l:List (List UInt8×Int)):Prop:=∀p∈l,0≤p.2∧p.2≤(n:Nat)
def SgE (n:Nat)(l:List (List UInt8×Int))(e:Int):Prop:=(e=13∧¬Names l)∨(e=4∧Names l∧¬Ordered l l.length)∨(e=1∧Names l∧Ordered l l.length∧¬InR n l)
def SgO (n:Nat)(l:List (List UInt8×Int)):Prop:=Names l∧Ordered l l.length∧InR n l
def rawN (l:List (List UInt8×Int)):List Nat:=l.map fun p=>p.2.toNat
theorem qQa {xs:List Nat}{us:List Value}{k x:Nat}(hx:xs[k]?=some x)(hu:k<us.length):bX (idC (xs.take k)++us.drop k) k [.int .i64 (x:Nat)]=idC (xs.take (k+1))++us.drop (k+1):=by
 have hk:=(List.getElem?_eq_some_iff.1 hx).1
 have e1:us.drop k=us[k]::us.drop (k+1):=List.drop_eq_getElem_cons hu
 have e2:(idC (xs.take k)).length=k:=by simp[idC];omega
 have e3:xs.take (k+1)=xs.take k++[x]:=by rw[List.take_add_one,hx];rfl
 have:=sm_0 (pre:=idC (xs.take k)) (x0:=us[k]) (r:=us.drop (k+1)) (v:= .int .i64 (x:Nat))
 rw[e2]at this
 rw[e1,this,e3,lT]
 simp[idC]
theorem qMs {l:List (List UInt8×Int)}(h:0<l.length):nlC l≠[]:=fun e=>by
 have:=tX l
 rw[e]at this
 simp at this
 omega
theorem qEp (hE:Seat E)(hB:Base E.w0){l:List (List UInt8×Int)}{a:Option Addr}{c:Nat}{q:HP}(hq:Rdb E.w0 a (nlC l) q)(hn:l.length≤1000)
  (hl:∀p∈l,0≤p.2→p.2≤Es.length→len (rls Es) p.2.toNat≤256) (hroom:Es.length+512*l.length≤most) (hk:Kn (rls Es) f):
  Ct E 28 [uPt m,.slice a l.length c] [cells pp [uPt s,uPt tb] 97,tabP tb s (rls Es),bR s most Es,cells m [uPt pp,.map (some bm)] 93,mapF bm .i64 f,q]
   (fun v Q=>(∃e,SgE Es.length l e∧v= .tuple #[.pointer none,.slice none 0 0,.iface 58 (.int .i64 e)]∧Q=[cells pp [uPt s,uPt tb] 97,tabP tb s (rls Es),bR s most Es,cells m [uPt pp,.map (some bm)] 93,mapF bm .i64 f,q])∨
    ∃M f' ys p' c',SgO Es.length l∧v= .tuple #[uPt s,.slice p' l.length c',.nilIface]∧M.length≤512*l.length∧Kn (rls (Es++M)) f'∧ys.length=l.length∧SigL (rls (Es++M)) (rawN l) ys∧Q=[cells pp [uPt s,uPt tb] 97,tabP tb s (rls (Es++M)),bR s most (Es++M),cells m [uPt pp,.map (some bm)] 93,mapF bm .i64 f',q,sl p' c' 44 1 l.length (idC ys)]):=by
 refine bO (hE.fn Tryz.func28) O O O (fun R=>?_)
 simp only[dU,uV,uW]
 refine gg10 ?_
 refine uX (jC (m:=m) (pp:=pp) (bm:=bm) hE) O ?_
 rintro _ _⟨rfl,rfl⟩
 simp only[uV,uW]
 refine uX (gK hE) O ?_
 rintro _ _⟨rfl,rfl⟩
 simp only[uV,uW]
 refine gg22 ?_
 refine eZ (fun k:Nat=>[(0,uPt m),(1,.slice a l.length c),(7,uPt s),(22,.slice a l.length c),(23,.int .i64 (l.length:Nat)),(24,.int .i64 (k:Nat))]) (fun k=>[cells pp [uPt s,uPt tb] 97,tabP tb s (rls Es),bR s most Es,cells m [uPt pp,.map (some bm)] 93,mapF bm .i64 f,q,R]) (fun k=>l.length-k) (fun k=>k≤l.length∧∀j p,j<k→l[j]?=some p→ValidN p.1) 0 ⟨Nat.zero_le _,fun j p h=>by omega⟩ ⟨rfl,rfl,rfl,rfl,rfl,rfl,trivial⟩ uI ?_
 rintro k⟨hk1,hall⟩
 refine gg6 ?_
 refine bE O (fun h=>?_) (fun h=>?_)
 ·have hkl:k<l.length:=oO
  obtain⟨p,hp⟩:∃p,l[k]?=some p:=⟨_,List.getElem?_eq_getElem hkl⟩
  have hpm:=List.mem_of_getElem? hp
  obtain⟨g,o,rfl,hq'⟩:=hq (qMs oO)
  have fm:=qKp hp
  refine gg7 ?_
  apply aA
  ·(apply dL rfl (hE.t rfl) rfl (by assumption);(focus((repeat constructor);done));(focus exact fm);(focus rfl);(focus omega))
  ·rfl
  refine uU (dA (hE.t O) (fun b9=>?_))
  refine gg7 ?_
  refine uX (rM (bs:=p.1) hE) O ?_
  rintro _ _⟨rfl,rfl⟩
  simp only[uV,uW]
  refine gg3 ?_
  refine qUs O (fun hv=>?_) (fun hv=>?_)
  ·refine gg14 ?_
   exact uZ O (.tmp O (.tmp O (.tmp O .nil))) (.inl ⟨13,.inl ⟨O,fun hN=>hv (hN p hpm)⟩,O,O⟩)
  refine gg7 ?_
  refine bS (ι:=Nat) (j:=k+1) ⟨oO,fun j p' hj hjp=>?_⟩ oO ⟨O,O,O,O,O,congrArg some (bW oO),trivial⟩ uI
  rcases Nat.lt_or_ge j k with h'|h'
  ·exact hall j p' h' hjp
  obtain rfl:j=k:=by omega
  rw[hp]at hjp
  cases hjp
  exact hv
 have hNames:Names l:=fun p hp=>by
  obtain⟨j,hj⟩:=List.getElem?_of_mem hp
  exact hall j p (by have:=(List.getElem?_eq_some_iff.1 hj).1;omega) hj
 clear hall
 refine gg14 ?_
 refine eZ (fun k:Nat=>[(0,uPt m),(1,.slice a l.length c),(7,uPt s),(35,.int .i64 (l.length:Nat)),(36,.int .i64 (k:Nat))]) (fun k=>[cells pp [uPt s,uPt tb] 97,tabP tb s (rls Es),bR s most Es,cells m [uPt pp,.map (some bm)] 93,mapF bm .i64 f,q,R]) (fun k=>l.length-k) (fun k=>k≤l.length∧Ordered l k) 0 ⟨Nat.zero_le _,fun j p q h=>by omega⟩ ⟨rfl,rfl,rfl,rfl,rfl,trivial⟩ uI ?_
 rintro k⟨hk1,hord⟩
 refine gg6 ?_
 refine bE O (fun h=>?_) (fun h=>?_)
 ·have hkl:k<l.length:=oO
  obtain⟨p,hp⟩:∃p,l[k]?=some p:=⟨_,List.getElem?_eq_getElem hkl⟩
  obtain⟨g,o,rfl,hq'⟩:=hq (qMs oO)
  have f0:=(qIf hp).1
  refine gg15 ?_
  refine dY 41 O (fun h0=>?_) (fun h0=>?_)
  ·obtain⟨k,rfl⟩:∃k',k=k'+1:=⟨k-1,oO⟩
   obtain⟨p0,hp0⟩:∃p,l[k]?=some p:=⟨_,List.getElem?_eq_getElem oO⟩
   have f1:=(qIf hp0).1
   refine gg23 ?_
   refine uB (qGu O O) ?_
   refine gg3 ?_
   refine w_eq 54 (.bool (!Op.bytesLess p0.1 p.1)) O (congrArg Value.bool qBa) ?_
   refine xC O (fun hv=>?_) (fun hv=>?_)
   ·refine gg14 ?_
    apply cB
    ·rfl
    ·(apply Rs.tmp rfl;apply Rs.tmp rfl;apply Rs.tmp rfl;exact Rs.nil)
    ·refine .inl ⟨4,.inr (.inl ⟨O,hNames,fun hN=>?_⟩),O,O⟩
     have:=hN k p0 p oO hp0 hp
     rw[this]at hv
     cases hv
    exact uI
   refine gg7 ?_
   refine bS (ι:=Nat) (j:=k+1+1) ⟨oO,fun j x y hj hx hy=>?_⟩ oO ⟨O,O,O,O,congrArg some (bW oO),trivial⟩ uI
   rcases Nat.lt_or_ge (j+1) (k+1)with h'|h'
   ·exact hord j x y h' hx hy
   obtain rfl:j=k:=by omega
   rw[hp0]at hx
   rw[hp]at hy
   cases hx
   cases hy
   simpa using hv
  obtain rfl:k=0:=by omega
  refine gg23 ?_
  refine bS (ι:=Nat) (j:=1) ⟨oO,fun j x y hj hx hy=>by omega⟩ oO ⟨rfl,rfl,rfl,rfl,congrArg some (bW oO),trivial⟩ uI
 obtain rfl:k=l.length:=by omega
 refine gg9 ?_
 refine uU ?_
 refine ld_makeN (hE.t O) (hE.t O) O oO (by(unfold maxLen;omega)) (fun b59 us59 hu59=>?_)
 refine gg12 ?_
 have hrl:(rawN l).length=l.length:=List.length_map _
 refine eZ (fun k:Nat=>[(0,uPt m),(7,uPt s),(11,.slice (some ⟨b59,0,none⟩) l.length l.length),(60,.slice a l.length c),(61,.int .i64 (l.length:Nat)),(62,.int .i64 (k:Nat))]) (fun k=>[cells pp [uPt s,uPt tb] 97,tabP tb s (rls Es),bR s most Es,cells m [uPt pp,.map (some bm)] 93,mapF bm .i64 f,q,sl (some ⟨b59,0,none⟩) l.length 44 1 l.length (idC ((rawN l).take k)++us59.drop k),R]) (fun k=>l.length-k) (fun k=>k≤l.length∧∀j p,j<k→l[j]?=some p→0≤p.2∧p.2≤(Es.length:Nat)) 0 ⟨Nat.zero_le _,fun j p h=>by omega⟩ ⟨rfl,rfl,rfl,rfl,rfl,rfl,trivial⟩ uI ?_
 rintro k⟨hk1,hall⟩
 refine gg6 ?_
 refine bE O (fun h=>?_) (fun h=>?_)
 ·have hkl:k<l.length:=oO
  obtain⟨p,hp⟩:∃p,l[k]?=some p:=⟨_,List.getElem?_eq_getElem hkl⟩
  have hpm:=List.mem_of_getElem? hp
  obtain⟨g,o,rfl,hq'⟩:=hq (qMs oO)
  have fm:=qKp hp
  refine gg8 ?_
  apply aA
  ·(apply dL rfl (hE.t rfl) rfl (by assumption);(focus((repeat constructor);done));(focus exact fm);(focus rfl);(focus omega))
  ·rfl
  refine uU (dA (hE.t O) (fun b13=>?_))
  refine gg6 ?_
  refine uH ([cells b13 [.string ⟨⟨p.1⟩⟩,.int .i64 p.2] 53]) ?_
  refine gg4 ?_
  refine qEs 70 O (fun h1=>?_) (fun h1=>?_)
  ·refine uR 4 O O O O ?_
   refine gg23 ?_
   exact uZ O (.tmp O (.tmp O (.tmp O .nil))) (.inl ⟨1,.inr (.inr ⟨O,hNames,hord,fun hI=>by have:=(hI p hpm).1;omega⟩),rfl,rfl⟩)
  refine uO 4 O O O (uBf O) ?_
  refine gg2 ?_
  apply qAe 7 O O O oK O
  refine uC (vU hE) O ?_
  rintro _ _⟨rfl,rfl⟩
  simp only[uV,uW]
  refine uE ?_
  refine gg4 ?_
  refine bE O (fun h2=>?_) (fun h2=>?_)
  ·refine gg15 ?_
   exact uZ O (.tmp O (.tmp O (.tmp O .nil))) (.inl ⟨1,.inr (.inr ⟨O,hNames,hord,fun hI=>by have:=(hI p hpm).2;omega⟩),rfl,rfl⟩)
  refine gg7 ?_
  refine l_eq 81 (.int .i64 (p.2.toNat:Nat)) O (bW oO) ?_
  refine gg1 ?_
  refine l_eq 82 (.pointer (some ⟨b59,k,none⟩)) O (by simp) ?_
  refine gg4 ?_
  have hrk:(rawN l)[k]?=some p.2.toNat:=by unfold rawN;rw[List.getElem?_map,hp];rfl
  simp only[bP]
  rw[qQa hrk oO]
  refine gg4 ?_
  refine bS (ι:=Nat) (j:=k+1) ⟨oO,fun j p' hj hjp=>?_⟩ oO ⟨O,O,O,O,O,congrArg some (bW oO),trivial⟩ uI
  rcases Nat.lt_or_ge j k with h'|h'
  ·exact hall j p' h' hjp
  obtain rfl:j=k:=by omega
  rw[hp]at hjp
  cases hjp
  exact⟨oO,oO⟩
 obtain rfl:k=l.length:=by omega
 have hIn:InR Es.length l:=fun p hp=>by
  obtain⟨j,hj⟩:=List.getElem?_of_mem hp
  exact hall j p (List.getElem?_eq_some_iff.1 hj).1 hj
 have hxs:∀x∈rawN l,x≤Es.length∧len (rls Es) x≤256:=fun x hx=>by
  obtain⟨p,hp,rfl⟩:=List.mem_map.1 hx
  have:=hIn p hp
  exact⟨oO,hl p hp this.1 this.2⟩
 have hv:idC ((rawN l).take l.length)++us59.drop l.length=idC (rawN l):=by
  rw[List.take_of_length_le oO,List.drop_eq_nil_of_le oO,List.append_nil]
 rw[hv]
 refine gg9 ?_
 refine uX (ct_AllN (s:=s) (tb:=tb) (most:=most) (f:=f) (m:=m) (pp:=pp) (bm:=bm) hE hB hrl hxs hn hroom hk) O ?_
 rintro _ _⟨M,f',ys,p',c',rfl,hM,hkn,hyl,hsl,rfl⟩
 simp only[uV,uW]
 refine gg27 ?_
 exact uZ O (.tmp O (.tmp O (.tmp O .nil))) (.inr ⟨M,f',ys,p',c',⟨hNames,hord,hIn⟩,O,hM,hkn,hyl,hsl,O⟩)
end
section
variable {E:Env}{Es:List Ent}{pp tb s most m bm:Nat}{f:Int→Option Value}
theorem qTs {st:List (Nat×Bool)}{x:Nat}{b:Bool}:(stC ((x,b)::st))[(stC st).length]?=some (.int .i64 (x:Nat))∧(stC ((x,b)::st))[(stC st).length+1]?=some (.bool b):=⟨ap_0,ap_1⟩
theorem st_ptr {st:List (Nat×Bool)}{g n:Nat}(h:n=st.length+1):(.pointer (some ⟨g,0+(((n:Nat):Int)-1).toNat*2,none⟩):Value)= .pointer (some ⟨g,(stC st).length,none⟩):=by
 rw[uG,show 0+(((n:Nat):Int)-1).toNat*2=st.length*2 by omega]
def AccOk (L:List Rl)(acc:List Nat):Prop:=acc.Nodup∧∀y∈acc,1≤y∧y≤L.length
theorem AccOk.len {L:List Rl}{acc:List Nat}(h:AccOk L acc):acc.length≤L.length:=by
 have:=qMv (B:=(List.range L.length).map (· +1)) h.1 (fun x hx=>by
  have:=h.2 x hx
  exact List.mem_map.2 ⟨x-1,List.mem_range.2 oO,oO⟩)
 simpa using this
theorem AccOk.visits {L:List Rl}(hw:Wf L){xs:List Nat}(hx:∀x∈xs,x≤L.length):AccOk L (dD L xs []):=by
 have:=qD hw L.length xs [] hx
 refine⟨this.2.2 (by simp),fun y hy=>?_⟩
 rcases this.1 y hy with h| h
 ·simp at h
 exact⟨h.1,h.2.2⟩
theorem AccOk.snoc {L:List Rl}{acc:List Nat}(h:AccOk L acc){x:Nat}(hx:x≤L.length)(hn:¬(x=0∨x∈acc)):AccOk L (acc++[x]):=by
 refine⟨List.nodup_append.2 ⟨h.1,by simp,fun a ha b hb=>?_⟩,fun y hy=>?_⟩
 ·simp at hb
  subst hb
  rintro rfl
  exact hn (.inr ha)
 rcases List.mem_append.1 hy with hy|hy
 ·exact h.2 y hy
 simp at hy
 subst hy
 exact⟨Nat.pos_of_ne_zero fun e=>hn (.inl e),hx⟩
structure LoG where
 k:Nat
 acc:List Nat
 p:Option Addr
 c:Nat
 ps:Option Addr
 cs:Nat
structure LiG where
 st:List (Nat×Bool)
 acc:List Nat
 p:Option Addr
 c:Nat
 ps:Option Addr
 cs:Nat
structure LkG where
 j:Nat
 ps:Option Addr
 cs:Nat
theorem qOq (hE:Seat E){xs:List Nat}{n:Nat}(hxn:xs.length=n){a:Option Addr}{ca:Nat}(hx:∀x∈xs,x≤Es.length∧len (rls Es) x≤256) (hn:n≤1000):
  Ct E 29 [uPt s,.slice a n ca] [bR s most Es,sl a ca 44 1 n (idC xs)]
   (fun v Q=>∃p c,v= .slice p (dD (rls Es) xs []).length c∧Q=[bR s most Es,sl a ca 44 1 n (idC xs),sl p c 44 1 (dD (rls Es) xs []).length (idC (dD (rls Es) xs []))]):=by
 refine eQ (p:=bR s most Es) uK (fun _ h=>dR h) (fun hsay=>?_)
 have hmr:fB=1048576:=rfl
 have hLl:=bQ Es
 have hx1:∀x∈xs,x≤(rls Es).length:=fun x h=>by have:=(hx x h).1;omega
 refine bO (hE.fn Tryz.func29) O O O (fun R=>?_)
 simp only[dU,uV,uW]
 refine gg17 ?_
 refine uU ?_
 refine rZ .i64 (fun b15=>?_)
 refine uU ?_
 apply qIb (kt:=44) (et:=4) (by rw[hE.P];kernel_rfl) (by rw[hE.P];kernel_rfl) O O O
 ·exact uK
 refine gg13 ?_
 rw[qSj]
 refine eZ (fun q:LoG=>[(0,uPt s),(5,.slice q.p (q.acc).length q.c),(6,.slice q.ps (([]:List (Nat×Bool))).length q.cs),(7,.map (some b15)),(17,.slice a n ca),(18,.int .i64 (n:Nat)),(19,.int .i64 (q.k:Nat))]) (fun q=>[bR s most Es,sl a ca 44 1 n (idC xs),mapF b15 .i64 (lsF q.acc),sl q.p q.c 44 1 (q.acc).length (idC (q.acc)),sl q.ps q.cs 133 2 (([]:List (Nat×Bool))).length (stC (([]:List (Nat×Bool)))),R]) (fun q=>n-q.k) (fun q=>q.k≤n∧q.acc=dD (rls Es) (xs.take q.k) []) ⟨0,[],none,0,none,0⟩ ⟨Nat.zero_le _,O⟩ ⟨O,O,O,O,O,O,O,trivial⟩ ?_ ?_
 ·apply cZ (iP (t:=44) (sz:=1))
  apply cZ (iP (t:=133) (sz:=2))
  exact uI
 rintro⟨k,acc,p,c,ps,cs⟩⟨hk,hacc⟩
 simp only at hk hacc ⊢
 have hnl:([]:List (Nat×Bool)).length=0:=rfl
 refine gg6 ?_
 refine bE O (fun h=>?_) (fun h=>?_)
 ·have hlt:k<xs.length:=oO
  obtain⟨x,hxi⟩:∃x,xs[k]?=some x:=⟨_,List.getElem?_eq_getElem hlt⟩
  have hxx:=hx x (List.mem_of_getElem? hxi)
  have hwm:=qUu hsay.1 (show x≤(rls Es).length by omega) hxx.2
  have htk:xs.take (k+1)=xs.take k++[x]:=by rw[List.take_add_one,hxi];rfl
  have hvs:dD (rls Es) (xs.take (k+1)) []=visit (rls Es) x acc:=by rw[htk,xB,hacc];rfl
  have hao:AccOk (rls Es) acc:=by rw[hacc];exact AccOk.visits hsay.1 (fun y hy=>hx1 y (List.mem_of_mem_take hy))
  refine iJ (p:=sl a ca 44 1 n (idC xs)) uK (fun _ h=>eU h oO) ?_
  rintro⟨gx,rfl⟩
  have f0:=fP hxi (0+((k:Nat):Int).toNat) oO
  have f1:=fP hxi (((k:Nat):Int).toNat) oO
  refine gg16 ?_
  refine uU ?_
  refine aU (hE.t O) (hE.t O) O O O (fun b26=>?_)
  refine uU ?_
  apply bU (hE.t O) (hE.t O) O O O
  ·exact uK
  ·exact uK
  ·rfl
  ·rfl
  ·omega
  ·omega
  ·(unfold maxLen;omega)
  intro g27 c27 n27 x27 hn27 hx27
  refine gg4 ?_
  obtain rfl:x27=stC [(x,false)]:=by rw[hx27];rfl
  subst hn27
  refine eZ (fun q:LiG=>[(0,uPt s),(5,.slice q.p (q.acc).length q.c),(6,.slice q.ps (q.st).length q.cs),(7,.map (some b15)),(17,.slice (some ⟨gx,0,none⟩) n ca),(18,.int .i64 (n:Nat)),(19,.int .i64 (k:Nat))]) (fun q=>[bR s most Es,sl (some ⟨gx,0,none⟩) ca 44 1 n (idC xs),mapF b15 .i64 (lsF q.acc),sl q.p q.c 44 1 (q.acc).length (idC (q.acc)),sl q.ps q.cs 133 2 (q.st).length (stC (q.st)),R]) (fun q=>rF (rls Es) q.st) (fun q=>runS (rls Es) q.st q.acc=dD (rls Es) (xs.take (k+1)) []∧StOk (rls Es) q.st∧rF (rls Es) q.st≤1025∧AccOk (rls Es) q.acc) ⟨[(x,false)],acc,p,c,some ⟨g27,0,none⟩,c27⟩ ⟨hvs.symm,fun q hq=>by
   obtain rfl:=List.mem_singleton.1 hq
   exact⟨by simp only;omega,fun h=>by cases h⟩,by simp only[rF];omega,hao⟩ ⟨rfl,rfl,rfl,rfl,rfl,rfl,rfl,trivial⟩ uI ?_
  clear hao hvs hacc
  rintro⟨st,acc,p,c,ps,cs⟩⟨hrun,hst,hwk,hao⟩
  simp only at hrun hst hwk hao ⊢
  have hal:=hao.len
  have hsl:=qBy (rls Es) st
  refine gg8 ?_
  refine bE O (fun h2=>?_) (fun h2=>?_)
  ·obtain⟨y,b,st,rfl⟩:∃y b st',st=(y,b)::st':=by
    cases st with
    |nil=>simp at h2
    |cons q st=>exact⟨q.1,q.2,st,rfl⟩
   have hyy:=hst (y,b) (by simp)
   simp only at hyy
   have hstl:((y,b)::st).length=st.length+1:=rfl
   have hws:=qDw (rls Es) y b st
   obtain⟨f2,f3⟩:=qTs (st:=st) (x:=y) (b:=b)
   refine iJ (p:=sl ps cs 133 2 ((y,b)::st).length (stC ((y,b)::st))) uK (fun _ h=>And.intro (eU h oO) (jK h).1) ?_
   rintro⟨⟨gs,rfl⟩,hcap⟩
   refine gg10 ?_
   refine l_eq 35 _ O (st_ptr (st:=st) hstl) ?_
   refine gg1 ?_
   refine uU (dA (hE.t O) (fun b10=>?_))
   refine gg9 ?_
   refine uB (fU st.length O O (hE.t O) oO oO) ?_
   refine gg3 ?_
   refine jE (cO (p:=sl (some ⟨gs,0,none⟩) cs 133 2 ((y,b)::st).length (stC ((y,b)::st))) (p':=sl (some ⟨gs,0,none⟩) cs 133 2 st.length (stC st)) uK (lS oO (by rw[←uG];simp[stC]) (by simp))) ?_
   by_cases hin:y=0∨y∈acc
   ·have hf:=lsF_in hin
    refine gg6 ?_
    refine uB (kQ (kt:=44) (et:=4) (z:= .bool false) (by rw[hE.P];kernel_rfl) (by rw[hE.P];kernel_rfl) (fun w=>by rw[hE.P];kernel_rfl) rfl rfl uK (by assumption)) ?_
    refine gg2 ?_
    refine w_eq 45 (.bool true) O O ?_
    refine gg4 ?_
    refine bS (ι:=LiG) (j:=⟨st,acc,p,c,some ⟨gs,0,none⟩,cs⟩) ⟨by rw[←qIv hst hin];exact hrun,hst.tail,by simp only;omega,hao⟩ hws ⟨rfl,rfl,rfl,rfl,rfl,rfl,rfl,trivial⟩ ?_
    exact uI
   have hf:=qSk hin
   refine gg6 ?_
   refine uB (kQ (kt:=44) (et:=4) (z:= .bool false) (by rw[hE.P];kernel_rfl) (by rw[hE.P];kernel_rfl) (fun w=>by rw[hE.P];kernel_rfl) rfl rfl uK (by assumption)) ?_
   refine gg2 ?_
   refine w_eq 45 (.bool false) O O ?_
   refine gg10 ?_
   refine xC O (fun hb=>?_) (fun hb=>?_)
   ·subst hb
    refine gg5 ?_
    refine uU ?_
    apply mJ (kt:=44) (et:=4) (by rw[hE.P];kernel_rfl) (by rw[hE.P];kernel_rfl) O O O
    ·exact uK
    refine gg2 ?_
    rw[qSl]
    refine gg5 ?_
    refine uU ?_
    refine aU (hE.t O) (hE.t O) O O O (fun b54=>?_)
    refine uU ?_
    apply bU (hE.t O) (hE.t O) O O O
    ·exact uK
    ·exact uK
    ·rfl
    ·rfl
    ·omega
    ·omega
    ·(unfold maxLen;omega)
    intro g55 c55 n55 x55 hn55 hx55
    refine gg6 ?_
    obtain rfl:x55=idC (acc++[y]):=by rw[hx55,lT];rfl
    have hal2:(acc++[y]).length=acc.length+1:=by simp
    subst hn55
    refine bS (ι:=LiG) (j:=⟨st,acc++[y],some ⟨g55,0,none⟩,c55,some ⟨gs,0,none⟩,cs⟩) ⟨by rw[←qIt hin];exact hrun,hst.tail,by simp only;omega,hao.snoc oO hin⟩ hws ⟨rfl,by simp only[hal2];rfl,rfl,rfl,rfl,rfl,rfl,trivial⟩ ?_
    simp only[hal2]
    exact uI
   subst hb
   obtain⟨i,rfl⟩:∃i,y=i+1:=⟨y-1,by have:y≠0:=fun e=>hin (.inl e);omega⟩
   have hent:Es[i]?=some (Es[i]'oO):=List.getElem?_eq_getElem oO
   generalize Es[i]'oO=en at hent
   have hri:=sK hent
   have hkk:=qFc en.r
   have hwr:=qJn hsay.1 hri st
   have hrr:=qIu hsay.1 hri (fun h=>hin (.inr h)) st
   have hso:=qJg hsay.1 hri hst.tail
   refine gg8 ?_
   refine uU ?_
   refine aU (hE.t O) (hE.t O) O O O (fun b60=>?_)
   refine uU ?_
   apply bU (hE.t O) (hE.t O) O O O
   ·exact uK
   ·exact uK
   ·rfl
   ·rfl
   ·omega
   ·omega
   ·(unfold maxLen;omega)
   intro g61 c61 n61 x61 hn61 hx61
   refine gg8 ?_
   obtain rfl:x61=stC ((i+1,true)::st):=by rw[hx61];rfl
   subst hn61
   refine uX (nK hE hent) O ?_
   rintro _ _⟨rfl,rfl⟩
   simp only[uV,uW]
   refine gg3 ?_
   refine uU (dA (hE.t O) (fun b11=>?_))
   refine gg7 ?_
   refine uX (qEn hE en.r) O ?_
   rintro _ _⟨pk,ck,rfl,rfl⟩
   simp only[uV,uW]
   refine gg12 ?_
   refine eZ (fun q:LkG=>[(0,uPt s),(5,.slice p acc.length c),(6,.slice q.ps (((kids en.r).drop q.j).map (·,false)++(i+1,true)::st).length q.cs),(7,.map (some b15)),(13,.slice pk (kids en.r).length ck),(14,.int .i64 ((q.j:Nat)-1:Int)),(17,.slice (some ⟨gx,0,none⟩) n ca),(18,.int .i64 (n:Nat)),(19,.int .i64 (k:Nat))])
    (fun q=>[bR s most Es,sl (some ⟨gx,0,none⟩) ca 44 1 n (idC xs),mapF b15 .i64 (lsF acc),sl p c 44 1 acc.length (idC acc),sl q.ps q.cs 133 2 (((kids en.r).drop q.j).map (·,false)++(i+1,true)::st).length (stC (((kids en.r).drop q.j).map (·,false)++(i+1,true)::st)),sl pk ck 44 1 (kids en.r).length (idC (kids en.r)),R]) (fun q=>q.j) (fun q=>q.j≤(kids en.r).length) ⟨(kids en.r).length,some ⟨g61,0,none⟩,c61⟩ (Nat.le_refl _) ⟨rfl,rfl,by simp only[List.drop_length];rfl,rfl,rfl,rfl,rfl,rfl,rfl,trivial⟩ ?_ ?_
   ·simp only[List.drop_length,List.map_nil,List.nil_append,List.length_cons]
    exact uI
   rintro⟨j,ps,cs⟩hj
   simp only at hj ⊢
   have hjl:(((kids en.r).drop j).map (·,false)++(i+1,true)::st).length=(kids en.r).length-j+1+st.length:=by simp;omega
   refine gg7 ?_
   refine bE O (fun h4=>?_) (fun h4=>?_)
   ·obtain⟨j,rfl⟩:∃j',j=j'+1:=⟨j-1,oO⟩
    obtain⟨z,hz⟩:∃z,(kids en.r)[j]?=some z:=⟨_,List.getElem?_eq_getElem oO⟩
    have f4:=fP hz j O
    refine iJ (p:=sl pk ck 44 1 (kids en.r).length (idC (kids en.r))) uK (fun _ h=>eU h oO) ?_
    rintro⟨gk,rfl⟩
    refine gg9 ?_
    refine l_eq 81 (.pointer (some ⟨gk,j,none⟩)) O (by congr 3;omega) ?_
    refine gg2 ?_
    refine uU ?_
    refine aU (hE.t O) (hE.t O) O O O (fun b84=>?_)
    refine uU ?_
    apply bU (hE.t O) (hE.t O) O O O
    ·exact uK
    ·exact uK
    ·rfl
    ·rfl
    ·omega
    ·omega
    ·(unfold maxLen;omega)
    intro g85 c85 n85 x85 hn85 hx85
    refine gg9 ?_
    have hdr:((kids en.r).drop j).map (·,false)=(z,false)::((kids en.r).drop (j+1)).map (·,false):=by rw[qM hz];rfl
    obtain rfl:x85=stC (((kids en.r).drop j).map (·,false)++(i+1,true)::st):=by rw[hx85,hdr];rfl
    have hjl2:(((kids en.r).drop j).map (·,false)++(i+1,true)::st).length=(((kids en.r).drop (j+1)).map (·,false)++(i+1,true)::st).length+1:=by rw[hdr];rfl
    subst hn85
    refine bS (ι:=LkG) (j:=⟨j,some ⟨g85,0,none⟩,c85⟩) (by simp only;omega) (by simp only;omega) ⟨O,O,by simp only[hjl2];rfl,rfl,rfl,congrArg some (bW (by simp only;omega)),rfl,rfl,rfl,trivial⟩ ?_
    simp only[hjl2]
    exact uI
   obtain rfl:j=0:=by omega
   refine gg5 ?_
   refine bS (ι:=LiG) (j:=⟨qNl en.r (i+1) st,acc,p,c,ps,cs⟩) ⟨by rw[←hrun,hrr];rfl,hso,Nat.le_trans (Nat.le_of_lt hwr) hwk,hao⟩ hwr ⟨rfl,rfl,rfl,rfl,rfl,rfl,rfl,trivial⟩ ?_
   exact uI
  obtain rfl:st=[]:=List.eq_nil_of_length_eq_zero oO
  refine gg10 ?_
  refine bS (ι:=LoG) (j:=⟨k+1,acc,p,c,ps,cs⟩) ⟨by simp only;omega,hrun⟩ (by simp only;omega) ⟨rfl,rfl,rfl,rfl,rfl,rfl,congrArg some (bW (by simp only;omega)),trivial⟩ ?_
  exact uI
 obtain rfl:k=n:=by omega
 have hall:xs.take k=xs:=List.take_of_length_le oO
 rw[hall]at hacc
 subst hacc
 refine gg12 ?_
 exact uZ O (.tmp O .nil) ⟨p,c,O,O⟩
end
section
variable {E:Env}{Es:List Ent}{pp tb s most m bm:Nat}{f:Int→Option Value}
theorem qJu (hE:Seat E){g c:Nat}{bs:List UInt8}(hn:bs.length≤1099511627776):Ct E 33 [.slice (some ⟨g,0,none⟩) bs.length c] [ro g (byC bs)] (fun v Q=>∃g' c',v= .slice (some ⟨g',0,none⟩) (fZ bs).length c'∧Q=[ro g (byC bs),sl (some ⟨g',0,none⟩) c' 5 1 (fZ bs).length (byC (fZ bs))]):=by
 have h10:=fC (n:=bs.length) oO
 have hp:=jR bs.length
 have hbl:=rG bs
 have hbb:(fZ bs).length=(vput bs.length).length+bs.length:=List.length_append
 have hb1:((vput bs.length).length+(byC bs).length)*1≤140737488355328:=oO
 have hb2:(vput bs.length).length+(byC bs).length≤maxLen:=by unfold maxLen;omega
 refine bO (hE.fn Tryz.func33) O O O (fun R=>?_)
 simp only[dU,uV,uW]
 refine gg10 ?_
 refine uX (rP (n:=bs.length) hE oO) O ?_
 rintro _ _⟨g2,c2,rfl,rfl⟩
 simp only[uV,uW]
 refine gg1 ?_
 refine uU ?_
 refine wN (us:=byC bs) (q:=ro g (byC bs)) (hE.t O) (hE.t O) O O O hbl.symm (fun _=>⟨g,0,O,rd_ro⟩) uK uK (jB bs) hb1 hb2 (fun p1 c1 m1 x1 hm1 hx1=>?_)
 obtain rfl:m1=(fZ bs).length:=by omega
 obtain rfl:x1=byC (fZ bs):=hx1.trans (gL _ _).symm
 refine lV (p:=sl p1 c1 5 1 (fZ bs).length (byC (fZ bs))) uK (fun _ h=>eU h oO) ?_
 rintro⟨g',rfl⟩
 refine gg4 ?_
 exact uZ O (.tmp O .nil) ⟨g',c1,O,O⟩
theorem ys_ok {M:List Ent}{l:List (List UInt8×Int)}{ys:List Nat}(hl:∀p∈l,0≤p.2→p.2≤(Es.length:Nat)→Eg.len (rls Es) p.2.toNat≤256) (hI:InR Es.length l) (hyl:ys.length=l.length) (hs:SigL (rls (Es++M)) (rawN l) ys):∀y∈ys,y≤(Es++M).length∧Eg.len (rls (Es++M)) y≤256:=fun y hy=>by
 obtain⟨i,hi⟩:=List.getElem?_of_mem hy
 have hil:=(List.getElem?_eq_some_iff.1 hi).1
 obtain⟨p,hp⟩:∃p,l[i]?=some p:=⟨_,List.getElem?_eq_getElem oO⟩
 have hpm:=List.mem_of_getElem? hp
 have hx:(rawN l)[i]?=some p.2.toNat:=by unfold rawN;rw[List.getElem?_map,hp];rfl
 have h:=hs i _ y hx hi
 have hIp:=hI p hpm
 refine⟨by have:=h.2.2.1.1;rwa [bQ]at this,?_⟩
 unfold Eg.len
 rw[h.2.1,dB,gN _ (by rw[bQ];omega)]
 exact hl p hpm hIp.1 hIp.2
theorem nuF_at {ids:List Nat}{k x:Nat}(h:ids[k]?=some x)(hn:ids.Nodup):setF (nuF (ids.take k)) (x:Nat) (.int .i64 ((k+1:Nat):Int))=nuF (ids.take (k+1)):=by
 have hk:=(List.getElem?_eq_some_iff.1 h).1
 have e:(ids.take k).length=k:=by simp;omega
 have htk:ids.take (k+1)=ids.take k++[x]:=by rw[List.take_add_one,h];rfl
 have hx:x∉ids.take k:=fun hm=>by
  have:(ids.take k++[x]).Nodup:=htk▸hn.sublist (List.take_sublist _ _)
  exact(List.nodup_append.1 this).2.2 x hm x (by simp) O
 have:=nuF_set hx
 rw[e]at this
 rw[this,htk]
theorem qPq (I:List Nat)(r:Rl):(jP I r).kind=r.kind:=by cases r<;>rfl
theorem qPp (I:List Nat)(r:Rl):(jP I r).byte=r.byte:=by cases r<;>rfl
theorem vM (I:List Nat)(r:Rl):(jP I r).times=r.times:=by cases r<;>rfl
theorem qPr {I:List Nat}(h:0∉I)(r:Rl):(jP I r).left=numb I r.left:=by cases r<;>first |rfl|exact(gU.2 h).symm
theorem qKx {I:List Nat}(h:0∉I)(r:Rl):(jP I r).right=numb I r.right:=by cases r<;>first |rfl|exact(gU.2 h).symm
theorem qNa {I A:List Nat}{x n:Nat}{r:Rl}(hI:I=A++[x])(ho:r.ok n)(hk:∀k∈kids r,k∈A):(jP I r).ok (A.length+1)∧∀B,jP (I++B) r=jP I r:=by
 subst hI
 have key:∀k∈A,1≤numb (A++[x]) k∧numb (A++[x]) k≤A.length:=fun k hk=>by
  rw[qFn hk]
  have:=qX A k
  have:numb A k≠0:=fun e=>gU.1 e hk
  omega
 have app:∀B,∀k∈A,numb (A++[x]++B) k=numb (A++[x]) k:=fun B k hk=>qFn (by simp[hk])
 cases r with
 |letter b=>exact⟨trivial,fun _=>rfl⟩
 |pair a b=>
  have h1:=key a (hk a (by simp[kids]))
  have h2:=key b (hk b (by simp[kids]))
  refine⟨⟨h1.1,oO,h2.1,oO⟩,fun B=>?_⟩
  simp only[jP,app B a (hk a (by simp[kids])),app B b (hk b (by simp[kids]))]
 |power a k=>
  have h1:=key a (hk a (by simp[kids]))
  simp only[Rl.ok]at ho
  refine⟨⟨h1.1,oO,ho.2.2⟩,fun B=>?_⟩
  simp only[jP,app B a (hk a (by simp[kids]))]
theorem zN (i:Nat)(hi:i≤1099511627776)(r:Rl)(ht:r.times≤1152921504606846976):0<(rulB i r).length∧(rulB i r).length≤21:=by
 cases r with
 |letter b=>simp[rulB]
 |pair a b=>
  have h1:=fC (n:=i-a) oO
  have h2:=fC (n:=i-b) oO
  simp only[rulB,List.length_cons,List.length_append];omega
 |power a k=>
  simp only[Rl.times]at ht
  have h1:=fC (n:=i-a) oO
  have h2:=fC (n:=k-2) oO
  simp only[rulB,List.length_cons,List.length_append];omega
def nmY (l:List (List UInt8×Int))(ys:List Nat):List (List UInt8×Nat):=(l.map (·.1)).zip ys
theorem qRr (ids:List Nat)(A:List (List UInt8×Nat))(p:List UInt8×Nat):encN ids (A++[p])=encN ids A++fZ p.1++vput (numb ids p.2):=by simp[encN,fZ]
theorem nmY_take {l:List (List UInt8×Int)}{ys:List Nat}{k y:Nat}{p:List UInt8×Int}(hp:l[k]?=some p)(hy:ys[k]?=some y):(nmY l ys).take (k+1)=(nmY l ys).take k++[(p.1,y)]:=by
 have:(nmY l ys)[k]?=some (p.1,y):=by
  unfold nmY
  rw[List.getElem?_zip_eq_some]
  exact⟨by rw[List.getElem?_map,hp];rfl,hy⟩
 rw[List.take_add_one,this]
 rfl
end
section
variable {E:Env}{Es:List Ent}{pp tb s most m bm:Nat}{f:Int→Option Value}
structure EnG where
 k:Nat
 done:List UInt8
 g:Nat
 c:Nat
theorem qHb (hE:Seat E)(hB:Base E.w0){l:List (List UInt8×Int)}{a:Option Addr}{ca:Nat}{q:HP}(hq:Rdb E.w0 a (nlC l) q)(hn:l.length≤1000)
  (hl:∀p∈l,0≤p.2→p.2≤Es.length→Eg.len (rls Es) p.2.toNat≤256) (hroom:Es.length+512*l.length≤most) (hk:Kn (rls Es) f):
  Ct E 9 [uPt m,.slice a l.length ca] [cells pp [uPt s,uPt tb] 97,tabP tb s (rls Es),bR s most Es,cells m [uPt pp,.map (some bm)] 93,mapF bm .i64 f,q]
   (fun v Q=>(∃e,SgE Es.length l e∧v= .tuple #[.slice none 0 0,.iface 58 (.int .i64 e)]∧Q=[cells pp [uPt s,uPt tb] 97,tabP tb s (rls Es),bR s most Es,cells m [uPt pp,.map (some bm)] 93,mapF bm .i64 f,q])∨
    ∃M f' ys g c B,SgO Es.length l∧v= .tuple #[.slice (some ⟨g,0,none⟩) B.length c,.nilIface]∧B=encB (rls (Es++M)) (dD (rls (Es++M)) ys []) (nmY l ys)∧M.length≤512*l.length∧Kn (rls (Es++M)) f'∧ys.length=l.length∧SigL (rls (Es++M)) (rawN l) ys∧Q=[cells pp [uPt s,uPt tb] 97,tabP tb s (rls (Es++M)),bR s most (Es++M),cells m [uPt pp,.map (some bm)] 93,mapF bm .i64 f',q,sl (some ⟨g,0,none⟩) c 5 1 B.length (byC B)]):=by
 refine bO (hE.fn Tryz.func9) O O O (fun R=>?_)
 simp only[dU,uV,uW]
 refine gg10 ?_
 refine uX (qEp (s:=s) (tb:=tb) (most:=most) (f:=f) (m:=m) (pp:=pp) (bm:=bm) hE hB hq hn hl hroom hk) O ?_
 rintro _ _(⟨e,he,rfl,rfl⟩|⟨M,f',ys,p',c',ho,rfl,hM,hkn,hyl,hsl,rfl⟩)
 ·simp only[uV,uW]
  refine gg26 ?_
  exact uZ O (.tmp O (.tmp O .nil)) (.inl ⟨e,he,O,O⟩)
 have hyo:=ys_ok hl ho.2.2 hyl hsl
 simp only[uV,uW]
 refine gg23 ?_
 refine uX (qOq (s:=s) (most:=most) (Es:=Es++M) hE hyl hyo hn) O ?_
 rintro _ _⟨pl,cl,rfl,rfl⟩
 simp only[uV,uW]
 refine lV (p:=bR s most (Es++M)) uK (fun _ h=>dR h) (fun hsay=>?_)
 have hmr:fB=1048576:=rfl
 have hLl:=bQ (Es++M)
 have hao:AccOk (rls (Es++M)) (dD (rls (Es++M)) ys []):=AccOk.visits hsay.1 (fun y hy=>by have:=(hyo y hy).1;omega)
 have hord:=uQ hsay.1 ys [] (qKs _)
 obtain⟨ids,hids⟩:∃ids,ids=dD (rls (Es++M)) ys []:=⟨_,rfl⟩
 rw[←hids]at hao hord ⊢
 have hal:=hao.len
 have h0i:0∉ids:=fun h=>by have:=(hao.2 0 h).1;omega
 refine gg7 ?_
 refine uU ?_
 refine qPh .i64 (kt:=44) (et:=3) (by rw[hE.P];kernel_rfl) O (fun b35=>?_)
 refine gg3 ?_
 rw[nuF_nil]
 refine gg5 ?_
 refine uX (rP (n:=ids.length) hE oO) O ?_
 rintro _ _⟨g0,c0,rfl,rfl⟩
 simp only[uV,uW]
 have hv10:=fC (n:=ids.length) oO
 refine gg12 ?_
 refine eZ (fun x:EnG=>[(1,.slice a l.length ca),(6,uPt s),(7,.slice p' l.length c'),(10,.map (some b35)),(11,.slice (some ⟨x.g,0,none⟩) x.done.length x.c),(40,.slice pl ids.length cl),(41,.int .i64 (ids.length:Nat)),(42,.int .i64 (x.k:Nat))])
  (fun x=>[bR s most (Es++M),cells pp [uPt s,uPt tb] 97,tabP tb s (rls (Es++M)),cells m [uPt pp,.map (some bm)] 93,mapF bm .i64 f',q,sl p' c' 44 1 l.length (idC ys),mapF b35 .i64 (nuF (ids.take x.k)),sl (some ⟨x.g,0,none⟩) x.c 5 1 x.done.length (byC x.done),sl pl cl 44 1 ids.length (idC ids),R]) (fun x=>ids.length-x.k)
  (fun x=>x.k≤ids.length∧x.done=vput ids.length++encR (rls (Es++M)) ids x.k∧x.done.length≤10+21*x.k) ⟨0,vput ids.length,g0,c0⟩ ⟨Nat.zero_le _,by simp[encR],by simp only;omega⟩ ⟨rfl,rfl,rfl,rfl,rfl,rfl,rfl,rfl,trivial⟩ uI ?_
 rintro⟨k,done,g,c⟩⟨hk1,hdone,hdl⟩
 simp only at hk1 hdone hdl ⊢
 refine gg6 ?_
 refine bE O (fun h=>?_) (fun h=>?_)
 ·have hkl:k<ids.length:=oO
  obtain⟨x,hx⟩:∃x,ids[k]?=some x:=⟨_,List.getElem?_eq_getElem hkl⟩
  have hxx:=hao.2 x (List.mem_of_getElem? hx)
  obtain⟨i,rfl⟩:∃i,x=i+1:=⟨x-1,oO⟩
  have hent:(Es++M)[i]?=some ((Es++M)[i]'oO):=List.getElem?_eq_getElem oO
  generalize(Es++M)[i]'oO=en at hent
  have hri:=sK hent
  have hsplit:ids=ids.take k++(i+1)::ids.drop (k+1):=by
   have:=List.take_append_drop k ids
   rw[qM hx]at this
   exact this.symm
  have hkids:=hord _ _ _ _ hsplit hri
  have htk:ids.take (k+1)=ids.take k++[i+1]:=by rw[List.take_add_one,hx];rfl
  have htl:(ids.take k).length=k:=by simp;omega
  obtain⟨hro,hrn⟩:=qNa htk (hsay.1.ok _ _ hri) hkids
  rw[htl]at hro
  have hrn2:jP ids en.r=jP (ids.take (k+1)) en.r:=by
   have:=hrn (ids.drop (k+1))
   rwa [List.take_append_drop]at this
  have h0t:0∉ids.take (k+1):=fun h=>h0i (List.mem_of_mem_take h)
  have hrt:(jP (ids.take (k+1)) en.r).times≤1152921504606846976:=by
   rw[vM]
   have hsh:=hsay.1.short (i+1)
   have hmx:dC=1152921504606846976:=rfl
   have hok:=hsay.1.ok _ _ hri
   generalize en.r=r at hri hok ⊢
   cases r with
   |letter b=>simp[Rl.times]
   |pair a b=>simp[Rl.times]
   |power x t=>
    have e:=kL hri hok
    simp only[Rl.ok]at hok
    have h1:=hsay.1.pos x hok.1 oO
    have h2:t*1≤t*Eg.len (rls (Es++M)) x:=Nat.mul_le_mul_left _ h1
    simp only[Rl.times]
    have e2:Eg.len (rls (Es++M)) (i+1)=(txt (rls (Es++M)) (i+1)).length:=rfl
    have e3:t*Eg.len (rls (Es++M)) x=Eg.len (rls (Es++M)) (i+1):=by rw[e]
    omega
  have hrl:=zN (k+1) oO (jP (ids.take (k+1)) en.r) hrt
  refine iJ (p:=sl pl cl 44 1 ids.length (idC ids)) uK (fun _ h=>eU h oO) ?_
  rintro⟨gx,rfl⟩
  have f0:=fP hx (0+((k:Nat):Int).toNat) oO
  have f1:=fP hx (((k:Nat):Int).toNat) oO
  refine gg19 ?_
  refine l_eq 50 (.int .i64 ((k+1:Nat):Int)) O (bW oO) ?_
  refine uU ?_
  apply mJ (kt:=44) (et:=3) (by rw[hE.P];kernel_rfl) (by rw[hE.P];kernel_rfl) O O O
  ·exact uK
  refine gg2 ?_
  rw[nuF_at hx hao.1]
  refine gg4 ?_
  refine uX (nK hE hent) O ?_
  rintro _ _⟨rfl,rfl⟩
  simp only[uV,uW]
  have hf1:nuF (ids.take (k+1)) ((en.r.left:Nat):Int)=nuF (ids.take (k+1)) ((en.r.left:Nat):Int):=rfl
  have hf2:nuF (ids.take (k+1)) ((en.r.right:Nat):Int)=nuF (ids.take (k+1)) ((en.r.right:Nat):Int):=rfl
  refine gg3 ?_
  refine uU (dA (hE.t O) (fun b14=>?_))
  refine gg9 ?_
  refine uB (kQ (kt:=44) (et:=3) (z:= .int .i64 0) (by rw[hE.P];kernel_rfl) (by rw[hE.P];kernel_rfl) (fun w=>by rw[hE.P];kernel_rfl) rfl rfl uK (by assumption)) ?_
  refine l_eq 60 (.int .i64 (numb (ids.take (k+1)) en.r.left:Nat)) O (qKr _ _) ?_
  refine gg9 ?_
  refine uB (kQ (kt:=44) (et:=3) (z:= .int .i64 0) (by rw[hE.P];kernel_rfl) (by rw[hE.P];kernel_rfl) (fun w=>by rw[hE.P];kernel_rfl) rfl rfl uK (by assumption)) ?_
  refine l_eq 65 (.int .i64 (numb (ids.take (k+1)) en.r.right:Nat)) O (qKr _ _) ?_
  refine gg4 ?_
  refine jE (cO (p:=cells b14 [.int .i64 (en.r.kind:Nat),.int .u8 (en.r.byte:Nat),.int .i64 (numb (ids.take (k+1)) en.r.left:Nat),.int .i64 (numb (ids.take (k+1)) en.r.right:Nat),.int .i64 (en.r.times:Nat)] 86) (p':=cells b14 [.int .i64 (Rl.kind ((jP (ids.take (k+1)) en.r)):Nat),.int .u8 (Rl.byte ((jP (ids.take (k+1)) en.r)):Nat),.int .i64 (Rl.left ((jP (ids.take (k+1)) en.r)):Nat),.int .i64 (Rl.right ((jP (ids.take (k+1)) en.r)):Nat),.int .i64 (Rl.times ((jP (ids.take (k+1)) en.r)):Nat)] 86) uK (fun _ h=>by rw[qPq,qPp,qPr h0t,qKx h0t,vM];exact h)) ?_
  refine gg5 ?_
  refine l_eq 70 (.int .i64 ((k+1:Nat):Int)) O (bW oO) ?_
  refine uX (ct_rPut (r:=jP (ids.take (k+1)) en.r) (n:=k+1) hE hro oO oO hrt) O ?_
  rintro _ _⟨gr,cr,rfl,rfl⟩
  simp only[uV,uW]
  refine gg10 ?_
  refine uU ?_
  apply jD (hE.t O) (hE.t O) O O O
  ·exact uK
  ·exact uK
  ·exact jB _
  ·exact hrl.1
  ·omega
  ·unfold maxLen;omega
  intro g1 c1 m' x' hm' hx'
  obtain rfl:m'=(done++rulB (k+1) (jP (ids.take (k+1)) en.r)).length:=hm'.trans List.length_append.symm
  obtain rfl:x'=byC (done++rulB (k+1) (jP (ids.take (k+1)) en.r)):=hx'.trans (gL _ _).symm
  clear hm' hx'
  refine gg8 ?_
  refine bS (ι:=EnG) (j:=⟨k+1,done++rulB (k+1) (jP (ids.take (k+1)) en.r),g1,c1⟩) ⟨by simp only;omega,by simp only;rw[wF hx hri,←List.append_assoc,←hdone,hrn2],by simp only[List.length_append];omega⟩ (by simp only;omega) ⟨rfl,rfl,rfl,rfl,rfl,rfl,rfl,congrArg some (bW (by simp only;omega)),trivial⟩ ?_
  exact uI
 obtain rfl:k=ids.length:=by omega
 rw[List.take_length]
 clear h hk1
 have hv2:=fC (n:=l.length) oO
 refine gg11 ?_
 refine uX (rP (n:=l.length) hE oO) O ?_
 rintro _ _⟨g2,c2,rfl,rfl⟩
 simp only[uV,uW]
 refine uU ?_
 apply jD (hE.t O) (hE.t O) O O O
 ·exact uK
 ·exact uK
 ·exact jB _
 ·exact(jR _)
 ·omega
 ·unfold maxLen;omega
 intro g3 c3 m' x' hm' hx'
 obtain rfl:m'=(done++vput l.length).length:=hm'.trans List.length_append.symm
 obtain rfl:x'=byC (done++vput l.length):=hx'.trans (gL _ _).symm
 clear hm' hx'
 have hd3:(done++vput l.length).length=done.length+(vput l.length).length:=List.length_append
 refine gg12 ?_
 refine eZ (fun x:EnG=>[(7,.slice p' l.length c'),(10,.map (some b35)),(11,.slice (some ⟨x.g,0,none⟩) x.done.length x.c),(84,.slice a l.length ca),(85,.int .i64 (l.length:Nat)),(86,.int .i64 (x.k:Nat))])
  (fun x=>[bR s most (Es++M),cells pp [uPt s,uPt tb] 97,tabP tb s (rls (Es++M)),cells m [uPt pp,.map (some bm)] 93,mapF bm .i64 f',q,sl p' c' 44 1 l.length (idC ys),mapF b35 .i64 (nuF ids),sl (some ⟨x.g,0,none⟩) x.c 5 1 x.done.length (byC x.done),R]) (fun x=>l.length-x.k)
  (fun x=>x.k≤l.length∧x.done=done++vput l.length++encN ids ((nmY l ys).take x.k)∧x.done.length≤10+21*ids.length+10+52*x.k) ⟨0,done++vput l.length,g3,c3⟩ ⟨Nat.zero_le _,by simp[encN],by simp only;omega⟩ ⟨rfl,rfl,rfl,rfl,rfl,rfl,trivial⟩ uI ?_
 rintro⟨k,dn,g,c⟩⟨hk1,hdn,hdl2⟩
 simp only at hk1 hdn hdl2 ⊢
 refine gg6 ?_
 refine bE O (fun h=>?_) (fun h=>?_)
 ·have hkl:k<l.length:=oO
  obtain⟨p,hp⟩:∃p,l[k]?=some p:=⟨_,List.getElem?_eq_getElem hkl⟩
  obtain⟨y,hy⟩:∃y,ys[k]?=some y:=⟨_,List.getElem?_eq_getElem oO⟩
  have hpl:=(ho.1 p (List.mem_of_getElem? hp)).2.1
  obtain⟨go,o,rfl,hq'⟩:=hq (qMs oO)
  have fm:=qKp hp
  have hnb:=qX ids y
  have hv1:=fC (n:=p.1.length) oO
  have hv3:=fC (n:=numb ids y) oO
  have hbl:(fZ p.1).length=(vput p.1.length).length+p.1.length:=List.length_append
  have hbp:0<(fZ p.1).length:=by have:=jR p.1.length;omega
  refine iJ (p:=sl p' c' 44 1 l.length (idC ys)) uK (fun _ h=>eU h oO) ?_
  rintro⟨gy,rfl⟩
  have f0:=fP hy (0+((k:Nat):Int).toNat) oO
  have f1:=fP hy (((k:Nat):Int).toNat) oO
  have hf1:nuF ids ((y:Nat):Int)=nuF ids ((y:Nat):Int):=rfl
  refine gg8 ?_
  apply aA
  ·(apply dL rfl (hE.t rfl) rfl (by assumption);(focus((repeat constructor);done));(focus exact fm);(focus rfl);(focus omega))
  ·rfl
  refine uU (dA (hE.t O) (fun b19=>?_))
  refine gg9 ?_
  refine uU ?_
  refine ld_bytes O (hE.t O) (hE.t O) (hE.t O) (fun gb cb=>?_)
  refine uX (qJu (g:=gb) (c:=cb) (bs:=p.1) hE oO) O ?_
  rintro _ _⟨g4,c4,rfl,rfl⟩
  simp only[uV,uW]
  refine uU ?_
  apply jD (hE.t O) (hE.t O) O O O
  ·exact uK
  ·exact uK
  ·exact jB _
  ·exact hbp
  ·omega
  ·unfold maxLen;omega
  intro g5 c5 m' x' hm' hx'
  obtain rfl:m'=(dn++fZ p.1).length:=hm'.trans List.length_append.symm
  obtain rfl:x'=byC (dn++fZ p.1):=hx'.trans (gL _ _).symm
  clear hm' hx'
  have hd5:(dn++fZ p.1).length=dn.length+(fZ p.1).length:=List.length_append
  refine gg10 ?_
  refine uB (kQ (kt:=44) (et:=3) (z:= .int .i64 0) (by rw[hE.P];kernel_rfl) (by rw[hE.P];kernel_rfl) (fun w=>by rw[hE.P];kernel_rfl) rfl rfl uK (by assumption)) ?_
  refine l_eq 103 (.int .i64 (numb ids y:Nat)) O (qKr _ _) ?_
  refine gg1 ?_
  refine uX (rP (n:=numb ids y) hE oO) O ?_
  rintro _ _⟨g6,c6,rfl,rfl⟩
  simp only[uV,uW]
  refine uU ?_
  apply jD (hE.t O) (hE.t O) O O O
  ·exact uK
  ·exact uK
  ·exact jB _
  ·exact(jR _)
  ·omega
  ·unfold maxLen;omega
  intro g7 c7 m' x' hm' hx'
  obtain rfl:m'=(dn++fZ p.1++vput (numb ids y)).length:=hm'.trans List.length_append.symm
  obtain rfl:x'=byC (dn++fZ p.1++vput (numb ids y)):=hx'.trans (gL _ _).symm
  clear hm' hx'
  have hd7:(dn++fZ p.1++vput (numb ids y)).length=(dn++fZ p.1).length+(vput (numb ids y)).length:=List.length_append
  refine gg8 ?_
  refine bS (ι:=EnG) (j:=⟨k+1,dn++fZ p.1++vput (numb ids y),g7,c7⟩) ⟨by simp only;omega,by simp only;rw[nmY_take hp hy,qRr,hdn];simp only[List.append_assoc],by simp only;omega⟩ (by simp only;omega) ⟨rfl,rfl,rfl,rfl,rfl,congrArg some (bW (by simp only;omega)),trivial⟩ ?_
  exact uI
 obtain rfl:k=l.length:=by omega
 have hnl:(nmY l ys).take l.length=nmY l ys:=List.take_of_length_le (by unfold nmY;simp;omega)
 have hB:dn=encB (rls (Es++M)) ids (nmY l ys):=by
  have hnn:(nmY l ys).length=l.length:=by unfold nmY;simp;omega
  rw[hdn,hnl,hdone,encB,hnn]
 refine gg13 ?_
 exact uZ O (.tmp O (.tmp O .nil)) (.inr ⟨M,f',ys,g,c,dn,ho,O,by rw[hB,hids],hM,hkn,hyl,hsl,rfl⟩)
end
end Go.Proofs.YtlmpojkmeglepaaGreatDoor
namespace Sl
open Go Go.RowKit
variable {E:Env}{n:Nat}{L:Fr}{S S':List HP}{ty:TypeId}{pos:String}{af:Array Edge}{d:Option Nat}{gd:Option (Nat×Bool)}
theorem sS {x:Operand}{src dst e:TypeId}{a:Option Addr}{bs:List UInt8}{c s by_ sz sz1 sz2:Nat}{zs zs1 zs2:List Value}{q:HP}(hx:ev L x=some (.slice a bs.length c))(hs:E.tab src=some ⟨.slice e s by_,sz,zs⟩)(he:E.tab e=some ⟨.int .u8,sz1,zs1⟩)(hd:E.tab dst=some ⟨.string,sz2,zs2⟩)
  (hq:Rdb E.w0 a (bs.map fun b=>Value.int .u8 (b.toNat:Nat)) q) (hm:Take q S S'):Yl E n L S ⟨d,.convert src dst x,ty,pos,af,gd⟩ (.string ⟨⟨bs⟩⟩):=fun A w g st=>by
 obtain⟨i',z,_,_,_,_,hk'⟩:=fG hd
 simp only[TK.holds]at hk'
 have hu:E.P.underlying dst=some .string:=by
  split at hk'
  ·assumption
  cases hk'
 obtain⟨hsu,_⟩:=fI hs
 have hr:(convert src dst (.slice a bs.length c)).run E.P w= .ok (.string ⟨⟨bs⟩⟩) w:=by
  cases bs with
  |nil=>
   cases a with
   |none=>
    rw[run_convert_bytes_string w src dst e none _ c hsu (mV he) hu]
    rfl
   |some a=>exact run_convert_bytes_back w src dst e a c [] hsu (mV he) hu (fun j hj=>by simp at hj)
  |cons b bs=>
   obtain⟨g',o,rfl,hq'⟩:=hq (by simp)
   refine run_convert_bytes_back w src dst e ⟨g',o,none⟩ c (b::bs) hsu (mV he) hu (fun j hj=>?_)
   rw[addr_add]
   exact qBl hq' (st.take hm) (i:=j) (by rw[List.getElem?_map,List.getElem?_eq_getElem hj];rfl)
 simp[execOp,g.ev hx,hr]
end Sl
namespace Go.Proofs.YtlmpojkmeglepaaGreatDoor
open Go Go.RowKit Sl Eg
set_option maxRecDepth 10000
variable {E:Env}
theorem ct_Bytes (hE:Seat E){a b:Option Addr}{c d:Nat}{xs bs:List UInt8}{q r:HP}(hq:Rdb E.w0 a (byC xs) q)(hr:Rdb E.w0 b (byC bs) r):Ct E 16 [.slice a xs.length c,.slice b bs.length d] [q,r] (fun v Q=>v= .bool (decide (xs=bs))∧Q=[q,r]):=by
 refine bO (hE.fn Tryz.func16) O O O (fun R=>?_)
 simp only[dU,uV,uW]
 refine gg8 ?_
 refine uB (sS (q:=q) O (hE.t O) (hE.t O) (hE.t O) hq uK) ?_
 refine gg1 ?_
 refine uB (sS (q:=r) O (hE.t O) (hE.t O) (hE.t O) hr uK) ?_
 refine gg5 ?_
 exact uZ O (.tmp O .nil) ⟨O,O⟩
theorem qEo (hE:Seat E){bs:List UInt8}:Ct E 44 [.string ⟨⟨bs⟩⟩] [] (fun v Q=>v= .bool (decide (ValidN bs))∧Q=[]):=by
 have hsz:=qTo bs
 refine bO (hE.fn Tryz.func44) O O O (fun R=>?_)
 simp only[dU,uV,uW]
 refine gg12 ?_
 refine dY 9 O (fun h1=>?_) (fun h1=>?_)
 ·refine gg14 ?_
  exact uZ O (.tmp O .nil) ⟨congrArg Value.bool (decide_eq_false fun hv=>by have:=hv.1;omega).symm,rfl⟩
 refine gg9 ?_
 refine bE O (fun h2=>?_) (fun h2=>?_)
 ·refine gg7 ?_
  exact uZ O (.tmp O .nil) ⟨congrArg Value.bool (decide_eq_false fun hv=>by have:=hv.2.1;omega).symm,rfl⟩
 refine gg9 ?_
 refine eZ (fun k:Nat=>[(0,.string ⟨⟨bs⟩⟩),(3,.int .i64 (k:Nat))]) (fun k=>[R]) (fun k=>bs.length-k) (fun k=>k≤bs.length∧∀j,j<k→okC j (bs.getD j 0).toNat) 0 ⟨Nat.zero_le _,fun j h=>by omega⟩ ⟨rfl,rfl,trivial⟩ uI ?_
 rintro k⟨hk,hall⟩
 refine gg9 ?_
 refine bE O (fun hc=>?_) (fun hc=>?_)
 ·have hkl:k<bs.length:=oO
  obtain⟨x,hx⟩:∃x,bs[k]?=some x:=⟨_,List.getElem?_eq_getElem hkl⟩
  have hx':bs.getD k 0=x:=by rw[List.getD_eq_getElem?_getD,hx];rfl
  have hxx:(⟨⟨bs⟩⟩:ByteArray)[(k:Int).toNat]?=some x:=qTx hx _ oO
  have hgrow:okC k x.toNat→k+1≤bs.length∧∀j,j<k+1→okC j (bs.getD j 0).toNat:=fun hok=>⟨oO,fun j hj=>by
   rcases Nat.lt_or_ge j k with h| h
   ·exact hall j h
   obtain rfl:j=k:=by omega
   rw[hx'];exact hok⟩
  have hstop:¬okC k x.toNat→¬ValidN bs:=fun hno hv=>hno (by have:=hv.2.2 k hkl;rwa [hx']at this)
  refine gg17 ?_
  refine dY 25 O (fun a1=>?_) (fun a1=>?_)
  ·refine gg13 ?_
   refine qFe 31 O (fun a2=>?_) (fun a2=>?_)
   ·have a3:¬((x.toNat:Nat):Int)≤122:=by simpa using a2
    refine gg6 ?_
    refine dY 34 O (fun b1=>?_) (fun b1=>?_)
    ·refine gg27 ?_
     exact uZ O (.tmp O .nil) ⟨congrArg Value.bool (decide_eq_false (hstop (by unfold okC;omega))).symm,O⟩
    refine gg6 ?_
    refine dY 37 O (fun b2=>?_) (fun b2=>?_)
    ·refine gg6 ?_
     refine dY 40 O (fun b3=>?_) (fun b3=>?_)
     ·refine gg23 ?_
      exact uZ O (.tmp O .nil) ⟨congrArg Value.bool (decide_eq_false (hstop (by unfold okC;omega))).symm,O⟩
     refine gg13 ?_
     refine bE O (fun b4=>?_) (fun b4=>?_)
     ·refine gg11 ?_
      exact uZ O (.tmp O .nil) ⟨congrArg Value.bool (decide_eq_false (hstop (by unfold okC;omega))).symm,O⟩
     refine gg8 ?_
     refine bS (ι:=Nat) (j:=k+1) (hgrow (by unfold okC;omega)) oO ⟨O,congrArg some (bW oO),trivial⟩ uI
    refine gg22 ?_
    refine bS (ι:=Nat) (j:=k+1) (hgrow (by unfold okC;omega)) oO ⟨O,congrArg some (bW oO),trivial⟩ uI
   have a3:((x.toNat:Nat):Int)≤122:=by simpa using a2
   refine gg26 ?_
   refine bS (ι:=Nat) (j:=k+1) (hgrow (by unfold okC;omega)) oO ⟨O,congrArg some (bW oO),trivial⟩ uI
  refine gg17 ?_
  refine dY 34 O (fun b1=>?_) (fun b1=>?_)
  ·refine gg27 ?_
   exact uZ O (.tmp O .nil) ⟨congrArg Value.bool (decide_eq_false (hstop (by unfold okC;omega))).symm,O⟩
  refine gg6 ?_
  refine dY 37 O (fun b2=>?_) (fun b2=>?_)
  ·refine gg6 ?_
   refine dY 40 O (fun b3=>?_) (fun b3=>?_)
   ·refine gg23 ?_
    exact uZ O (.tmp O .nil) ⟨congrArg Value.bool (decide_eq_false (hstop (by unfold okC;omega))).symm,O⟩
   refine gg13 ?_
   refine bE O (fun b4=>?_) (fun b4=>?_)
   ·refine gg11 ?_
    exact uZ O (.tmp O .nil) ⟨congrArg Value.bool (decide_eq_false (hstop (by unfold okC;omega))).symm,O⟩
   refine gg8 ?_
   refine bS (ι:=Nat) (j:=k+1) (hgrow (by unfold okC;omega)) oO ⟨O,congrArg some (bW oO),trivial⟩ uI
  refine gg22 ?_
  refine bS (ι:=Nat) (j:=k+1) (hgrow (by unfold okC;omega)) oO ⟨O,congrArg some (bW oO),trivial⟩ uI
 refine gg11 ?_
 exact uZ O (.tmp O .nil) ⟨congrArg Value.bool (decide_eq_true ⟨oO,oO,fun i hi=>hall i oO⟩).symm,O⟩
end Go.Proofs.YtlmpojkmeglepaaGreatDoor
namespace Sl
open Go Go.RowKit
theorem qMz {w0:World}{g:Nat}{vs us:List Value}{t:TypeId}(h:∀(i:Nat)(v:Value),vs[i]?=some v→us[i]?=some v):∀k,cells g us t k→RdAt w0 g 0 vs k:=fun k hk i v hv=> .inr ⟨⟨us⟩,t,(0,0),hk,by rw[Nat.zero_add];simpa using h i v hv⟩
end Sl
namespace Go.Proofs.YtlmpojkmeglepaaGreatDoor
open Go Go.RowKit Sl Eg
set_option maxRecDepth 10000
section
variable {E:Env}{Es:List Ent}{pp tb s most m bm:Nat}{f:Int→Option Value}
theorem qQw (hE:Seat E){most:Nat}(hm:most≤fB):Ct E 19 [.int .i64 (most:Nat)] [] (fun v Q=>∃m bm pp s tb,v=uPt m∧Q=[cells m [uPt pp,.map (some bm)] 93,mapF bm .i64 (fun _=>none),cells pp [uPt s,uPt tb] 97,tabP tb s (rls []),bR s most []]):=by
 refine bO (hE.fn Tryz.func19) O O O (fun R=>?_)
 simp only[dU,uV,uW]
 refine gg8 ?_
 refine uX (qAa hE hm) O ?_
 rintro _ _⟨s,rfl,rfl⟩
 simp only[uV,uW]
 refine uX (qRf hE) O ?_
 rintro _ _⟨pp,tb,rfl,rfl⟩
 simp only[uV,uW]
 refine uX (qQr hE) O ?_
 rintro _ _⟨m,bm,rfl,rfl⟩
 simp only[uV,uW]
 refine gg4 ?_
 exact uZ O (.tmp O .nil) ⟨m,bm,pp,s,tb,O,O⟩
theorem xx_bytes {L:List Rl}(hw:Wf L){ys:List Nat}{x:Nat}(hx:x≤L.length)(ht:txt L x=[120,120])(hyl:ys.length=1)(hs:SigL L [x] ys):encB L (dD L ys []) (nmY [([97],(x:Int))] ys)=[2,1,120,3,1,0,1,1,97,2]:=by
 obtain⟨y,rfl⟩:=List.length_eq_one_iff.1 hyl
 have h:=hs 0 x y O O
 obtain⟨n,m,rfl,g1,g2⟩:=twice hw (by rw[h.2.1];exact ht) h.2.2.1.2
 have ho:=hw.ok n _ g1
 simp only[Rl.ok]at ho
 have v0:dD L [m+1] []=[m+1]:=by
  rw[gG,iC hw g2 (by simp)]
  rfl
 have v1:dD L [n+1] []=[m+1,n+1]:=by
  rw[gG,iC hw g1 (by simp)]
  show dD L [m+1] []++[n+1]=_
  rw[v0];rfl
 have hne:¬m+1=n+1:=oO
 have hne':¬m=n:=oO
 rw[v1,encB]
 have e1:encR L [m+1,n+1] [m+1,n+1].length=[1,120]++[3,1,0]:=by
  show encR L [m+1,n+1] (0+1+1)=_
  rw[wF (i:=0+1) (n:=n) rfl g1,wF (i:=0) (n:=m) rfl g2]
  have:numb [m+1,n+1] (m+1)=1:=by simp[numb]
  simp only[jP,this,rulB,encR,List.nil_append]
  rw[gW oO,gW oO]
  rfl
 have e2:numb [m+1,n+1] (n+1)=2:=by simp[numb,hne']
 rw[e1]
 have e3:nmY [([97],(x:Int))] [n+1]=[([97],n+1)]:=rfl
 rw[e3]
 simp only[encN,List.flatMap_cons,List.flatMap_nil,e2,List.length_cons,List.length_nil]
 rw[gW oO,gW oO]
 rfl
theorem sgo_one {n:Nat}{x:Nat}(hx:x≤n):SgO n [([97],(x:Int))]:=by
 refine⟨fun p hp=>?_,fun i p q h _ _=>by simp at h,fun p hp=>?_⟩
 ·obtain rfl:=List.mem_singleton.1 hp
  show ValidN [97]
  decide
 obtain rfl:=List.mem_singleton.1 hp
 exact⟨by simp,by simp;omega⟩
theorem SgE.not {n:Nat}{l:List (List UInt8×Int)}{e:Int}(h:SgE n l e)(ho:SgO n l):False:=by
 rcases h with⟨_,h⟩|⟨_,_,h⟩|⟨_,_,_,h⟩
 ·exact h ho.1
 ·exact h ho.2.1
 exact h ho.2.2
theorem ct_awake (hE:Seat E)(hB:Base E.w0):Ct E 20 [] [] (fun v Q=>v= .bool true∧Q=[]):=by
 have hmr:1048576≤fB:=Nat.le_refl _
 refine bO (hE.fn Tryz.func20) O O O (fun R=>?_)
 simp only[dU,uV,uW]
 refine gg7 ?_
 refine uX (qQw (most:=1048576) hE hmr) O ?_
 rintro _ _⟨m,bm,pp,s,tb,rfl,rfl⟩
 simp only[uV,uW]
 refine gg12 ?_
 refine uX (jC hE) O ?_
 rintro _ _⟨rfl,rfl⟩
 simp only[uV,uW]
 refine gg11 ?_
 refine uX (jC hE) O ?_
 rintro _ _⟨rfl,rfl⟩
 simp only[uV,uW]
 refine uU ?_
 refine aU (hE.t O) (hE.t O) O O O (fun b17=>?_)
 refine uU ?_
 refine ld_mark O (hE.t O) (hE.t O) uK ?_
 refine uX (ct_Of (Es:=[]) (s:=s) (tb:=tb) (pp:=pp) (most:=1048576) (g:=b17) (c:=2) (bs:=[120,120]) hE hB (by decide) (by decide)) O ?_
 rintro _ _⟨M,id,rfl,hM,htx,hgd, -,rfl⟩
 simp only[uV,uW]
 rw[List.nil_append]at htx hgd
 have hM4:M.length≤4:=hM
 have hid:id≤M.length:=by have:=hgd.1;rwa [bQ]at this
 have hln:∀p∈[(([97]:List UInt8),(id:Int))],0≤p.2→p.2≤M.length→Eg.len (rls M) p.2.toNat≤256:=fun p hp _ _=>by
  obtain rfl:=List.mem_singleton.1 hp
  show(txt (rls M) (id:Int).toNat).length≤256
  rw[Int.toNat_natCast,htx]
  decide
 have hrm:M.length+512*[(([97]:List UInt8),(id:Int))].length≤1048576:=by simp only[List.length_singleton];omega
 refine gg12 ?_
 refine uU ?_
 refine aU (hE.t O) (hE.t O) O O O (fun b26=>?_)
 refine uX (qHb (Es:=M) (s:=s) (tb:=tb) (pp:=pp) (most:=1048576) (m:=m) (bm:=bm) (f:=fun _=>none) (l:=[([97],(id:Int))]) (a:=some ⟨b26,0,none⟩) (ca:=1) (q:=cells b26 [.string ⟨⟨[97]⟩⟩,.int .i64 (id:Nat)] 53) hE hB (fun _=>⟨b26,0,O,qMz (fun _ _ h=>h)⟩) (Nat.le_of_ble_eq_true O) hln hrm (Kn.nil _)) O ?_
 rintro _ _(⟨e,he,rfl,rfl⟩|⟨M2,f',ys,g,c,B,ho,rfl,hB,hM2,hkn,hyl,hsl,rfl⟩)
 ·exact(he.not (sgo_one hid)).elim
 simp only[uV,uW]
 refine lV (p:=bR s 1048576 (M++M2)) uK (fun _ h=>dR h) (fun hsay=>?_)
 have hBv:B=[2,1,120,3,1,0,1,1,97,2]:=by
  rw[hB]
  have hsl':SigL (rls (M++M2)) [id] ys:=hsl
  exact xx_bytes hsay.1 (by rw[bQ,List.length_append];omega) (by rw[dB,gN _ (by rw[bQ];omega)];exact htx) hyl hsl'
 refine gg21 ?_
 refine uU ?_
 refine aU (hE.t O) (hE.t O) O O O (fun b38=>?_)
 refine gg1 ?_
 refine uX (ct_Bytes (xs:=B) (bs:=[2,1,120,3,1,0,1,1,97,2]) (q:=sl (some ⟨g,0,none⟩) c 5 1 B.length (byC B)) (r:=cells b38 [.int .u8 2,.int .u8 1,.int .u8 120,.int .u8 3,.int .u8 1,.int .u8 0,.int .u8 1,.int .u8 1,.int .u8 97,.int .u8 2] 5) hE (fun _=>⟨g,0,O,sH (fun _ _ h=>h)⟩) (fun _=>⟨b38,0,O,qMz (fun _ _ h=>h)⟩)) O ?_
 rintro _ _⟨rfl,rfl⟩
 simp only[uV,uW]
 refine gg5 ?_
 exact uZ O (.tmp O .nil) ⟨congrArg Value.bool (decide_eq_true hBv),O⟩
end
section
variable {E:Env}{Es:List Ent}{s most:Nat}
theorem qHf (hE:Seat E){i:Nat}(h:i≤Es.length):Ct E 48 [uPt s,.int .i64 (i:Nat)] [bR s most Es] (fun v Q=>v= .bool true∧Q=[bR s most Es]):=
 jF hE fun w _ _ hs=>(mD w (i:Int) hs).mono fun e w'⟨h1,h2⟩=>⟨by
  rw[h1,decide_eq_true (show(0:Int)≤(i:Int) by omega),decide_eq_true (show(i:Int)≤(Es.length:Int) by omega)]
  rfl,xG h2⟩
theorem ct_pairZ (hE:Seat E){i:Nat}(hi:i<Es.length):Ct E 46 [uPt s,.int .i64 ((i+1:Nat):Int),.int .i64 0] [bR s most Es] (fun v Q=>v= .tuple #[.int .i64 ((i+1:Nat):Int),.nilIface]∧Q=[bR s most Es]):=by
 refine bO (hE.fn Tryz.func46) O O O (fun R=>?_)
 simp only[dU,uV,uW]
 refine gg21 ?_
 refine uX (qHf (Es:=Es) (i:=i+1) hE oO) O ?_
 rintro _ _⟨rfl,rfl⟩
 simp only[uV,uW]
 refine gg7 ?_
 refine uX (qHf (Es:=Es) (i:=0) hE (Nat.zero_le _)) O ?_
 rintro _ _⟨rfl,rfl⟩
 simp only[uV,uW]
 refine gg15 ?_
 refine bE O (fun h1=>?_) (fun h1=>?_)
 ·exfalso;omega
 refine gg19 ?_
 exact uZ O (.tmp O (.tmp O .nil)) ⟨O,O⟩
theorem qMy {L:List Rl}(hw:Wf L){id i j:Nat}(h1:1≤id)(h:L[id-1]?=some (.pair i j)):id≤L.length∧txt L id=txt L i++txt L j:=by
 obtain⟨n,rfl⟩:∃n,id=n+1:=⟨id-1,oO⟩
 rw[Nat.add_sub_cancel]at h
 exact⟨(List.getElem?_eq_some_iff.1 h).1,jQ h (hw.ok _ _ h)⟩
theorem ct_btext (hE:Seat E):∀(n:Nat){Es:List Ent}{bs:List UInt8}{g o c:Nat}{q:HP},bs.length=n→1≤n→n≤65536→n≤c→(∀k,q k→RdAt E.w0 g o (byC bs) k)→Es.length+2*n≤most→
  Ct E 58 [uPt s,.slice (some ⟨g,o,none⟩) n c] [bR s most Es,q]
   (fun v Q=>∃M id,v= .tuple #[.int .i64 (id:Nat),.nilIface]∧M.length+1≤2*n∧1≤id∧id≤(Es++M).length∧txt (rls (Es++M)) id=bs∧Q=[bR s most (Es++M),q]):=by
 intro n
 induction n using Nat.strongRecOn with
 |ind n ih=>
 intro Es bs g o c q hbn hn1 hn2 hnc hq hroom
 have hbl:=rG bs
 have hmx:dC=1152921504606846976:=rfl
 refine bO (hE.fn Tryz.func58) O O O (fun R=>?_)
 simp only[dU,uV,uW]
 refine gg14 ?_
 refine bE O (fun h=>?_) (fun h=>?_)
 ·obtain⟨b,rfl⟩:=List.length_eq_one_iff.1 (show bs.length=1 by omega)
  have f0:(byC [b])[0]?=some (.int .u8 (b.toNat:Nat)):=rfl
  have hr1:Es.length<most:=oO
  refine gg6 ?_
  refine uX (vV (s:=s) (most:=most) (Es:=Es) hE b hr1) O ?_
  rintro _ _⟨M,id,rfl,hM,hid,hrl,rfl⟩
  simp only[uV,uW]
  refine gg8 ?_
  have hid2:id≤(Es++M).length:=by have:=(List.getElem?_eq_some_iff.1 hrl).1;rw[bQ]at this;omega
  have htx:txt (rls (Es++M)) id=[b]:=by
   obtain⟨i,rfl⟩:∃i,id=i+1:=⟨id-1,oO⟩
   exact iB hrl
  exact uZ O (.tmp O (.tmp O .nil)) ⟨M,id,O,oO,hid,hid2,htx,O⟩
 obtain⟨k,hk⟩:∃k,k=n/2:=⟨_,rfl⟩
 have hk1:1≤k∧k<n∧n-k<n:=oO
 have hl1:(bs.take k).length=k:=by rw[List.length_take];omega
 have hl2:(bs.drop k).length=n-k:=by rw[List.length_drop];omega
 have hq1:∀x,q x→RdAt E.w0 g o (byC (bs.take k)) x:=fun x hx i v hv=>by
  have e:byC (bs.take k)=(byC bs).take k:=by simp[byC,List.map_take]
  rw[e,List.getElem?_take]at hv
  split at hv
  ·exact hq x hx i v hv
  cases hv
 have hq2:∀x,q x→RdAt E.w0 g (o+k) (byC (bs.drop k)) x:=fun x hx i v hv=>by
  have e:byC (bs.drop k)=(byC bs).drop k:=by simp[byC,List.map_drop]
  rw[e,List.getElem?_drop]at hv
  have:=hq x hx (k+i) v hv
  rwa [←Nat.add_assoc]at this
 refine gg9 ?_
 refine l_eq 24 (.int .i64 (k:Nat)) O (bW oO) ?_
 refine uB (fU k O O (hE.t O) O oO) ?_
 refine uX (ih k hk1.2.1 (Es:=Es) (bs:=bs.take k) (g:=g) (o:=o) (c:=c) (q:=q) hl1 hk1.1 oO oO hq1 oO) O ?_
 rintro _ _⟨M1,i1,rfl,hM1,hi1,hi1l,ht1,rfl⟩
 simp only[uV,uW]
 refine gg24 ?_
 refine l_eq 37 (.int .i64 (k:Nat)) O (bW oO) ?_
 refine uB (gJ (l:=k) (h:=n) O (hE.t O) ⟨_,O⟩ O oO oO) ?_
 refine l_eq 38 (.slice (some ⟨g,o+k,none⟩) (n-k) (c-k)) O (by rw[if_neg oO,Nat.mul_one,Sl.addr_add]) ?_
 have hr2:(Es++M1).length+2*(n-k)≤most:=by rw[List.length_append];omega
 refine uX (ih (n-k) hk1.2.2 (Es:=Es++M1) (bs:=bs.drop k) (g:=g) (o:=o+k) (c:=c-k) (q:=q) hl2 oO oO oO hq2 hr2) O ?_
 rintro _ _⟨M2,i2,rfl,hM2,hi2,hi2l,ht2,rfl⟩
 simp only[uV,uW]
 refine gg15 ?_
 refine iJ (p:=bR s most (Es++M1++M2)) uK (fun _ h=>dR h) (fun hsay=>?_)
 have ht1':txt (rls (Es++M1++M2)) i1=bs.take k:=by rw[dB (Es++M1),gN _ (by rw[bQ];exact hi1l)];exact ht1
 have hi1':i1≤(Es++M1++M2).length:=by rw[List.length_append];omega
 obtain⟨j1,rfl⟩:∃j,i1=j+1:=⟨i1-1,oO⟩
 obtain⟨j2,rfl⟩:∃j,i2=j+1:=⟨i2-1,oO⟩
 obtain⟨x1,hx1⟩:∃x,(Es++M1++M2)[j1]?=some x:=⟨_,List.getElem?_eq_getElem oO⟩
 obtain⟨x2,hx2⟩:∃x,(Es++M1++M2)[j2]?=some x:=⟨_,List.getElem?_eq_getElem oO⟩
 have hlen:x1.t.length+x2.t.length≤dC:=by rw[hsay.2.1 _ _ hx1,hsay.2.1 _ _ hx2,ht1',ht2,hl1,hl2];omega
 have hr3:(Es++M1++M2).length<most:=by rw[List.length_append,List.length_append];omega
 refine gg7 ?_
 refine uX (qAc (s:=s) (most:=most) (Es:=Es++M1++M2) hE hx1 hx2 hlen hr3) O ?_
 rintro _ _⟨M3,id,rfl,hM3,hid,hrl,rfl⟩
 simp only[uV,uW]
 refine lV (p:=bR s most (Es++M1++M2++M3)) uK (fun _ h=>dR h) (fun hsay3=>?_)
 obtain⟨g1,g2⟩:=qMy hsay3.1 hid hrl
 have e3:txt (rls (Es++M1++M2++M3)) id=bs:=by
  rw[g2,dB (Es++M1++M2),gN _ (by rw[bQ];omega),gN _ (by rw[bQ];omega),ht1',ht2,List.take_append_drop]
 rw[bQ]at g1
 have ea:Es++M1++M2++M3=Es++(M1++(M2++M3)):=by simp only[List.append_assoc]
 rw[ea]at g1 e3 ⊢
 refine gg7 ?_
 exact uZ O (.tmp O (.tmp O .nil)) ⟨M1++(M2++M3),id,O,by simp only[List.length_append];omega,hid,g1,e3,rfl⟩
theorem ct_bText (hE:Seat E){bs:List UInt8}{a:Option Addr}{c:Nat}{q:HP}(hq:Rdb E.w0 a (byC bs) q)(hn:bs.length≤65536)(hc:bs.length≤c)(hroom:Es.length+2*bs.length≤most):
  Ct E 35 [uPt s,.slice a bs.length c] [bR s most Es,q]
   (fun v Q=>∃M id,v= .tuple #[.int .i64 (id:Nat),.nilIface]∧M.length≤2*bs.length∧id≤(Es++M).length∧txt (rls (Es++M)) id=bs∧Q=[bR s most (Es++M),q]):=by
 refine bO (hE.fn Tryz.func35) O O O (fun R=>?_)
 simp only[dU,uV,uW]
 refine gg24 ?_
 refine bE O (fun h1=>?_) (fun h1=>?_)
 ·exfalso;omega
 refine gg10 ?_
 refine bE O (fun h2=>?_) (fun h2=>?_)
 ·obtain rfl:bs=[]:=List.eq_nil_of_length_eq_zero oO
  refine gg8 ?_
  apply cB
  ·rfl
  ·(apply Rs.tmp rfl;apply Rs.tmp rfl;exact Rs.nil)
  ·exact⟨[],0,O,Nat.zero_le _,Nat.zero_le _,pI _,O⟩
  rw[List.append_nil]
  exact uI
 obtain⟨g,o,rfl,hq'⟩:=hq (fun e=>h2 (by have:=rG bs;rw[e]at this;simp at this;omega))
 refine gg6 ?_
 refine uX (ct_btext (s:=s) (most:=most) hE bs.length (Es:=Es) (bs:=bs) (g:=g) (o:=o) (c:=c) (q:=q) O oO hn hc hq' hroom) O ?_
 rintro _ _⟨M,id,rfl,hM,hid,hidl,htx,rfl⟩
 simp only[uV,uW]
 refine gg7 ?_
 exact uZ O (.tmp O (.tmp O .nil)) ⟨M,id,O,oO,hidl,htx,O⟩
end
end Go.Proofs.YtlmpojkmeglepaaGreatDoor
namespace Sl
open Go Go.RowKit
variable {E:Env}{n:Nat}{L:Fr}{S H:List HP}{Q:Exit→Act→World→Prop}
theorem mR {ops:List Oper}{S:List HP}{fuel:Nat}{listed:Array Bool}(i:Nat){d:Option Nat}{op:Op}{ty:TypeId}{pos:String}{af:Array Edge}{j t:Nat}{b:Bool}(hi:ops[i]?=some ⟨d,op,ty,pos,af,some (j,b)⟩)
  (hj:(ops[j]?).bind (·.dst)=some t) (hl:look L t=some undef) (hQ:Calm Q) (hf:(Region.noSelect ops.toArray&&(Region.free .any ops.toArray listed i&&(Region.ready .any ops.toArray listed).contains i))=true) (hd:inB n d=true)
  (k:WPD E ops S Q fuel (listed.setIfInBounds i true) n (putL d undef L) H):WPD E ops S Q (fuel+1) listed n L H:=fun hS a w g=>by
 simp only[Bool.and_eq_true]at hf
 have hj':(ops.toArray[j]?).bind (·.dst)=some t:=by simpa using hj
 have hyl:yielded ops.toArray a.tmps j=none:=by
  simp only[yielded,hj',Option.bind_some,g.f.fr t _ hl]
  rfl
 exact wpAnyH_take (gB hi) hf.1 hf.2.1 hf.2.2 (fun c a w h=>hQ c a w d undef h) (.inr ⟨by simp[Region.wanted,hyl],rfl⟩) (g.hp.imp hS) (k hS _ _ ⟨g.f.put d undef hd,g.hp⟩)
theorem qMc {ops:List Oper}{S:List HP}{fuel:Nat}{listed:Array Bool}(t:Nat){b:Bool}(hl:look L t=some (.bool b))(h1:b=true→WPD E ops S Q fuel listed n ((t,.bool true)::L) H)(h2:b=false→WPD E ops S Q fuel listed n ((t,.bool false)::L) H):WPD E ops S Q fuel listed n L H:=
 qEs (p:=b=true) t (by simpa using hl) h1 (fun h=>h2 (by simpa using h))
end Sl
namespace Go.Proofs.YtlmpojkmeglepaaGreatDoor
open Go Go.RowKit Sl Eg
set_option maxRecDepth 10000
section
variable {E:Env}
structure Im where
 name:List UInt8
 a:Option Addr
 bs:List UInt8
 c:Nat
def imC:List Im→List Value
 |[]=>[]
 |x::l=> .string ⟨⟨x.name⟩⟩:: .slice x.a x.bs.length x.c::imC l
theorem xQ:∀l:List Im,(imC l).length=l.length*2
 |[]=>rfl
 |p::l=>by simp only[imC,List.length_cons,xQ l];omega
theorem qAx:∀{l:List Im}{i:Nat}{x:Im},l[i]?=some x→(imC l)[i*2]?=some (.string ⟨⟨x.name⟩⟩)∧(imC l)[i*2+1]?=some (.slice x.a x.bs.length x.c)
 |p::l,0,q,h=>by simp at h;subst h;exact⟨rfl,rfl⟩
 |p::l,i+1,q,h=>by
  have:=qAx (l:=l) (i:=i) (x:=q) (by simpa using h)
  rw[show(i+1)*2=i*2+1+1 by omega]
  exact this
theorem imC_ne {l:List Im}(h:0<l.length):imC l≠[]:=fun e=>by
 have:=xQ l
 rw[e]at this
 simp at this
 omega
def ImOrd (l:List Im)(n:Nat):Prop:=∀(i:Nat)(x y:Im),i+1<n→l[i]?=some x→l[i+1]?=some y→Op.bytesLess x.name y.name=true
def GoodI (l:List Im):Prop:=(∀x∈l,ValidN x.name∧x.bs.length≤60)∧ImOrd l l.length∧l.length≤6
theorem ct_good (hE:Seat E){l:List Im}{a:Option Addr}{c:Nat}{q:HP}(hq:Rdb E.w0 a (imC l) q)(hn:l.length≤maxLen):
  Ct E 22 [.slice a l.length c] [q] (fun v Q=>∃b:Bool,v= .bool b∧(b=true↔GoodI l)∧Q=[q]):=by
 have hmx:maxLen=9223372036854775807:=rfl
 refine bO (hE.fn Tryz.func22) O O O (fun R=>?_)
 simp only[dU,uV,uW]
 refine gg12 ?_
 refine eZ (fun k:Nat=>[(0,.slice a l.length c),(3,.int .i64 (k:Nat))]) (fun k=>[q,R]) (fun k=>l.length-k) (fun k=>k≤l.length∧(∀j x,j<k→l[j]?=some x→ValidN x.name∧x.bs.length≤60)∧ImOrd l k) 0 ⟨Nat.zero_le _,fun j x h=>by omega,fun i x y h=>by omega⟩ ⟨rfl,rfl,trivial⟩ uI ?_
 rintro k⟨hk,hall,hord⟩
 refine gg9 ?_
 refine bE O (fun h=>?_) (fun h=>?_)
 ·have hkl:k<l.length:=oO
  obtain⟨x,hx⟩:∃x,l[k]?=some x:=⟨_,List.getElem?_eq_getElem hkl⟩
  have hxm:=List.mem_of_getElem? hx
  obtain⟨g,o,rfl,hq'⟩:=hq (imC_ne oO)
  have f0:=(qAx hx).1
  have f2:=(qAx hx).2
  refine gg5 ?_
  refine uH ([q]) ?_
  refine gg5 ?_
  apply dH 5 O oK O
  refine uC (qEo (bs:=x.name) hE) O ?_
  rintro _ _⟨rfl,rfl⟩
  simp only[uV,uW]
  refine uE ?_
  refine gg2 ?_
  refine qMc 17 O (fun v1=>?_) (fun v1=>?_)
  ·have v1':¬ValidN x.name:=by simpa using v1
   refine uR 8 O O O O ?_
   refine gg2 ?_
   refine mR 11 O O O (by with_reducible (repeat(first |exact aF|apply aG|apply aH))) oK O ?_
   refine mR 12 O O O (by with_reducible (repeat(first |exact aF|apply aG|apply aH))) oK O ?_
   refine mR 13 O O O (by with_reducible (repeat(first |exact aF|apply aG|apply aH))) oK O ?_
   refine mR 14 O O O (by with_reducible (repeat(first |exact aF|apply aG|apply aH))) oK O ?_
   refine mR 15 O O O (by with_reducible (repeat(first |exact aF|apply aG|apply aH))) oK O ?_
   refine mR 16 O O O (by with_reducible (repeat(first |exact aF|apply aG|apply aH))) oK O ?_
   refine mR 17 O O O (by with_reducible (repeat(first |exact aF|apply aG|apply aH))) oK O ?_
   refine mR 18 O O O (by with_reducible (repeat(first |exact aF|apply aG|apply aH))) oK O ?_
   refine mR 19 O O O (by with_reducible (repeat(first |exact aF|apply aG|apply aH))) oK O ?_
   refine mR 20 O O O (by with_reducible (repeat(first |exact aF|apply aG|apply aH))) oK O ?_
   refine mR 21 O O O (by with_reducible (repeat(first |exact aF|apply aG|apply aH))) oK O ?_
   refine mR 22 O O O (by with_reducible (repeat(first |exact aF|apply aG|apply aH))) oK O ?_
   refine gg25 ?_
   exact uZ O (.tmp O .nil) ⟨false,O,⟨fun h=>Bool.noConfusion h,fun hg=>(v1' (hg.1 x hxm).1).elim⟩,O⟩
  have v1':ValidN x.name:=by simpa using v1
  refine uO 8 O O O (aB O) ?_
  refine gg2 ?_
  refine qEs 20 O (fun v2=>?_) (fun v2=>?_)
  ·obtain⟨k,rfl⟩:∃k',k=k'+1:=⟨k-1,oO⟩
   obtain⟨y0,hy0⟩:∃y,l[k]?=some y:=⟨_,List.getElem?_eq_getElem oO⟩
   have f1:=(qAx hy0).1
   have f3:=f2
   refine uO 11 O O O (aB O) ?_
   refine gg10 ?_
   refine uO 22 O O O (y_ge_str O O) ?_
   refine gg3 ?_
   refine qMc 35 O (fun v3=>?_) (fun v3=>?_)
   ·have v3':¬Op.bytesLess y0.name x.name=true:=by simpa using v3
    refine uR 26 O O O O ?_
    refine gg21 ?_
    exact uZ O (.tmp O .nil) ⟨false,O,⟨fun h=>Bool.noConfusion h,fun hg=>(v3' (hg.2.1 k y0 x hkl hy0 hx)).elim⟩,O⟩
   have v3':Op.bytesLess y0.name x.name=true:=by simpa using v3
   refine uO 26 O O O (aB O) ?_
   refine gg9 ?_
   refine bE O (fun v4=>?_) (fun v4=>?_)
   ·have v4':¬x.bs.length≤60:=oO
    refine gg11 ?_
    exact uZ O (.tmp O .nil) ⟨false,O,⟨fun h=>Bool.noConfusion h,fun hg=>(v4' (hg.1 x hxm).2).elim⟩,O⟩
   have hor:ImOrd l (k+1+1):=fun i u w hi hu hw=>by
    rcases Nat.lt_or_ge (i+1) (k+1)with h'|h'
    ·exact hord i u w h' hu hw
    obtain rfl:i=k:=by omega
    rw[hy0]at hu
    rw[hx]at hw
    cases hu
    cases hw
    exact v3'
   refine gg8 ?_
   refine bS (ι:=Nat) (j:=k+1+1) ⟨oO,fun j y hj hy=>?_,hor⟩ oO ⟨O,congrArg some (bW oO),trivial⟩ uI
   rcases Nat.lt_or_ge j (k+1)with h'|h'
   ·exact hall j y h' hy
   obtain rfl:j=k+1:=by omega
   rw[hx]at hy
   cases hy
   exact⟨v1',oO⟩
  obtain rfl:k=0:=by omega
  refine uR 11 O O O O ?_
  refine gg24 ?_
  refine bE O (fun v4=>?_) (fun v4=>?_)
  ·have v4':¬x.bs.length≤60:=oO
   refine gg11 ?_
   exact uZ O (.tmp O .nil) ⟨false,O,⟨fun h=>Bool.noConfusion h,fun hg=>(v4' (hg.1 x hxm).2).elim⟩,O⟩
  refine gg8 ?_
  refine bS (ι:=Nat) (j:=1) ⟨oO,fun j y hj hy=>?_,fun i u w hi=>by omega⟩ oO ⟨rfl,congrArg some (bW oO),trivial⟩ uI
  obtain rfl:j=0:=by omega
  rw[hx]at hy
  cases hy
  exact⟨v1',oO⟩
 obtain rfl:k=l.length:=by omega
 refine gg14 ?_
 apply cB
 ·rfl
 ·(apply Rs.tmp rfl;exact Rs.nil)
 ·refine⟨_,O,?_,O⟩
  rw[decide_eq_true_eq]
  constructor
  ·intro h6
   refine⟨fun x hx=>?_,hord,oO⟩
   obtain⟨j,hj⟩:=List.getElem?_of_mem hx
   exact hall j x (List.getElem?_eq_some_iff.1 hj).1 hj
  intro hg
  have:=hg.2.2
  omega
 exact uI
end
section
variable {E:Env}{Es:List Ent}{pp tb s most m bm:Nat}
theorem ct_pairA (hE:Seat E){i j:Nat}(hi:1≤i∧i≤Es.length)(hj:j≤Es.length)(hl:len (rls Es) i+len (rls Es) j≤dC)(hroom:Es.length<most):Ct E 46 [uPt s,.int .i64 (i:Nat),.int .i64 (j:Nat)] [bR s most Es]
  (fun v Q=>∃M id,v= .tuple #[.int .i64 (id:Nat),.nilIface]∧M.length≤1∧id≤(Es++M).length∧txt (rls (Es++M)) id=txt (rls Es) i++txt (rls Es) j∧Q=[bR s most (Es++M)]):=by
 refine eQ (p:=bR s most Es) uK (fun _ h=>dR h) (fun hsay=>?_)
 obtain⟨i,rfl⟩:∃k,i=k+1:=⟨i-1,oO⟩
 rcases Nat.eq_zero_or_pos j with rfl|hp
 ·refine fun R w hs=>((ct_pairZ (s:=s) (most:=most) (Es:=Es) hE (show i<Es.length by omega)) R w hs).mono fun e w'⟨v,Qs,h1,⟨h2,h3⟩,h4⟩=>⟨v,Qs,h1,⟨[],i+1,h2,Nat.zero_le _,?_,?_,?_⟩,h4⟩
  ·rw[List.append_nil];exact hi.2
  ·rw[List.append_nil,pI,List.append_nil]
  rw[List.append_nil];exact h3
 obtain⟨j,rfl⟩:∃k,j=k+1:=⟨j-1,oO⟩
 obtain⟨x1,hx1⟩:∃x,Es[i]?=some x:=⟨_,List.getElem?_eq_getElem oO⟩
 obtain⟨x2,hx2⟩:∃x,Es[j]?=some x:=⟨_,List.getElem?_eq_getElem oO⟩
 have hlen:x1.t.length+x2.t.length≤dC:=by rw[hsay.2.1 _ _ hx1,hsay.2.1 _ _ hx2];exact hl
 refine fun R w hs=>((qAc (s:=s) (most:=most) (Es:=Es) hE hx1 hx2 hlen hroom) R w hs).mono fun e w'⟨v,Qs,h1,⟨M,id,h2,h3,h4,h5,h6⟩,h7⟩=>⟨v,Qs,h1,⟨M,id,h2,h3,?_⟩,h7⟩
 subst h6
 obtain⟨hw, -⟩:Wf (rls (Es++M))∧True:=by
  obtain⟨ha,hb,_,_,hc,_⟩:=h7.hp
  exact⟨(dR hc).1,trivial⟩
 obtain⟨g1,g2⟩:=qMy hw h4 h5
 refine⟨by rwa [bQ]at g1,?_,rfl⟩
 rw[g2,dB,gN _ (by rw[bQ];omega),gN _ (by rw[bQ];omega)]
theorem rdb_sl {w0:World}{p:Option Addr}{c n:Nat}{t:TypeId}{vs:List Value}(hn:vs.length=n)(h:0<n→∃g,p=some ⟨g,0,none⟩):Rdb w0 p vs (sl p c t 1 n vs):=fun hne=>by
 obtain⟨g,rfl⟩:=h (by
  rcases Nat.eq_zero_or_pos n with e| e
  ·exact absurd (List.eq_nil_of_length_eq_zero oO) hne
  exact e)
 exact⟨g,0,O,sH (fun _ _ h=>h)⟩
theorem vS {bs:List UInt8}(h:bs≠[]):byC bs≠[]:=fun e=>h (by
 have:=rG bs
 rw[e]at this
 exact List.eq_nil_of_length_eq_zero this.symm)
def mkN (l:List Im)(ids:List Nat):List (List UInt8×Int):=(l.zip ids).map fun p=>(p.1.name,(p.2:Int))
theorem zip_snoc {α β:Type}{l:List α}{ids:List β}{x:α}{id:β}(hx:l[ids.length]?=some x):l.zip (ids++[id])=l.zip ids++[(x,id)]:=by
 induction ids generalizing l with
 |nil=>
  cases l with
  |nil=>simp at hx
  |cons a l=>simp at hx;subst hx;simp
 |cons i ids ih=>
  cases l with
  |nil=>simp at hx
  |cons a l=>simp at hx;simp[ih hx]
theorem lW:∀(a b:List (List UInt8×Int)),nlC (a++b)=nlC a++nlC b
 |[],b=>rfl
 |p::a,b=>by simp[nlC,lW a b]
theorem mkN_snoc {l:List Im}{ids:List Nat}{x:Im}{id:Nat}(hx:l[ids.length]?=some x):nlC (mkN l (ids++[id]))=nlC (mkN l ids)++[.string ⟨⟨x.name⟩⟩,.int .i64 (id:Nat)]:=by
 unfold mkN
 rw[zip_snoc hx,List.map_append,lW]
 rfl
def Txs (L:List Rl)(l:List Im)(ids:List Nat):Prop:=∀(i:Nat)(x:Im)(id:Nat),l[i]?=some x→ids[i]?=some id→id≤L.length∧txt L id=x.bs
theorem Txs.ext {L:List Rl}(M:List Rl){l:List Im}{ids:List Nat}(h:Txs L l ids):Txs (L++M) l ids:=fun i x id h1 h2=>by
 have:=h i x id h1 h2
 exact⟨by rw[List.length_append];omega,by rw[gN _ this.1];exact this.2⟩
theorem Txs.snoc {L:List Rl}{l:List Im}{ids:List Nat}(h:Txs L l ids){x:Im}{id:Nat}(hx:l[ids.length]?=some x)(h1:id≤L.length)(h2:txt L id=x.bs):Txs L l (ids++[id]):=fun i y id' hy hi=>by
 rcases Nat.lt_trichotomy i ids.length with e|e| e
 ·rw[List.getElem?_append_left e]at hi;exact h i y id' hy hi
 ·subst e
  rw[hx]at hy
  cases hy
  simp at hi
  subst hi
  exact⟨h1,h2⟩
 have:=(List.getElem?_eq_some_iff.1 hi).1
 simp at this
 omega
structure PuG where
 ids:List Nat
 M:List Ent
 p:Option Addr
 c:Nat
structure PkG where
 j:Nat
 N:List Ent
 id:Nat
theorem ct_put (hE:Seat E)(hB:Base E.w0){l:List Im}{a:Option Addr}{ca w:Nat}(hq:Rdb E.w0 a (imC l) old)(hok:∀x∈l,Rdb E.w0 x.a (byC x.bs) old) (hlen:∀x∈l,x.bs.length≤60) (hn:l.length≤6) (hw:w≤1000) (hroom:Es.length+120*l.length≤most):
  Ct E 23 [uPt m,.slice a l.length ca,.int .i64 (w:Nat)] [cells pp [uPt s,uPt tb] 97,tabP tb s (rls Es),bR s most Es,cells m [uPt pp,.map (some bm)] 93,old]
   (fun v Q=>∃M ids p c,v= .tuple #[.slice p l.length c,.bool true]∧M.length≤120*l.length∧ids.length=l.length∧Txs (rls (Es++M)) l ids∧Q=[cells pp [uPt s,uPt tb] 97,tabP tb s (rls (Es++M)),bR s most (Es++M),cells m [uPt pp,.map (some bm)] 93,old,sl p c 53 2 l.length (nlC (mkN l ids))]):=by
 refine bO (hE.fn Tryz.func23) O O O (fun R=>?_)
 simp only[dU,uV,uW]
 refine gg20 ?_
 refine uX (jC hE) O ?_
 rintro _ _⟨rfl,rfl⟩
 simp only[uV,uW]
 refine gg7 ?_
 refine uX (jC hE) O ?_
 rintro _ _⟨rfl,rfl⟩
 simp only[uV,uW]
 refine gg1 ?_
 refine uX (gK hE) O ?_
 rintro _ _⟨rfl,rfl⟩
 simp only[uV,uW]
 refine gg11 ?_
 refine uX (jC hE) O ?_
 rintro _ _⟨rfl,rfl⟩
 simp only[uV,uW]
 refine uX (gK hE) O ?_
 rintro _ _⟨rfl,rfl⟩
 simp only[uV,uW]
 refine gg10 ?_
 refine eZ (fun q:PuG=>[(0,uPt m),(1,.slice a l.length ca),(2,.int .i64 (w:Nat)),(8,.slice q.p q.ids.length q.c),(9,uPt s),(10,.int .i64 (q.ids.length:Nat))]) (fun q=>[cells pp [uPt s,uPt tb] 97,tabP tb s (rls (Es++q.M)),bR s most (Es++q.M),cells m [uPt pp,.map (some bm)] 93,old,sl q.p q.c 53 2 q.ids.length (nlC (mkN l q.ids)),R]) (fun q=>l.length-q.ids.length)
  (fun q=>q.ids.length≤l.length∧q.M.length≤120*q.ids.length∧Txs (rls (Es++q.M)) l q.ids) ⟨[],[],none,0⟩ ⟨Nat.zero_le _,Nat.zero_le _,fun i x id h1 h2=>by simp at h2⟩ ⟨rfl,rfl,rfl,rfl,rfl,rfl,trivial⟩ ?_ ?_
 ·rw[List.append_nil]
  have e0:nlC (mkN l [])=[]:=by simp[mkN,nlC]
  simp only[e0]
  apply cZ (iP (t:=53) (sz:=2))
  exact uI
 rintro⟨ids,M,p,c⟩⟨hle,hM,htx⟩
 simp only at hle hM htx ⊢
 refine gg9 ?_
 refine bE O (fun h=>?_) (fun h=>?_)
 ·have hkl:ids.length<l.length:=oO
  obtain⟨x,hx⟩:∃x,l[ids.length]?=some x:=⟨_,List.getElem?_eq_getElem hkl⟩
  have hxm:=List.mem_of_getElem? hx
  have hxl:=hlen x hxm
  have hbl:=rG x.bs
  obtain⟨g,o,rfl,hq'⟩:=hq (imC_ne oO)
  have f0:=(qAx hx).1
  have f2:=(qAx hx).2
  have hb1:(0+(byC x.bs).length)*1≤140737488355328:=oO
  have hb2:0+(byC x.bs).length≤maxLen:=by unfold maxLen;omega
  have hEM:(Es++M).length=Es.length+M.length:=List.length_append
  refine gg6 ?_
  refine uU ?_
  refine kK (hE.t O) (fun b39=>?_)
  refine gg5 ?_
  refine uU ?_
  refine wN (us:=byC x.bs) (q:=old) (hE.t O) (hE.t O) O O O hbl.symm (hok x hxm) uK uK (jB _) hb1 hb2 (fun pt ct m1 x1 hm1 hx1=>?_)
  obtain rfl:m1=x.bs.length:=by omega
  obtain rfl:x1=byC x.bs:=hx1
  refine lV (p:=sl pt ct 5 1 x.bs.length (byC x.bs)) uK (fun _ h=>And.intro (fun hpos=>eU h hpos) (jK h).1) ?_
  rintro⟨hpt,hcap⟩
  have hqs:Rdb E.w0 pt (byC x.bs) (sl pt ct 5 1 x.bs.length (byC x.bs)):=rdb_sl hbl hpt
  refine gg9 ?_
  refine nS (fun q:List Ent×Nat=>[(0,uPt m),(1,.slice (some ⟨g,o,none⟩) l.length ca),(2,.int .i64 (w:Nat)),(8,.slice p ids.length c),(9,uPt s),(10,.int .i64 (ids.length:Nat)),(11,.int .i64 (q.2:Nat)),(13,.nilIface)]) (fun q=>[cells pp [uPt s,uPt tb] 97,tabP tb s (rls (Es++(M++q.1))),bR s most (Es++(M++q.1)),cells m [uPt pp,.map (some bm)] 93,old,sl p c 53 2 ids.length (nlC (mkN l ids)),R]) (fun q=>q.1.length≤120∧q.2≤(Es++(M++q.1)).length∧txt (rls (Es++(M++q.1))) q.2=x.bs) ?_ ?_
  ·have hr1:(Es++M).length+2*x.bs.length≤most:=oO
   have hq3:x.bs≠[]→∃g o,pt=some ⟨g,o,none⟩∧∀k,sl pt ct 5 1 x.bs.length (byC x.bs) k→RdAt E.w0 g o (byC x.bs) k:=fun hne=>hqs (vS hne)
   refine gg15 ?_
   refine bE O (fun w0=>?_) (fun w0=>?_)
   ·refine gg2 ?_
    refine uX (jC hE) O ?_
    rintro _ _⟨rfl,rfl⟩
    simp only[uV,uW]
    refine gg1 ?_
    refine uX (qQp (Es:=Es++M) (s:=s) (most:=most) (tb:=tb) (pp:=pp) (a:=pt) (c:=ct) (q:=sl pt ct 5 1 x.bs.length (byC x.bs)) (bs:=x.bs) hE hB hq3 oO hr1) O ?_
    rintro _ _⟨N,id,rfl,hN,htt,hgd, -,rfl⟩
    simp only[uV,uW]
    rw[List.append_assoc]at htt hgd ⊢
    refine gg7 ?_
    refine fJ (ι:=List Ent×Nat) (N,id) ⟨by simp only;omega,by have:=hgd.1;rwa [bQ]at this,htt⟩ ⟨rfl,rfl,rfl,rfl,rfl,rfl,rfl,rfl,trivial⟩ ?_
    exact uI
   refine gg6 ?_
   refine bE O (fun w1=>?_) (fun w1=>?_)
   ·refine gg3 ?_
    refine uX (ct_bText (Es:=Es++M) (s:=s) (most:=most) (a:=pt) (c:=ct) (q:=sl pt ct 5 1 x.bs.length (byC x.bs)) (bs:=x.bs) hE hqs oO hcap hr1) O ?_
    rintro _ _⟨N,id,rfl,hN,hidl,htt,rfl⟩
    simp only[uV,uW]
    rw[List.append_assoc]at htt hidl ⊢
    refine nX (cO (p:=tabP tb s (rls (Es++M))) (p':=tabP tb s (rls (Es++(M++N)))) uK (fun _ h=>by rw[←List.append_assoc,dB];exact kS _ h)) ?_
    refine gg7 ?_
    refine fJ (ι:=List Ent×Nat) (N,id) ⟨by simp only;omega,hidl,htt⟩ ⟨rfl,rfl,rfl,rfl,rfl,rfl,rfl,rfl,trivial⟩ ?_
    exact uI
   refine gg9 ?_
   refine eZ (fun q:PkG=>[(0,uPt m),(1,.slice (some ⟨g,o,none⟩) l.length ca),(2,.int .i64 (w:Nat)),(8,.slice p ids.length c),(9,uPt s),(10,.int .i64 (ids.length:Nat)),(11,.int .i64 (q.id:Nat)),(12,.slice pt x.bs.length ct),(13,.nilIface),(14,.int .i64 ((q.j:Nat)-1:Int))]) (fun q=>[cells pp [uPt s,uPt tb] 97,tabP tb s (rls (Es++(M++q.N))),bR s most (Es++(M++q.N)),cells m [uPt pp,.map (some bm)] 93,old,sl p c 53 2 ids.length (nlC (mkN l ids)),sl pt ct 5 1 x.bs.length (byC x.bs),R]) (fun q=>q.j)
    (fun q=>q.j≤x.bs.length∧q.N.length≤2*(x.bs.length-q.j)∧q.id≤(Es++(M++q.N)).length∧txt (rls (Es++(M++q.N))) q.id=x.bs.drop q.j) ⟨x.bs.length,[],0⟩ ⟨Nat.le_refl _,Nat.zero_le _,Nat.zero_le _,by simp only[List.drop_length];exact pI _⟩ ⟨rfl,rfl,rfl,rfl,rfl,rfl,rfl,rfl,rfl,rfl,trivial⟩ ?_ ?_
   ·rw[List.append_nil]
    exact uI
   rintro⟨j,N,id⟩⟨hj,hN,hid,hti⟩
   simp only at hj hN hid hti ⊢
   have hEN:(Es++(M++N)).length=Es.length+(M.length+N.length):=by simp only[List.length_append]
   refine gg6 ?_
   refine dY 55 O (fun c1=>?_) (fun c1=>?_)
   ·obtain⟨j,rfl⟩:∃j',j=j'+1:=⟨j-1,oO⟩
    obtain⟨b,hb⟩:∃b,x.bs[j]?=some b:=⟨_,List.getElem?_eq_getElem oO⟩
    obtain⟨gt,rfl⟩:=hpt oO
    have f5:(byC x.bs)[j]?=some (.int .u8 (b.toNat:Nat)):=by unfold byC;rw[List.getElem?_map,hb];rfl
    have hr2:(Es++(M++N)).length<most:=oO
    refine gg18 ?_
    refine l_eq 65 (.pointer (some ⟨gt,j,none⟩)) O (by congr 3;omega) ?_
    refine uL ?_
    refine uX (vV (s:=s) (most:=most) (Es:=Es++(M++N)) hE b hr2) O ?_
    rintro _ _⟨N1,i1,rfl,hN1,hi1,hrl,rfl⟩
    simp only[uV,uW]
    have hi1l:i1≤(Es++(M++N)++N1).length:=by have:=(List.getElem?_eq_some_iff.1 hrl).1;rw[bQ]at this;omega
    have ht1:txt (rls (Es++(M++N)++N1)) i1=[b]:=by
     obtain⟨i,rfl⟩:∃i,i1=i+1:=⟨i1-1,oO⟩
     exact iB hrl
    have ht2:txt (rls (Es++(M++N)++N1)) id=x.bs.drop (j+1):=by rw[dB (Es++(M++N)),gN _ (by rw[bQ];exact hid)];exact hti
    have hE1:(Es++(M++N)++N1).length=(Es++(M++N)).length+N1.length:=List.length_append
    have hid1:id≤(Es++(M++N)++N1).length:=oO
    have hls:len (rls (Es++(M++N)++N1)) i1+len (rls (Es++(M++N)++N1)) id≤dC:=by
     unfold len
     rw[ht1,ht2,List.length_drop]
     have hmx:dC=1152921504606846976:=rfl
     simp only[List.length_cons,List.length_nil]
     omega
    have hr3:(Es++(M++N)++N1).length<most:=oO
    refine gg21 ?_
    refine uX (ct_pairA (s:=s) (most:=most) (Es:=Es++(M++N)++N1) (i:=i1) (j:=id) hE ⟨hi1,hi1l⟩ hid1 hls hr3) O ?_
    rintro _ _⟨N2,id2,rfl,hN2,hid2,htt2,rfl⟩
    simp only[uV,uW]
    have ea:Es++(M++N)++N1++N2=Es++(M++(N++(N1++N2))):=by simp only[List.append_assoc]
    rw[ht1,ht2]at htt2
    rw[ea]at hid2 htt2 ⊢
    refine nX (cO (p:=tabP tb s (rls (Es++(M++N)))) (p':=tabP tb s (rls (Es++(M++(N++(N1++N2)))))) uK (fun _ h=>by rw[←ea,List.append_assoc (Es++(M++N)),dB (Es++(M++N))];exact kS _ h)) ?_
    refine gg13 ?_
    refine bS (ι:=PkG) (j:=⟨j,N++(N1++N2),id2⟩) ⟨by simp only;omega,by simp only[List.length_append];omega,hid2,by simp only;rw[htt2,qM hb];rfl⟩ (by simp only;omega) ⟨rfl,rfl,rfl,rfl,rfl,rfl,rfl,rfl,rfl,congrArg some (bW (by simp only;omega)),trivial⟩ ?_
    exact uI
   obtain rfl:j=0:=by omega
   refine gg11 ?_
   refine fJ (ι:=List Ent×Nat) (N,id) ⟨by simp only;omega,hid,by simpa using hti⟩ ⟨rfl,rfl,rfl,rfl,rfl,rfl,rfl,rfl,trivial⟩ ?_
   exact uI
  rintro⟨N,id⟩⟨hN,hid,hti⟩
  simp only at hN hid hti ⊢
  refine gg19 ?_
  refine uU ?_
  refine aU (hE.t O) (hE.t O) O O O (fun b106=>?_)
  refine uU ?_
  apply bU (hE.t O) (hE.t O) O O O
  ·exact uK
  ·exact uK
  ·rfl
  ·rfl
  ·omega
  ·omega
  ·(unfold maxLen;omega)
  intro g107 c107 n107 x107 hn107 hx107
  refine gg9 ?_
  have hil:(ids++[id]).length=ids.length+1:=by simp
  obtain rfl:x107=nlC (mkN l (ids++[id])):=by rw[hx107,mkN_snoc hx];rfl
  subst hn107
  refine bS (ι:=PuG) (j:=⟨ids++[id],M++N,some ⟨g107,0,none⟩,c107⟩) ⟨by simp only;omega,by simp only[List.length_append,List.length_singleton];omega,?_⟩ (by simp only;omega) ⟨rfl,rfl,rfl,by simp only[hil];rfl,rfl,by simp only[hil];exact congrArg some (bW oO),trivial⟩ ?_
  ·simp only
   refine Txs.snoc ?_ hx (by rw[bQ];exact hid) hti
   rw[←List.append_assoc,dB]
   exact htx.ext _
  simp only[hil]
  exact uI
 have he:ids.length=l.length:=oO
 refine gg13 ?_
 apply cB
 ·rfl
 ·(apply Rs.tmp rfl;apply Rs.tmp rfl;exact Rs.nil)
 ·exact⟨M,ids,p,c,by rw[he];rfl,oO,he,htx,rfl⟩
 rw[he]
 exact uI
end
section
variable {E:Env}{Es:List Ent}{pp tb s most m bm:Nat}{f:Int→Option Value}
def Lim (N:Nat):List (Nat×Bool)→Prop
 |[]=>True
 |(x,_)::st=>st.length≤3*(N-x)∧Lim N st
theorem lim_len {N:Nat}{st:List (Nat×Bool)}(h:Lim N st):st.length≤3*N+1:=by
 cases st with
 |nil=>simp
 |cons q st=>obtain⟨x,b⟩:=q;have:=h.1;simp only[List.length_cons];omega
theorem lim_open {L:List Rl}(hw:Wf L){n:Nat}{r:Rl}(h:L[n]?=some r){b:Bool}{st:List (Nat×Bool)}(hs:Lim L.length ((n+1,b)::st)):Lim L.length (qNl r (n+1) st):=by
 have hl:=(List.getElem?_eq_some_iff.1 h).1
 have ho:=hw.ok n r h
 obtain⟨h1,h2⟩:=hs
 cases r with
 |letter b=>exact⟨h1,h2⟩
 |pair a b=>
  simp only[Rl.ok]at ho
  have e1:((n+1,true)::st).length=st.length+1:=rfl
  exact⟨by show((b,false)::(n+1,true)::st).length≤_;simp only[List.length_cons];omega,by show((n+1,true)::st).length≤_;simp only[List.length_cons];omega,h1,h2⟩
 |power a k=>
  simp only[Rl.ok]at ho
  exact⟨by show((n+1,true)::st).length≤_;simp only[List.length_cons];omega,h1,h2⟩
theorem qAb (hE:Seat E){xs:List Nat}{n:Nat}(hxn:xs.length=n){a:Option Addr}{ca:Nat}(hx:∀x∈xs,x≤Es.length) (hn:n≤50000):
  Ct E 29 [uPt s,.slice a n ca] [bR s most Es,sl a ca 44 1 n (idC xs)]
   (fun v Q=>∃p c,v= .slice p (dD (rls Es) xs []).length c∧Q=[bR s most Es,sl a ca 44 1 n (idC xs),sl p c 44 1 (dD (rls Es) xs []).length (idC (dD (rls Es) xs []))]):=by
 refine eQ (p:=bR s most Es) uK (fun _ h=>dR h) (fun hsay=>?_)
 have hmr:fB=1048576:=rfl
 have hLl:=bQ Es
 have hx1:∀x∈xs,x≤(rls Es).length:=fun x h=>by have:=hx x h;omega
 have hEm:(rls Es).length≤1048576:=by have:=hsay;omega
 refine bO (hE.fn Tryz.func29) O O O (fun R=>?_)
 simp only[dU,uV,uW]
 refine gg17 ?_
 refine uU ?_
 refine rZ .i64 (fun b15=>?_)
 refine uU ?_
 apply qIb (kt:=44) (et:=4) (by rw[hE.P];kernel_rfl) (by rw[hE.P];kernel_rfl) O O O
 ·exact uK
 refine gg13 ?_
 rw[qSj]
 refine eZ (fun q:LoG=>[(0,uPt s),(5,.slice q.p (q.acc).length q.c),(6,.slice q.ps (([]:List (Nat×Bool))).length q.cs),(7,.map (some b15)),(17,.slice a n ca),(18,.int .i64 (n:Nat)),(19,.int .i64 (q.k:Nat))]) (fun q=>[bR s most Es,sl a ca 44 1 n (idC xs),mapF b15 .i64 (lsF q.acc),sl q.p q.c 44 1 (q.acc).length (idC (q.acc)),sl q.ps q.cs 133 2 (([]:List (Nat×Bool))).length (stC (([]:List (Nat×Bool)))),R]) (fun q=>n-q.k) (fun q=>q.k≤n∧q.acc=dD (rls Es) (xs.take q.k) []) ⟨0,[],none,0,none,0⟩ ⟨Nat.zero_le _,O⟩ ⟨O,O,O,O,O,O,O,trivial⟩ ?_ ?_
 ·apply cZ (iP (t:=44) (sz:=1))
  apply cZ (iP (t:=133) (sz:=2))
  exact uI
 rintro⟨k,acc,p,c,ps,cs⟩⟨hk,hacc⟩
 simp only at hk hacc ⊢
 have hnl:([]:List (Nat×Bool)).length=0:=rfl
 refine gg6 ?_
 refine bE O (fun h=>?_) (fun h=>?_)
 ·have hlt:k<xs.length:=oO
  obtain⟨x,hxi⟩:∃x,xs[k]?=some x:=⟨_,List.getElem?_eq_getElem hlt⟩
  have hxx:=hx x (List.mem_of_getElem? hxi)
  have htk:xs.take (k+1)=xs.take k++[x]:=by rw[List.take_add_one,hxi];rfl
  have hvs:dD (rls Es) (xs.take (k+1)) []=visit (rls Es) x acc:=by rw[htk,xB,hacc];rfl
  have hao:AccOk (rls Es) acc:=by rw[hacc];exact AccOk.visits hsay.1 (fun y hy=>hx1 y (List.mem_of_mem_take hy))
  refine iJ (p:=sl a ca 44 1 n (idC xs)) uK (fun _ h=>eU h oO) ?_
  rintro⟨gx,rfl⟩
  have f0:=fP hxi (0+((k:Nat):Int).toNat) oO
  have f1:=fP hxi (((k:Nat):Int).toNat) oO
  refine gg16 ?_
  refine uU ?_
  refine aU (hE.t O) (hE.t O) O O O (fun b26=>?_)
  refine uU ?_
  apply bU (hE.t O) (hE.t O) O O O
  ·exact uK
  ·exact uK
  ·rfl
  ·rfl
  ·omega
  ·omega
  ·(unfold maxLen;omega)
  intro g27 c27 n27 x27 hn27 hx27
  refine gg4 ?_
  obtain rfl:x27=stC [(x,false)]:=by rw[hx27];rfl
  subst hn27
  refine eZ (fun q:LiG=>[(0,uPt s),(5,.slice q.p (q.acc).length q.c),(6,.slice q.ps (q.st).length q.cs),(7,.map (some b15)),(17,.slice (some ⟨gx,0,none⟩) n ca),(18,.int .i64 (n:Nat)),(19,.int .i64 (k:Nat))]) (fun q=>[bR s most Es,sl (some ⟨gx,0,none⟩) ca 44 1 n (idC xs),mapF b15 .i64 (lsF q.acc),sl q.p q.c 44 1 (q.acc).length (idC (q.acc)),sl q.ps q.cs 133 2 (q.st).length (stC (q.st)),R]) (fun q=>rF (rls Es) q.st) (fun q=>runS (rls Es) q.st q.acc=dD (rls Es) (xs.take (k+1)) []∧StOk (rls Es) q.st∧Lim (rls Es).length q.st∧AccOk (rls Es) q.acc) ⟨[(x,false)],acc,p,c,some ⟨g27,0,none⟩,c27⟩ ⟨hvs.symm,fun q hq=>by
   obtain rfl:=List.mem_singleton.1 hq
   exact⟨by simp only;omega,fun h=>by cases h⟩,⟨Nat.zero_le _,trivial⟩,hao⟩ ⟨rfl,rfl,rfl,rfl,rfl,rfl,rfl,trivial⟩ uI ?_
  clear hao hvs hacc
  rintro⟨st,acc,p,c,ps,cs⟩⟨hrun,hst,hwk,hao⟩
  simp only at hrun hst hwk hao ⊢
  have hal:=hao.len
  have hsl:=lim_len hwk
  refine gg8 ?_
  refine bE O (fun h2=>?_) (fun h2=>?_)
  ·obtain⟨y,b,st,rfl⟩:∃y b st',st=(y,b)::st':=by
    cases st with
    |nil=>simp at h2
    |cons q st=>exact⟨q.1,q.2,st,rfl⟩
   have hyy:=hst (y,b) (by simp)
   simp only at hyy
   have hstl:((y,b)::st).length=st.length+1:=rfl
   have hws:=qDw (rls Es) y b st
   obtain⟨f2,f3⟩:=qTs (st:=st) (x:=y) (b:=b)
   refine iJ (p:=sl ps cs 133 2 ((y,b)::st).length (stC ((y,b)::st))) uK (fun _ h=>And.intro (eU h oO) (jK h).1) ?_
   rintro⟨⟨gs,rfl⟩,hcap⟩
   refine gg10 ?_
   refine l_eq 35 _ O (st_ptr (st:=st) hstl) ?_
   refine gg1 ?_
   refine uU (dA (hE.t O) (fun b10=>?_))
   refine gg9 ?_
   refine uB (fU st.length O O (hE.t O) oO oO) ?_
   refine gg3 ?_
   refine jE (cO (p:=sl (some ⟨gs,0,none⟩) cs 133 2 ((y,b)::st).length (stC ((y,b)::st))) (p':=sl (some ⟨gs,0,none⟩) cs 133 2 st.length (stC st)) uK (lS oO (by rw[←uG];simp[stC]) (by simp))) ?_
   by_cases hin:y=0∨y∈acc
   ·have hf:=lsF_in hin
    refine gg6 ?_
    refine uB (kQ (kt:=44) (et:=4) (z:= .bool false) (by rw[hE.P];kernel_rfl) (by rw[hE.P];kernel_rfl) (fun w=>by rw[hE.P];kernel_rfl) rfl rfl uK (by assumption)) ?_
    refine gg2 ?_
    refine w_eq 45 (.bool true) O O ?_
    refine gg4 ?_
    refine bS (ι:=LiG) (j:=⟨st,acc,p,c,some ⟨gs,0,none⟩,cs⟩) ⟨by rw[←qIv hst hin];exact hrun,hst.tail,hwk.2,hao⟩ hws ⟨rfl,rfl,rfl,rfl,rfl,rfl,rfl,trivial⟩ ?_
    exact uI
   have hf:=qSk hin
   refine gg6 ?_
   refine uB (kQ (kt:=44) (et:=4) (z:= .bool false) (by rw[hE.P];kernel_rfl) (by rw[hE.P];kernel_rfl) (fun w=>by rw[hE.P];kernel_rfl) rfl rfl uK (by assumption)) ?_
   refine gg2 ?_
   refine w_eq 45 (.bool false) O O ?_
   refine gg10 ?_
   refine xC O (fun hb=>?_) (fun hb=>?_)
   ·subst hb
    refine gg5 ?_
    refine uU ?_
    apply mJ (kt:=44) (et:=4) (by rw[hE.P];kernel_rfl) (by rw[hE.P];kernel_rfl) O O O
    ·exact uK
    refine gg2 ?_
    rw[qSl]
    refine gg5 ?_
    refine uU ?_
    refine aU (hE.t O) (hE.t O) O O O (fun b54=>?_)
    refine uU ?_
    apply bU (hE.t O) (hE.t O) O O O
    ·exact uK
    ·exact uK
    ·rfl
    ·rfl
    ·omega
    ·omega
    ·(unfold maxLen;omega)
    intro g55 c55 n55 x55 hn55 hx55
    refine gg6 ?_
    obtain rfl:x55=idC (acc++[y]):=by rw[hx55,lT];rfl
    have hal2:(acc++[y]).length=acc.length+1:=by simp
    subst hn55
    refine bS (ι:=LiG) (j:=⟨st,acc++[y],some ⟨g55,0,none⟩,c55,some ⟨gs,0,none⟩,cs⟩) ⟨by rw[←qIt hin];exact hrun,hst.tail,hwk.2,hao.snoc oO hin⟩ hws ⟨rfl,by simp only[hal2];rfl,rfl,rfl,rfl,rfl,rfl,trivial⟩ ?_
    simp only[hal2]
    exact uI
   subst hb
   obtain⟨i,rfl⟩:∃i,y=i+1:=⟨y-1,by have:y≠0:=fun e=>hin (.inl e);omega⟩
   have hent:Es[i]?=some (Es[i]'oO):=List.getElem?_eq_getElem oO
   generalize Es[i]'oO=en at hent
   have hri:=sK hent
   have hkk:=qFc en.r
   have hwr:=qJn hsay.1 hri st
   have hrr:=qIu hsay.1 hri (fun h=>hin (.inr h)) st
   have hso:=qJg hsay.1 hri hst.tail
   refine gg8 ?_
   refine uU ?_
   refine aU (hE.t O) (hE.t O) O O O (fun b60=>?_)
   refine uU ?_
   apply bU (hE.t O) (hE.t O) O O O
   ·exact uK
   ·exact uK
   ·rfl
   ·rfl
   ·omega
   ·omega
   ·(unfold maxLen;omega)
   intro g61 c61 n61 x61 hn61 hx61
   refine gg8 ?_
   obtain rfl:x61=stC ((i+1,true)::st):=by rw[hx61];rfl
   subst hn61
   refine uX (nK hE hent) O ?_
   rintro _ _⟨rfl,rfl⟩
   simp only[uV,uW]
   refine gg3 ?_
   refine uU (dA (hE.t O) (fun b11=>?_))
   refine gg7 ?_
   refine uX (qEn hE en.r) O ?_
   rintro _ _⟨pk,ck,rfl,rfl⟩
   simp only[uV,uW]
   refine gg12 ?_
   refine eZ (fun q:LkG=>[(0,uPt s),(5,.slice p acc.length c),(6,.slice q.ps (((kids en.r).drop q.j).map (·,false)++(i+1,true)::st).length q.cs),(7,.map (some b15)),(13,.slice pk (kids en.r).length ck),(14,.int .i64 ((q.j:Nat)-1:Int)),(17,.slice (some ⟨gx,0,none⟩) n ca),(18,.int .i64 (n:Nat)),(19,.int .i64 (k:Nat))])
    (fun q=>[bR s most Es,sl (some ⟨gx,0,none⟩) ca 44 1 n (idC xs),mapF b15 .i64 (lsF acc),sl p c 44 1 acc.length (idC acc),sl q.ps q.cs 133 2 (((kids en.r).drop q.j).map (·,false)++(i+1,true)::st).length (stC (((kids en.r).drop q.j).map (·,false)++(i+1,true)::st)),sl pk ck 44 1 (kids en.r).length (idC (kids en.r)),R]) (fun q=>q.j) (fun q=>q.j≤(kids en.r).length) ⟨(kids en.r).length,some ⟨g61,0,none⟩,c61⟩ (Nat.le_refl _) ⟨rfl,rfl,by simp only[List.drop_length];rfl,rfl,rfl,rfl,rfl,rfl,rfl,trivial⟩ ?_ ?_
   ·simp only[List.drop_length,List.map_nil,List.nil_append,List.length_cons]
    exact uI
   rintro⟨j,ps,cs⟩hj
   simp only at hj ⊢
   have hjl:(((kids en.r).drop j).map (·,false)++(i+1,true)::st).length=(kids en.r).length-j+1+st.length:=by simp;omega
   refine gg7 ?_
   refine bE O (fun h4=>?_) (fun h4=>?_)
   ·obtain⟨j,rfl⟩:∃j',j=j'+1:=⟨j-1,oO⟩
    obtain⟨z,hz⟩:∃z,(kids en.r)[j]?=some z:=⟨_,List.getElem?_eq_getElem oO⟩
    have f4:=fP hz j O
    refine iJ (p:=sl pk ck 44 1 (kids en.r).length (idC (kids en.r))) uK (fun _ h=>eU h oO) ?_
    rintro⟨gk,rfl⟩
    refine gg9 ?_
    refine l_eq 81 (.pointer (some ⟨gk,j,none⟩)) O (by congr 3;omega) ?_
    refine gg2 ?_
    refine uU ?_
    refine aU (hE.t O) (hE.t O) O O O (fun b84=>?_)
    refine uU ?_
    apply bU (hE.t O) (hE.t O) O O O
    ·exact uK
    ·exact uK
    ·rfl
    ·rfl
    ·omega
    ·omega
    ·(unfold maxLen;omega)
    intro g85 c85 n85 x85 hn85 hx85
    refine gg9 ?_
    have hdr:((kids en.r).drop j).map (·,false)=(z,false)::((kids en.r).drop (j+1)).map (·,false):=by rw[qM hz];rfl
    obtain rfl:x85=stC (((kids en.r).drop j).map (·,false)++(i+1,true)::st):=by rw[hx85,hdr];rfl
    have hjl2:(((kids en.r).drop j).map (·,false)++(i+1,true)::st).length=(((kids en.r).drop (j+1)).map (·,false)++(i+1,true)::st).length+1:=by rw[hdr];rfl
    subst hn85
    refine bS (ι:=LkG) (j:=⟨j,some ⟨g85,0,none⟩,c85⟩) (by simp only;omega) (by simp only;omega) ⟨O,O,by simp only[hjl2];rfl,rfl,rfl,congrArg some (bW (by simp only;omega)),rfl,rfl,rfl,trivial⟩ ?_
    simp only[hjl2]
    exact uI
   obtain rfl:j=0:=by omega
   refine gg5 ?_
   refine bS (ι:=LiG) (j:=⟨qNl en.r (i+1) st,acc,p,c,ps,cs⟩) ⟨by rw[←hrun,hrr];rfl,hso,lim_open hsay.1 hri hwk,hao⟩ hwr ⟨rfl,rfl,rfl,rfl,rfl,rfl,rfl,trivial⟩ ?_
   exact uI
  obtain rfl:st=[]:=List.eq_nil_of_length_eq_zero oO
  refine gg10 ?_
  refine bS (ι:=LoG) (j:=⟨k+1,acc,p,c,ps,cs⟩) ⟨by simp only;omega,hrun⟩ (by simp only;omega) ⟨rfl,rfl,rfl,rfl,rfl,rfl,congrArg some (bW (by simp only;omega)),trivial⟩ ?_
  exact uI
 obtain rfl:k=n:=by omega
 have hall:xs.take k=xs:=List.take_of_length_le oO
 rw[hall]at hacc
 subst hacc
 refine gg12 ?_
 exact uZ O (.tmp O .nil) ⟨p,c,O,O⟩
end
end Go.Proofs.YtlmpojkmeglepaaGreatDoor
