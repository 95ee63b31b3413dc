import Derived.Test.YtlmpojkmeglepaaGreatDoorQ31
import Derived.Test.YtlmpojkmeglepaaGreatDoorQ61
set_option linter.all false
set_option maxHeartbeats 1000000
namespace Go.Proofs.YtlmpojkmeglepaaGreatDoor
open Go Go.RowKit Sl Eg
set_option maxRecDepth 10000
section
variable {E:Env}{Es:List Ent}{pp tb s most:Nat}
def cpC (st:List (Nat×Nat)):List Value:=st.flatMap fun p=>[.int .i64 (p.1:Nat),.int .i64 (p.2:Nat)]
theorem nS (a b:List (Nat×Nat)):cpC (a++b)=cpC a++cpC b:=by simp[cpC]
theorem rV:∀(st:List (Nat×Nat)),(cpC st).length=st.length*2
 |[]=>rfl
 |p::st=>by
  have:=rV st
  simp only[cpC,List.flatMap_cons,List.length_append,List.length_cons,List.length_nil]at this ⊢;omega
theorem qDw (st:List (Nat×Nat))(x t:Nat):cpC (st++[(x,t)])=cpC st++ .int .i64 (x:Nat):: .int .i64 (t:Nat)::[]:=by simp[cpC]
theorem qOn {st:List (Nat×Nat)}{x t:Nat}:(cpC (st++[(x,t)]))[(cpC st).length]?=some (.int .i64 (x:Nat))∧(cpC (st++[(x,t)]))[(cpC st).length+1]?=some (.int .i64 (t:Nat)):=by
 rw[qDw];exact⟨ap_0,ap_1⟩
theorem cp_set {st:List (Nat×Nat)}{x t u:Nat}:bX (cpC (st++[(x,t)])) ((cpC st).length+1) [.int .i64 (u:Nat)]=cpC (st++[(x,u)]):=by
 rw[qDw,qDw,sm_1]
theorem cp_ptr {st:List (Nat×Nat)}{g n:Nat}(h:n=st.length+1):(.pointer (some ⟨g,0+(((n:Nat):Int)-1).toNat*2,none⟩):Value)= .pointer (some ⟨g,(cpC st).length,none⟩):=by
 rw[rV,show 0+(((n:Nat):Int)-1).toNat*2=st.length*2 by omega]
structure SplG where
 st:List (Nat×Nat)
 done:List UInt8
 p:Option Addr
 c:Nat
 g:Nat
 cc:Nat
theorem ct_spell (hE:Seat E){bt g0 c0 x0:Nat}{pre:List UInt8}(hx0:1≤x0∧x0≤Es.length)(hl0:pre.length+len (rls Es) x0≤65536):Ct E 70 [uPt s,.int .i64 (x0:Nat),uPt bt] [bR s most Es,cells bt [.slice (some ⟨g0,0,none⟩) pre.length c0] 29,sl (some ⟨g0,0,none⟩) c0 5 1 pre.length (byC pre)]
  (fun v Q=>∃g c,v= .nilIface∧Q=[bR s most Es,cells bt [.slice (some ⟨g,0,none⟩) (pre++txt (rls Es) x0).length c] 29,sl (some ⟨g,0,none⟩) c 5 1 (pre++txt (rls Es) x0).length (byC (pre++txt (rls Es) x0))]):=by
 refine eZ (p:=bR s most Es) uK (fun _ h=>dR h) (fun hsay=>?_)
 have hLl:=bQ Es
 have hlen0:len (rls Es) x0=(txt (rls Es) x0).length:=rfl
 refine bO (hE.fn Tryz.func70) O O O (fun R=>?_)
 simp only[dY,uV,uW]
 refine dO (uA O (dN (dO (uM O (uB (dV (hE.t O) O O) ?_)))))
 refine uU ?_
 refine aU (hE.t O) (hE.t O) O O O (fun b14=>?_)
 refine uA O (dN (aL (bK ?_)))
 refine iU (cO (p:=cells b14 [.int .i64 (x0:Nat),.int .i64 1] 198) (p':=sl (some ⟨b14,0,none⟩) 1 198 2 1 (cpC [(x0,1)])) uK (eO O (by unfold maxLen;omega))) ?_
 refine fD (fun q:SplG=>[(0,uPt s),(2,uPt bt),(7,.slice q.p q.st.length q.c)]) (fun q=>[bR s most Es,cells bt [.slice (some ⟨q.g,0,none⟩) q.done.length q.cc] 29,sl (some ⟨q.g,0,none⟩) q.cc 5 1 q.done.length (byC q.done),sl q.p q.c 198 2 q.st.length (cpC q.st),R]) (fun q=>spM (rls Es) q.st) (fun q=>q.done++spT (rls Es) q.st=pre++txt (rls Es) x0∧SpOk (rls Es) q.st∧spM (rls Es) q.st≤131072) ⟨[(x0,1)],pre,some ⟨b14,0,none⟩,1,g0,c0⟩ ⟨by simp only[qFn],fun q hq=>by
  obtain rfl:=List.mem_singleton.1 hq
  exact⟨hx0.1,oO,Nat.le_refl _⟩,by simp only[nP];omega⟩ ⟨rfl,rfl,rfl,trivial⟩ uI ?_
 rintro⟨st,done,p,c,g,cc⟩⟨htx,hok,hms⟩
 simp only at htx hok hms ⊢
 have hsl:=hok.len hsay.1
 have htl:=congrArg List.length htx
 simp only[List.length_append]at htl
 refine aL (dO (uM O (uB (uBl O) (uB (y_gt O O) (dN ?_)))))
 refine bE O (fun h=>?_) (fun h=>?_)
 ·obtain⟨ini,x,t,rfl⟩:∃ini x t,st=ini++[(x,t+1)]:=by
   rcases List.eq_nil_or_concat st with rfl|⟨ini,⟨x,t⟩,rfl⟩
   ·simp at h
   rw[List.concat_eq_append]at hok
   have:=(hok (x,t) (by simp)).2.2
   exact⟨ini,x,t-1,by rw[List.concat_eq_append,Nat.sub_add_cancel this]⟩
  have hil:(ini++[(x,t+1)]).length=ini.length+1:=by simp
  have hT:=spT_pop (rls Es) ini x t
  have hM:=spM_pop (rls Es) ini x t
  have hok':=hok.pop
  have hxx:=hok (x,t+1) (by simp)
  simp only at hxx
  obtain⟨i,rfl⟩:∃i,x=i+1:=⟨x-1,oO⟩
  have hent:Es[i]?=some (Es[i]'oO):=List.getElem?_eq_getElem oO
  generalize Es[i]'oO=en at hent
  have hri:(rls Es)[i]?=some en.r:=by simp[rls,hent]
  have hpl:=rV ini
  obtain⟨f0,f1⟩:=qOn (st:=ini) (x:=i+1) (t:=t+1)
  obtain⟨f2,f3⟩:=qOn (st:=ini) (x:=i+1) (t:=t)
  refine iT (p:=sl p c 198 2 (ini++[(i+1,t+1)]).length (cpC (ini++[(i+1,t+1)]))) uK (fun _ h=>And.intro (fB h oO) (lH h).1) ?_
  rintro⟨⟨g7,rfl⟩,hcap⟩
  have hlp:=hsay.1.pos (i+1) oO oO
  have htb:t+1≤131072:=by
   have e:=hms
   rw[lM,nP]at e
   have:=Nat.mul_le_mul_left (t+1) (show 1≤2*len (rls Es) (i+1)-1 by omega)
   omega
  have hLe:en.r.ok (i+1):=hsay.1.ok _ _ hri
  refine bC (aK (bK (dO (uM O (uM O (uB (uBl O) (uB (uAs O O) (uB (uAi O O) ?_))))))))
  refine l_eq 22 _ O (cp_ptr (st:=ini) hil) ?_
  refine uA O (dN (dO (uM O (uB (bA O) (uB (uBf O) ?_)))))
  refine uL ?_
  refine uA O (dN (aL (dO (uM O (uB (bA O) (uB (uBf O) ?_))))))
  refine uL ?_
  refine uB (uAs O O) ?_
  refine l_eq 31 (.int .i64 (t:Nat)) O (bW oO) ?_
  refine uB (bA O) (uB (uBf O) ?_)
  refine uU (uJ ?_)
  refine dN ?_
  simp only[bP]
  rw[cp_set]
  refine dO (uM O (uB (bA O) (uB (uBf O) ?_)))
  refine uL ?_
  refine uB (y_eq O O) (dN ?_)
  refine bE O (fun hz=>?_) (fun hz=>?_)
  ·obtain rfl:t=0:=by omega
   have hpp:qIe ini (i+1) 0=ini:=if_pos O
   rw[hpp]at hT hM hok'
   refine aJ (uM O (uM O (uB (uBl O) (uB (uAs O O) (uB (fV ini.length O O (hE.t O) oO oO) ?_)))))
   refine uA O (dN ?_)
   refine iU (cO (p:=sl (some ⟨g7,0,none⟩) c 198 2 (ini++[(i+1,0+1)]).length (cpC (ini++[(i+1,0)]))) (p':=sl (some ⟨g7,0,none⟩) c 198 2 ini.length (cpC ini)) uK (lD oO (by rw[nS,←rV];simp) (by simp))) ?_
   refine dO (uM O (uM O (uX (mD hE hent) O ?_)))
   rintro _ _⟨rfl,rfl⟩
   simp only[uV,uW]
   refine uM O (uB (aT O O) (uB (aT O O) (uU (dA (hE.t O) (fun b10=>?_)))))
   refine uU (uS ?_)
   refine uA O (dN (aL (dO (uM O (uB (dU O (hE.t O)) ?_)))))
   refine dN (bD O ?_)
   generalize hre:en.r=r at hri
   cases r with
   |letter b=>
    have hxt:txt (rls Es) (i+1)=[b]:=jG hri
    refine bC (aK (dO (uB (uBf O) ?_)))
    refine uL ?_
    refine dN (bK (dO (uB (y_eq O O) (uA O (dN (bF O ?_))))))
    refine uN 9 ([cells bt [.slice (some ⟨g,0,none⟩) done.length cc] 29,cells b10 [.int .i64 (Rl.kind ((Rl.letter b)):Nat),.int .u8 (Rl.byte ((Rl.letter b)):Nat),.int .i64 (Rl.left ((Rl.letter b)):Nat),.int .i64 (Rl.right ((Rl.letter b)):Nat),.int .i64 (Rl.times ((Rl.letter b)):Nat)] 86]) ?_
    refine uT 0 O (aB O) (uT 1 O (aB O) (uT 2 O (bA O) ?_))
    refine uT 3 O (uY) ?_
    apply dG 4 O oK
    ·exact uBf O
    ·rfl
    apply dG 5 O oK
    ·(apply aO rfl (hE.t rfl) rfl;(repeat(first |rfl|assumption|constructor));done)
    ·rfl
    apply eH 6 O oK O
    refine aU (hE.t O) (hE.t O) O O O (fun b71=>?_)
    refine uE ?_
    apply eH 7 O oK O
    apply bU (hE.t O) (hE.t O) O O O
    ·exact uK
    ·exact uK
    ·rfl
    ·rfl
    ·omega
    ·omega
    ·(unfold maxLen;omega)
    intro g72 c72 n72 x72 hn72 hx72
    refine uE ?_
    apply dG 8 O oK
    ·exact bA O
    ·rfl
    apply iB O oK oK O
    refine uS ?_
    refine bI (bI ?_)
    obtain rfl:x72=byC (done++[b]):=by rw[hx72,gK];rfl
    have hdl:(done++[b]).length=done.length+1:=by simp
    refine bS (ι:=SplG) (j:=⟨ini,done++[b],some ⟨g7,0,none⟩,c,g72,c72⟩) ⟨by simp only;rw[List.append_assoc,←htx,hT,hxt],hok',by simp only;omega⟩ (by simp only;omega) ⟨rfl,rfl,rfl,trivial⟩ ?_
    simp only[hdl]
    subst hn72
    exact uI
   |pair a b=>
    obtain⟨hm,ht⟩:=qLu hsay.1 hri (ini)
    have hpo:=hsay.1.ok _ _ hri
    simp only[Rl.ok]at hpo
    have hok2:SpOk (rls Es) (ini++[(b,1),(a,1)]):=hok'.push (fun q hq=>by
     simp only[List.mem_cons,List.not_mem_nil,or_false]at hq
     rcases hq with rfl|rfl
     ·exact⟨by simp only;omega,by simp only;omega,Nat.le_refl _⟩
     exact⟨by simp only;omega,by simp only;omega,Nat.le_refl _⟩)
    refine bC (aK (dO (uB (uBf O) ?_)))
    refine uL ?_
    refine dN (bK (dO (uB (y_eq O O) (uA O (dN (bD O (dO (uB (y_eq O O) (uA O (dN (bF O (aJ (uM O (uB (uBf O) ?_))))))))))))))
    refine uL ?_
    refine uB (dV (hE.t O) O O) ?_
    refine uB (uBf O) ?_
    refine uL ?_
    refine uB (dV (hE.t O) O O) ?_
    refine uU ?_
    refine aU (hE.t O) (hE.t O) O O O (fun b83=>?_)
    refine uU ?_
    apply bU (hE.t O) (hE.t O) O O O
    ·exact uK
    ·exact uK
    ·rfl
    ·rfl
    ·omega
    ·omega
    ·(unfold maxLen;omega)
    intro g84 c84 n84 x84 hn84 hx84
    refine uA O (aM (bI (bI ?_)))
    obtain rfl:x84=cpC (ini++[(b,1),(a,1)]):=by rw[hx84];exact(nS (ini) [(b,1),(a,1)]).symm
    have hdl:(ini++[(b,1),(a,1)]).length=(ini).length+2:=by simp
    refine bS (ι:=SplG) (j:=⟨ini++[(b,1),(a,1)],done,some ⟨g84,0,none⟩,c84,g,cc⟩) ⟨by simp only;rw[←htx,hT,ht],hok2,by simp only;omega⟩ (by simp only;omega) ⟨rfl,rfl,by simp only[hdl];rw[hn84];rfl,trivial⟩ ?_
    simp only[hdl]
    subst hn84
    exact uI
   |power a k=>
    obtain⟨hm,ht⟩:=qId hsay.1 hri (ini)
    have hpo:=hsay.1.ok _ _ hri
    simp only[Rl.ok]at hpo
    have hok2:SpOk (rls Es) (ini++[(a,k)]):=hok'.push (fun q hq=>by
     obtain rfl:=List.mem_singleton.1 hq
     exact⟨by simp only;omega,by simp only;omega,by simp only;omega⟩)
    refine bC (aK (dO (uB (uBf O) ?_)))
    refine uL ?_
    refine dN (bK (dO (uB (y_eq O O) (uA O (dN (bD O (dO (uB (y_eq O O) (uA O (dN (bD O (aJ (uM O (uB (uBf O) ?_))))))))))))))
    refine uL ?_
    refine uB (uBf O) ?_
    refine uL ?_
    refine uB (dV (hE.t O) O O) ?_
    refine uU ?_
    refine aU (hE.t O) (hE.t O) O O O (fun b61=>?_)
    refine uU ?_
    apply bU (hE.t O) (hE.t O) O O O
    ·exact uK
    ·exact uK
    ·rfl
    ·rfl
    ·omega
    ·omega
    ·(unfold maxLen;omega)
    intro g62 c62 n62 x62 hn62 hx62
    refine uA O (aM (bI (bI ?_)))
    obtain rfl:x62=cpC (ini++[(a,k)]):=by rw[hx62];exact(nS (ini) [(a,k)]).symm
    have hdl:(ini++[(a,k)]).length=(ini).length+1:=by simp
    refine bS (ι:=SplG) (j:=⟨ini++[(a,k)],done,some ⟨g62,0,none⟩,c62,g,cc⟩) ⟨by simp only;rw[←htx,hT,ht],hok2,by simp only;omega⟩ (by simp only;omega) ⟨rfl,rfl,by simp only[hdl];rw[hn62];rfl,trivial⟩ ?_
    simp only[hdl]
    subst hn62
    exact uI
  obtain⟨t,rfl⟩:∃t',t=t'+1:=⟨t-1,oO⟩
  have hpp:qIe ini (i+1) (t+1)=ini++[(i+1,t+1)]:=if_neg oO
  rw[hpp]at hT hM hok'
  have hil2:(ini++[(i+1,t+1)]).length=ini.length+1:=by simp
  have hil3:(ini++[(i+1,t+1+1)]).length=(ini++[(i+1,t+1)]).length:=by simp
  rw[hil3]
  refine bC (aK (dO (uM O (uM O (uX (mD hE hent) O ?_)))))
  rintro _ _⟨rfl,rfl⟩
  simp only[uV,uW]
  refine uM O (uB (aT O O) (uB (aT O O) (uU (dA (hE.t O) (fun b10=>?_)))))
  refine uU (uS ?_)
  refine uA O (dN (aL (dO (uM O (uB (dU O (hE.t O)) ?_)))))
  refine dN (bD O ?_)
  generalize hre:en.r=r at hri
  cases r with
  |letter b=>
   have hxt:txt (rls Es) (i+1)=[b]:=jG hri
   refine bC (aK (dO (uB (uBf O) ?_)))
   refine uL ?_
   refine dN (bK (dO (uB (y_eq O O) (uA O (dN (bF O ?_))))))
   refine uN 9 ([cells bt [.slice (some ⟨g,0,none⟩) done.length cc] 29,cells b10 [.int .i64 (Rl.kind ((Rl.letter b)):Nat),.int .u8 (Rl.byte ((Rl.letter b)):Nat),.int .i64 (Rl.left ((Rl.letter b)):Nat),.int .i64 (Rl.right ((Rl.letter b)):Nat),.int .i64 (Rl.times ((Rl.letter b)):Nat)] 86]) ?_
   refine uT 0 O (aB O) (uT 1 O (aB O) (uT 2 O (bA O) ?_))
   refine uT 3 O (uY) ?_
   apply dG 4 O oK
   ·exact uBf O
   ·rfl
   apply dG 5 O oK
   ·(apply aO rfl (hE.t rfl) rfl;(repeat(first |rfl|assumption|constructor));done)
   ·rfl
   apply eH 6 O oK O
   refine aU (hE.t O) (hE.t O) O O O (fun b71=>?_)
   refine uE ?_
   apply eH 7 O oK O
   apply bU (hE.t O) (hE.t O) O O O
   ·exact uK
   ·exact uK
   ·rfl
   ·rfl
   ·omega
   ·omega
   ·(unfold maxLen;omega)
   intro g72 c72 n72 x72 hn72 hx72
   refine uE ?_
   apply dG 8 O oK
   ·exact bA O
   ·rfl
   apply iB O oK oK O
   refine uS ?_
   refine bI (bI ?_)
   obtain rfl:x72=byC (done++[b]):=by rw[hx72,gK];rfl
   have hdl:(done++[b]).length=done.length+1:=by simp
   refine bS (ι:=SplG) (j:=⟨ini++[(i+1,t+1)],done++[b],some ⟨g7,0,none⟩,c,g72,c72⟩) ⟨by simp only;rw[List.append_assoc,←htx,hT,hxt],hok',by simp only;omega⟩ (by simp only;omega) ⟨rfl,rfl,rfl,trivial⟩ ?_
   simp only[hdl]
   subst hn72
   exact uI
  |pair a b=>
   obtain⟨hm,ht⟩:=qLu hsay.1 hri (ini++[(i+1,t+1)])
   have hpo:=hsay.1.ok _ _ hri
   simp only[Rl.ok]at hpo
   have hok2:SpOk (rls Es) (ini++[(i+1,t+1)]++[(b,1),(a,1)]):=hok'.push (fun q hq=>by
    simp only[List.mem_cons,List.not_mem_nil,or_false]at hq
    rcases hq with rfl|rfl
    ·exact⟨by simp only;omega,by simp only;omega,Nat.le_refl _⟩
    exact⟨by simp only;omega,by simp only;omega,Nat.le_refl _⟩)
   refine bC (aK (dO (uB (uBf O) ?_)))
   refine uL ?_
   refine dN (bK (dO (uB (y_eq O O) (uA O (dN (bD O (dO (uB (y_eq O O) (uA O (dN (bF O (aJ (uM O (uB (uBf O) ?_))))))))))))))
   refine uL ?_
   refine uB (dV (hE.t O) O O) ?_
   refine uB (uBf O) ?_
   refine uL ?_
   refine uB (dV (hE.t O) O O) ?_
   refine uU ?_
   refine aU (hE.t O) (hE.t O) O O O (fun b83=>?_)
   refine uU ?_
   apply bU (hE.t O) (hE.t O) O O O
   ·exact uK
   ·exact uK
   ·rfl
   ·rfl
   ·omega
   ·omega
   ·(unfold maxLen;omega)
   intro g84 c84 n84 x84 hn84 hx84
   refine uA O (aM (bI (bI ?_)))
   obtain rfl:x84=cpC (ini++[(i+1,t+1)]++[(b,1),(a,1)]):=by rw[hx84];exact(nS (ini++[(i+1,t+1)]) [(b,1),(a,1)]).symm
   have hdl:(ini++[(i+1,t+1)]++[(b,1),(a,1)]).length=(ini++[(i+1,t+1)]).length+2:=by simp
   refine bS (ι:=SplG) (j:=⟨ini++[(i+1,t+1)]++[(b,1),(a,1)],done,some ⟨g84,0,none⟩,c84,g,cc⟩) ⟨by simp only;rw[←htx,hT,ht],hok2,by simp only;omega⟩ (by simp only;omega) ⟨rfl,rfl,by simp only[hdl];rw[hn84];rfl,trivial⟩ ?_
   simp only[hdl]
   subst hn84
   exact uI
  |power a k=>
   obtain⟨hm,ht⟩:=qId hsay.1 hri (ini++[(i+1,t+1)])
   have hpo:=hsay.1.ok _ _ hri
   simp only[Rl.ok]at hpo
   have hok2:SpOk (rls Es) (ini++[(i+1,t+1)]++[(a,k)]):=hok'.push (fun q hq=>by
    obtain rfl:=List.mem_singleton.1 hq
    exact⟨by simp only;omega,by simp only;omega,by simp only;omega⟩)
   refine bC (aK (dO (uB (uBf O) ?_)))
   refine uL ?_
   refine dN (bK (dO (uB (y_eq O O) (uA O (dN (bD O (dO (uB (y_eq O O) (uA O (dN (bD O (aJ (uM O (uB (uBf O) ?_))))))))))))))
   refine uL ?_
   refine uB (uBf O) ?_
   refine uL ?_
   refine uB (dV (hE.t O) O O) ?_
   refine uU ?_
   refine aU (hE.t O) (hE.t O) O O O (fun b61=>?_)
   refine uU ?_
   apply bU (hE.t O) (hE.t O) O O O
   ·exact uK
   ·exact uK
   ·rfl
   ·rfl
   ·omega
   ·omega
   ·(unfold maxLen;omega)
   intro g62 c62 n62 x62 hn62 hx62
   refine uA O (aM (bI (bI ?_)))
   obtain rfl:x62=cpC (ini++[(i+1,t+1)]++[(a,k)]):=by rw[hx62];exact(nS (ini++[(i+1,t+1)]) [(a,k)]).symm
   have hdl:(ini++[(i+1,t+1)]++[(a,k)]).length=(ini++[(i+1,t+1)]).length+1:=by simp
   refine bS (ι:=SplG) (j:=⟨ini++[(i+1,t+1)]++[(a,k)],done,some ⟨g62,0,none⟩,c62,g,cc⟩) ⟨by simp only;rw[←htx,hT,ht],hok2,by simp only;omega⟩ (by simp only;omega) ⟨rfl,rfl,by simp only[hdl];rw[hn62];rfl,trivial⟩ ?_
   simp only[hdl]
   subst hn62
   exact uI
 obtain rfl:st=[]:=List.eq_nil_of_length_eq_zero oO
 have hd:done=pre++txt (rls Es) x0:=by simpa[spT]using htx
 subst hd
 refine dF (aQ (aQ (bH (aK (dO (uA O (dN (bZ ?_))))))))
 exact uZ O (.tmp O .nil) ⟨g,cc,O,O⟩
end
section
variable {E:Env}{Es:List Ent}{pp tb s most:Nat}
theorem qIv (hE:Seat E){n:Nat}(hn:n≤1152921504606846976):Ct E 94 [.int .i64 (n:Nat)] [] (fun v Q=>v= .bool true∧Q=[]):=by
 refine bO (hE.fn Tryz.func94) O O O (fun R=>?_)
 simp only[dY,uV,uW]
 refine dO (uA O (dN (dO (uM O (uB (y_ge O O) (uM O ?_))))))
 refine eG 5 O (fun h=>?_) (fun h=>?_)
 ·refine dM O O ?_
  refine uM O (dP (uB (y_le O O) (uB (aW O O) (uA O (dN (bZ ?_))))))
  exact uZ O (.tmp O .nil) ⟨congrArg Value.bool (decide_eq_true oO),O⟩
 exfalso;omega
theorem qIu (hE:Seat E){n:Nat}(hn:n≤1152921504606846976):Ct E 67 [.int .i64 0,.int .i64 (n:Nat),.int .i64 (n:Nat)] [] (fun v Q=>v= .nilIface∧Q=[]):=by
 refine bO (hE.fn Tryz.func67) O O O (fun R=>?_)
 simp only[dY,uV,uW]
 refine dO (uA O (dN (aL (dO (uM O (uX (qIv hE hn) O ?_))))))
 rintro _ _⟨rfl,rfl⟩
 simp only[uV,uW]
 refine uB (gY O) (uM O (dP (uM O (dP (uB (y_lt O O) (uB (aX O O) (uM O ?_)))))))
 refine eG 14 O (fun h1=>?_) (fun h1=>?_)
 ·exfalso;omega
 refine dP (uM O (dP (uB (y_lt O O) (uB (aX O O) (uM O ?_)))))
 refine eG 18 O (fun h2=>?_) (fun h2=>?_)
 ·exfalso;omega
 refine dP (uM O (dP (uM O (dP (uB (y_gt O O) (uB (aX O O) (uM O ?_)))))))
 refine eG 23 O (fun h3=>?_) (fun h3=>?_)
 ·exfalso;omega
 refine dP (uM O (dP (uM O (dP (uM O (dP (uB (uAs O O) (dP (uB (y_gt O O) (uB (aX O O) (dN ?_)))))))))))
 refine bE O (fun h4=>?_) (fun h4=>?_)
 ·exfalso;omega
 refine bC (aK (dO (uA O (dN (bZ ?_)))))
 exact uZ O (.tmp O .nil) ⟨O,O⟩
theorem ct_ext1 (hE:Seat E){bt b4 g0 c0 x:Nat}(hx:1≤x∧x≤Es.length)(hl:len (rls Es) x≤65536):Ct E 69 [.int .i64 (x:Nat),.int .i64 1,uPt bt,uPt b4] [cells b4 [uPt s] 24,bR s most Es,cells bt [.slice (some ⟨g0,0,none⟩) (([]:List UInt8)).length c0] 29,sl (some ⟨g0,0,none⟩) c0 5 1 (([]:List UInt8)).length (byC (([]:List UInt8)))]
  (fun v Q=>∃g c,v= .nilIface∧Q=[cells b4 [uPt s] 24,bR s most Es,cells bt [.slice (some ⟨g,0,none⟩) (txt (rls Es) x).length c] 29,sl (some ⟨g,0,none⟩) c 5 1 (txt (rls Es) x).length (byC (txt (rls Es) x))]):=by
 have h00:([]:List UInt8).length+len (rls Es) x≤65536:=by rw[List.length_nil];omega
 refine bO (hE.fn Tryz.func69) O O O (fun R=>?_)
 simp only[dY,uV,uW]
 refine dO (uA O (dN (dO (uL ?_))))
 refine uB (uBl O) (uA O (dN (aL (dO (uL ?_)))))
 refine uM O (uX (ct_spell (pre:=[]) hE hx h00) O ?_)
 rintro _ _⟨g,c,rfl,rfl⟩
 simp only[uV,uW]
 refine qC (p:=sl (some ⟨g,0,none⟩) c 5 1 ([]++txt (rls Es) x).length (byC ([]++txt (rls Es) x))) uK (fun _ h=>lH h) ?_
 rintro⟨hcap, -⟩
 rw[List.nil_append]at hcap
 refine uA O (dN (dO (uM O (uB (dU O (hE.t O)) ?_))))
 refine dN (bD O (bC (aK (dO (uL ?_)))))
 refine uM O (uB (gL (l:=0) (h:=(txt (rls Es) x).length) O (hE.t O) ⟨_,O⟩ O (Nat.zero_le _) oO) ?_)
 refine uA O (dN (aL (dO (uM O (uB (uAs O O) (uM O (dN (bK ?_))))))))
 refine fD (fun _:Unit=>[(22,.int .i64 (1-1)),(23,.int .i64 0)]) (fun _=>[cells b4 [uPt s] 24,bR s most Es,cells bt [.slice (some ⟨g,0,none⟩) (txt (rls Es) x).length c] 29,sl (some ⟨g,0,none⟩) c 5 1 (txt (rls Es) x).length (byC (txt (rls Es) x)),R]) (fun _=>0) (fun _=>True) () trivial ⟨O,O,trivial⟩ uI ?_
 rintro _ _
 refine dO (uB (y_lt O O) (dN (aL ?_)))
 refine bE O (fun h=>?_) (fun h=>?_)
 ·exfalso;omega
 refine dF (aQ (aQ (bH (aK (dO (uA O (dN (bZ ?_))))))))
 exact uZ O (.tmp O .nil) ⟨g,c,O,O⟩
theorem ct_parts (hE:Seat E){bt b4 g0 c0 i:Nat}{en:Ent}(hent:Es[i]?=some en)(hl:len (rls Es) (i+1)≤65536):Ct E 68 [uPt s,.int .i64 ((i+1:Nat):Int),.int .i64 0,.int .i64 (len (rls Es) (i+1):Nat),.func (.func 69) #[] ⟨[uPt bt,uPt b4]⟩] [cells b4 [uPt s] 24,bR s most Es,cells bt [.slice (some ⟨g0,0,none⟩) (([]:List UInt8)).length c0] 29,sl (some ⟨g0,0,none⟩) c0 5 1 (([]:List UInt8)).length (byC (([]:List UInt8)))]
  (fun v Q=>∃g c,v= .nilIface∧Q=[cells b4 [uPt s] 24,bR s most Es,cells bt [.slice (some ⟨g,0,none⟩) (txt (rls Es) (i+1)).length c] 29,sl (some ⟨g,0,none⟩) c 5 1 (txt (rls Es) (i+1)).length (byC (txt (rls Es) (i+1)))]):=by
 refine eZ (p:=bR s most Es) uK (fun _ h=>dR h) (fun hsay=>?_)
 have hil:i<Es.length:=(List.getElem?_eq_some_iff.1 hent).1
 have htx:=hsay.2.1 i en hent
 have hle:en.t.length=len (rls Es) (i+1):=by rw[htx];rfl
 have hlp:=hsay.1.pos (i+1) oO (by rw[bQ];omega)
 have hxx:1≤i+1∧i+1≤Es.length:=⟨oO,oO⟩
 refine bO (hE.fn Tryz.func68) O O O (fun R=>?_)
 simp only[dY,uV,uW]
 refine dO (uA O (dN (dO (uM O (uM O (uM O (uB (dV (hE.t O) O O) ?_)))))))
 refine uU ?_
 refine aU (hE.t O) (hE.t O) O O O (fun b22=>?_)
 refine uA O (dN (aL (bK ?_)))
 refine iU (cO (p:=cells b22 [.int .i64 ((i+1:Nat):Int),.int .i64 0,.int .i64 (len (rls Es) (i+1):Nat),.int .i64 1] 194) (p':=sl (some ⟨b22,0,none⟩) 1 194 4 1 [.int .i64 ((i+1:Nat):Int),.int .i64 0,.int .i64 (len (rls Es) (i+1):Nat),.int .i64 1]) uK (eO O (by unfold maxLen;omega))) ?_
 refine fD (fun q:Option (Nat×Nat)=>[(0,uPt s),(4,.func (.func 69) #[] ⟨[uPt bt,uPt b4]⟩),(11,.slice (some ⟨b22,0,none⟩) (if q.isSome then 0 else 1) 1)])
  (fun q=>match q with
   |none=>[cells b4 [uPt s] 24,bR s most Es,cells bt [.slice (some ⟨g0,0,none⟩) (([]:List UInt8)).length c0] 29,sl (some ⟨g0,0,none⟩) c0 5 1 (([]:List UInt8)).length (byC (([]:List UInt8))),sl (some ⟨b22,0,none⟩) 1 194 4 1 [.int .i64 ((i+1:Nat):Int),.int .i64 0,.int .i64 (len (rls Es) (i+1):Nat),.int .i64 1],R]
   |some q=>[cells b4 [uPt s] 24,bR s most Es,cells bt [.slice (some ⟨q.1,0,none⟩) (txt (rls Es) (i+1)).length q.2] 29,sl (some ⟨q.1,0,none⟩) q.2 5 1 (txt (rls Es) (i+1)).length (byC (txt (rls Es) (i+1))),R]) (fun q=>if q.isSome then 0 else 1) (fun _=>True) none trivial ⟨rfl,rfl,rfl,trivial⟩ uI ?_
 rintro(_|⟨g,c⟩)_
 ·simp only[Option.isSome_none,if_false,Bool.false_eq_true]
  refine aL (dO (uM O (uB (uBl O) (uB (y_gt O O) (dN ?_)))))
  refine bE O (fun h=>?_) (fun h=>?_)
  ·refine bC (aK (bK (aL (aJ ?_))))
   refine uM O (uM O (uB (uBl O) (uB (uAs O O) (uB (uAi O O) ?_))))
   refine l_eq 30 (uPt b22) O O ?_
   refine uB (uG) ?_
   refine uU (dA (hE.t O) (fun b12=>?_))
   refine uU (uS ?_)
   refine dN (dO (uM O (uM O (uB (uBl O) (uB (uAs O O) (uB (fV 0 O O (hE.t O) oO oO) ?_))))))
   refine uA O (dN (aL (dO (uB (uBf O) ?_))))
   refine uL ?_
   refine uB (y_eq O O) (uM O ?_)
   refine eG 40 O (fun h1=>?_) (fun h1=>?_)
   ·exfalso;omega
   refine dP (uB (uBf O) ?_)
   refine dP (uL ?_)
   refine dP (uB (y_eq O O) (uB (aX O O) (dN ?_)))
   refine bE O (fun h2=>?_) (fun h2=>?_)
   ·exfalso;omega
   refine bC (aK (dO (uM O (uB (uBf O) ?_))))
   refine uL ?_
   refine uX (qU hE hent) O ?_
   rintro _ _⟨rfl,rfl⟩
   simp only[uV,uW]
   refine uM O (uB (aT O O) (uB (aT O O) (uU (dA (hE.t O) (fun b13=>?_)))))
   refine uU (uS ?_)
   refine uA O (dN (aL (dO (uM O (uB (dU O (hE.t O)) ?_)))))
   refine dN (bD O (bC (aK (aL (dO (uB (uBf O) ?_))))))
   refine uL ?_
   refine uB (uBf O) ?_
   refine uL ?_
   refine uB (y_eq O O) (dN ?_)
   refine bE O (fun h3=>?_) (fun h3=>?_)
   ·refine aL (aL (aJ ?_))
    refine uM O (uB (uBf O) ?_)
    refine uL ?_
    refine uB (uBf O) ?_
    refine uL ?_
    refine uU ?_
    apply ld_callv (hx:=O) (ha:=O) (hf:=hE.f oK)
    ·exact ct_ext1 (s:=s) (most:=most) (g0:=g0) (c0:=c0) hE hxx hl
    ·exact uK
    rintro _ _⟨g,c,rfl,rfl⟩
    simp only[uV,uW]
    refine uA O (dN (dO (uM O (uB (dU O (hE.t O)) ?_))))
    refine dN (bD O (bC (aK (dF (aQ (bH ?_))))))
    refine bS (ι:=Option (Nat×Nat)) (j:=some (g,c)) trivial (by simp) ⟨O,O,O,trivial⟩ ?_
    exact uI
   exfalso;omega
  exfalso;omega
 simp only[Option.isSome_some,if_true]
 refine aL (dO (uM O (uB (uBl O) (uB (y_gt O O) (dN ?_)))))
 refine bE O (fun h=>?_) (fun h=>?_)
 ·exfalso;omega
 refine dF (aQ (aQ (bH (aK (dO (uA O (dN (bZ ?_))))))))
 exact uZ O (.tmp O .nil) ⟨g,c,O,O⟩
theorem qBz (hE:Seat E){i:Nat}{en:Ent}(hent:Es[i]?=some en)(hl:len (rls Es) (i+1)≤65536):Ct E 41 [uPt s,.int .i64 ((i+1:Nat):Int),.int .i64 0,.int .i64 (len (rls Es) (i+1):Nat)] [bR s most Es]
  (fun v Q=>∃g c,v= .tuple #[.slice (some ⟨g,0,none⟩) (txt (rls Es) (i+1)).length c,.nilIface]∧Q=[bR s most Es,sl (some ⟨g,0,none⟩) c 5 1 (txt (rls Es) (i+1)).length (byC (txt (rls Es) (i+1)))]):=by
 refine eZ (p:=bR s most Es) uK (fun _ h=>dR h) (fun hsay=>?_)
 have htx:=hsay.2.1 i en hent
 have hle:en.t.length=len (rls Es) (i+1):=by rw[htx];rfl
 have hln:len (rls Es) (i+1)≤1152921504606846976:=oO
 refine bO (hE.fn Tryz.func41) O O O (fun R=>?_)
 simp only[dY,uV,uW]
 refine dO (uU ?_)
 refine fJ O (fun b4=>?_)
 refine uA O (uA O (dN (dO (uL ?_))))
 refine uM O (uX (qU hE hent) O ?_)
 rintro _ _⟨rfl,rfl⟩
 simp only[uV,uW]
 refine uM O (uB (aT O O) (uB (aT O O) (uU (dA (hE.t O) (fun b10=>?_)))))
 refine uU (uS ?_)
 refine uA O (dN (aL (dO (uM O (uB (dU O (hE.t O)) ?_)))))
 refine dN (bD O (bC (aK (aL (dO (uM O (uM O (uB (uBf O) ?_))))))))
 refine uL ?_
 refine l_eq 26 (.int .i64 (len (rls Es) (i+1):Nat)) O (bW oO) ?_
 refine uX (qIu hE hln) O ?_
 rintro _ _⟨rfl,rfl⟩
 simp only[uV,uW]
 refine uA O (dN (dO (uM O (uB (dU O (hE.t O)) ?_))))
 refine dN (bD O (bC (aK (aL (dO (uM O (uB (y_gt O O) (dN ?_))))))))
 refine bE O (fun h=>?_) (fun h=>?_)
 ·exfalso;omega
 refine bC (aK (dO (uM O (uU ?_))))
 refine jI (hE.t O) (hE.t O) O O (by first |omega |exact Nat.le_of_ble_eq_true rfl) (by(unfold maxLen;first |omega |exact Nat.le_of_ble_eq_true rfl)) (fun b35 us35 hu35=>?_)
 refine uU (dA (hE.t O) (fun b13=>?_))
 refine uU (uS ?_)
 refine dN ?_
 refine iU (cO (p:=sl (some ⟨b35,0,none⟩) (len (rls Es) (i+1)) 5 1 (len (rls Es) (i+1)) us35) (p':=sl (some ⟨b35,0,none⟩) (len (rls Es) (i+1)) 5 1 0 (byC [])) uK (lD (Nat.zero_le _) O (by simp))) ?_
 refine dO (uL ?_)
 refine uM O (uM O (uM O (uB (qOe O) ?_)))
 refine uX (ct_parts (g0:=b35) (c0:=len (rls Es) (i+1)) hE hent hl) O ?_
 rintro _ _⟨g,c,rfl,rfl⟩
 simp only[uV,uW]
 refine uA O (dN (aL (dO (uM O (uB (dU O (hE.t O)) ?_)))))
 refine dN (bD O (bC (aK (dO (uL ?_)))))
 refine uA O (uA O (dN (bZ ?_)))
 exact uZ O (.tmp O (.tmp O .nil)) ⟨g,c,O,O⟩
end
section
variable {E:Env}{Es:List Ent}{pp tb s most m bm:Nat}{f:Int→Option Value}
theorem qOr (hE:Seat E):Ct E 10 [uPt pp] [] (fun v Q=>∃m bm,v=uPt m∧Q=[cells m [uPt pp,.map (some bm)] 93,mapF bm .i64 (fun _=>none)]):=by
 refine bO (hE.fn Tryz.func10) O O O (fun R=>?_)
 simp only[dY,uV,uW]
 refine dO (uA O (dN (aL (dO (uM O (uB (eU O (hE.t O)) ?_))))))
 refine dN (bD O (bC (aK (dO (uM O (uU ?_))))))
 refine vR .i64 (fun b6=>?_)
 refine uB (dV (hE.t O) O O) ?_
 refine uU ?_
 refine fJ O (fun b8=>?_)
 refine uA O (dN (bZ ?_))
 exact uZ O (.tmp O .nil) ⟨b8,b6,O,O⟩
theorem lS (hE:Seat E):Ct E 36 [uPt m] [cells m [uPt pp,.map (some bm)] 93] (fun v Q=>v=uPt pp∧Q=[cells m [uPt pp,.map (some bm)] 93]):=by
 refine bO (hE.fn Tryz.func36) O O O (fun R=>?_)
 simp only[dY,uV,uW]
 refine dO (uA O (dN (aL (dO (uM O (uB (eU O (hE.t O)) ?_))))))
 refine dN (bD O (bC (aK (dO (uM O (uB (bA O) (uB (uBf O) ?_)))))))
 refine uL ?_
 refine uA O (dN (bZ ?_))
 exact uZ O (.tmp O .nil) ⟨O,O⟩
theorem pO (hE:Seat E){x y:Nat}:Ct E 103 [uPt m,.int .i64 (x:Nat),.int .i64 (y:Nat),.nilIface] [cells m [uPt pp,.map (some bm)] 93,mapF bm .i64 f] (fun v Q=>v= .nilIface∧Q=[cells m [uPt pp,.map (some bm)] 93,mapF bm .i64 (setF f (x:Nat) (.int .i64 (y:Nat)))]):=by
 refine bO (hE.fn Tryz.func103) O O O (fun R=>?_)
 simp only[dY,uV,uW]
 refine dO (uA O (dN (aL (dO (uM O (uB (xI O (hE.t O)) ?_))))))
 refine dN (bF O (aJ (uM O (uB (bA O) (uB (uBf O) ?_)))))
 refine uL ?_
 refine uM O (uM O (uU ?_))
 apply kU (kt:=44) (et:=44) (by rw[hE.P];kernel_rfl) (by rw[hE.P];kernel_rfl) O O O
 ·exact uK
 refine dN (dO (uM O (uA O (dN (bZ ?_)))))
 exact uZ O (.tmp O .nil) ⟨O,O⟩
theorem ct_learn (hE:Seat E)(hB:Base E.w0){i:Nat}{en:Ent}(hent:Es[i]?=some en)(hl:len (rls Es) (i+1)≤256)(hroom:Es.length+512≤most):
  Ct E 79 [uPt m,.int .i64 ((i+1:Nat):Int)] [cells pp [uPt s,uPt tb] 97,tabP tb s (rls Es),bR s most Es,cells m [uPt pp,.map (some bm)] 93,mapF bm .i64 f]
   (fun v Q=>∃M y,v= .tuple #[.int .i64 0,.nilIface]∧M.length≤512∧SigOf (rls (Es++M)) (i+1) y∧Q=[cells pp [uPt s,uPt tb] 97,tabP tb s (rls (Es++M)),bR s most (Es++M),cells m [uPt pp,.map (some bm)] 93,mapF bm .i64 (setF f ((i+1:Nat):Int) (.int .i64 (y:Nat)))]):=by
 refine eZ (p:=bR s most Es) uK (fun _ h=>dR h) (fun hsay=>?_)
 have hil:i<Es.length:=(List.getElem?_eq_some_iff.1 hent).1
 have htx:=hsay.2.1 i en hent
 have hle:en.t.length=len (rls Es) (i+1):=by rw[htx];rfl
 have hlt:(txt (rls Es) (i+1)).length=len (rls Es) (i+1):=rfl
 have hl2:len (rls Es) (i+1)≤65536:=oO
 refine bO (hE.fn Tryz.func79) O O O (fun R=>?_)
 simp only[dY,uV,uW]
 refine dO (uA O (uA O (dN (dO (uM O (uB (bA O) (uB (uBf O) ?_)))))))
 refine uL ?_
 refine uX (gQ hE) O ?_
 rintro _ _⟨rfl,rfl⟩
 simp only[uV,uW]
 refine uA O (dN (dO (uM O (uM O (uX (qU hE hent) O ?_)))))
 rintro _ _⟨rfl,rfl⟩
 simp only[uV,uW]
 refine uM O (uB (aT O O) (uB (aT O O) (uU (dA (hE.t O) (fun b7=>?_)))))
 refine uU (uS ?_)
 refine uA O (dN (aL (dO (uM O (uB (dU O (hE.t O)) ?_)))))
 refine dN (bD O (bC (aK (aL (dO (uB (uBf O) ?_))))))
 refine uL ?_
 refine uB (y_le O O) (dN ?_)
 refine bE O (fun h=>?_) (fun h=>?_)
 ·refine aL (aJ ?_)
  refine uM O (uM O (uB (uBf O) ?_))
  refine uL ?_
  refine l_eq 40 (.int .i64 (len (rls Es) (i+1):Nat)) O (bW oO) ?_
  refine uX (qBz hE hent hl2) O ?_
  rintro _ _⟨g,c,rfl,rfl⟩
  simp only[uV,uW]
  refine uM O (uB (aT O O) (uB (aT O O) (uA O (uA O (dN (aL (dO (uM O (uB (dU O (hE.t O)) ?_)))))))))
  refine dN (bD O (bC (aK (dO (uM O (uB (bA O) (uB (uBf O) ?_)))))))
  refine uL ?_
  refine uM O (uX (ct_OfQ (Es:=Es) (s:=s) (most:=most) (tb:=tb) (pp:=pp) (q:=sl (some ⟨g,0,none⟩) c 5 1 (txt (rls Es) (i+1)).length (byC (txt (rls Es) (i+1)))) (bs:=txt (rls Es) (i+1)) hE hB (fun _=>⟨g,0,O,qCz (fun _ _ h=>h)⟩) oO oO) O ?_)
  rintro _ _⟨M,id,rfl,hM,htt,hgd,hor,rfl⟩
  simp only[uV,uW]
  refine uM O (uB (aT O O) (uB (aT O O) (uA O (uA O (dN (dO (uM O (uM O (uM O (uM O (uX (pO (f:=f) (m:=m) (pp:=pp) (bm:=bm) (x:=i+1) (y:=id) hE) O ?_)))))))))))
  rintro _ _⟨rfl,rfl⟩
  simp only[uV,uW]
  refine uA O (uA O (dN (bZ (aV ?_))))
  have e:txt (rls (Es++M)) (i+1)=txt (rls Es) (i+1):=by rw[dB];exact jR _ (by rw[bQ];omega)
  exact uZ O (.tmp O (.tmp O .nil)) ⟨M,id,O,oO,⟨by rw[bQ,List.length_append];omega,by rw[htt,e],hgd,by rw[e];exact hor⟩,rfl⟩
 exfalso;omega
structure OcG where
 ids:List Nat
 M:List Ent
 f:Int→Option Value
theorem ct_canOf (hE:Seat E)(hB:Base E.w0){x:Nat}(hx:x≤Es.length)(hl:len (rls Es) x≤256)(hroom:Es.length+512≤most)(hk:Kn (rls Es) f):
  Ct E 47 [uPt m,.int .i64 (x:Nat)] [cells pp [uPt s,uPt tb] 97,tabP tb s (rls Es),bR s most Es,cells m [uPt pp,.map (some bm)] 93,mapF bm .i64 f]
   (fun v Q=>∃M f' y,v= .tuple #[.int .i64 (y:Nat),.nilIface]∧M.length≤512∧Kn (rls (Es++M)) f'∧SigOf (rls (Es++M)) x y∧Q=[cells pp [uPt s,uPt tb] 97,tabP tb s (rls (Es++M)),bR s most (Es++M),cells m [uPt pp,.map (some bm)] 93,mapF bm .i64 f']):=by
 refine eZ (p:=bR s most Es) uK (fun _ h=>dR h) (fun hsay=>?_)
 have hmr:fA=1048576:=rfl
 refine bO (hE.fn Tryz.func47) O O O (fun R=>?_)
 simp only[dY,uV,uW]
 refine dO (uA O (uA O (dN (aL (dO (uM O (uB (eU O (hE.t O)) ?_)))))))
 refine uM O (dP (uM O (dP (uB (bA O) (dP (uB (uBf O) ?_))))))
 refine dP (uL ?_)
 refine dP (uX (gQ hE) O ?_)
 rintro _ _⟨rfl,rfl⟩
 simp only[uV,uW]
 refine dP (uB (eU O (hE.t O)) ?_)
 refine uB (aX O O) (dN (bD O (bC (aK (aL (dO (uM O (uB (y_lt O O) (uM O ?_)))))))))
 refine eG 25 O (fun h1=>?_) (fun h1=>?_)
 ·exfalso;omega
 refine dP (uM O (dP (uM O (dP (uB (bA O) (dP (uB (uBf O) ?_)))))))
 refine dP (uL ?_)
 refine dP (uX (gQ hE) O ?_)
 rintro _ _⟨rfl,rfl⟩
 simp only[uV,uW]
 refine dP (uX (tZ hE) O ?_)
 rintro _ _⟨rfl,rfl⟩
 simp only[uV,uW]
 refine dP (uB (y_gt O O) (uB (aX O O) (dN ?_)))
 refine bE O (fun h2=>?_) (fun h2=>?_)
 ·exfalso;omega
 refine bC (aK (aL (dO (uM O (uB (y_eq O O) (dN ?_))))))
 refine bE O (fun h3=>?_) (fun h3=>?_)
 ·obtain rfl:x=0:=by omega
  refine dO (uA O (uA O (dN (bZ (aV ?_)))))
  apply cB
  ·rfl
  ·(apply Rs.tmp rfl;apply Rs.tmp rfl;exact Rs.nil)
  ·exact⟨[],f,0,O,by simp,by rw[List.append_nil];exact hk,SigOf.zero _,rfl⟩
  rw[List.append_nil]
  exact uI
 obtain⟨i,rfl⟩:∃i,x=i+1:=⟨x-1,oO⟩
 have f0:(idC [i+1])[0]?=some (.int .i64 ((i+1:Nat):Int)):=rfl
 refine bC (aK (dO (uM O (uU ?_))))
 refine aU (hE.t O) (hE.t O) O O O (fun b39=>?_)
 refine uA O (dN (aL (bK ?_)))
 refine iU (cO (p:=cells b39 [.int .i64 ((i+1:Nat):Int)] 44) (p':=sl (some ⟨b39,0,none⟩) 1 44 1 1 (idC [i+1])) uK (eO O (by unfold maxLen;omega))) ?_
 refine fD (fun q:OcG=>[(0,uPt m),(1,.int .i64 ((i+1:Nat):Int)),(6,.slice (some ⟨b39,0,none⟩) q.ids.length 1)]) (fun q=>[cells pp [uPt s,uPt tb] 97,tabP tb s (rls (Es++q.M)),bR s most (Es++q.M),cells m [uPt pp,.map (some bm)] 93,mapF bm .i64 q.f,sl (some ⟨b39,0,none⟩) 1 44 1 q.ids.length (idC q.ids),R])
  (fun q=>2*q.ids.length+if(q.f ((i+1:Nat):Int)).isNone then 1 else 0) (fun q=>(q.ids=[i+1]∨q.ids=[])∧q.M.length≤512∧(q.f ((i+1:Nat):Int)=none→q.M=[])∧Kn (rls (Es++q.M)) q.f∧(q.ids=[]→q.f ((i+1:Nat):Int)≠none)) ⟨[i+1],[],f⟩ ⟨.inl rfl,by simp,fun _=>rfl,by rw[List.append_nil];exact hk,fun h=>by cases h⟩ ⟨rfl,rfl,rfl,trivial⟩ ?_ ?_
 ·rw[List.append_nil]
  exact uI
 rintro⟨ids,M,f'⟩⟨hids,hM,hnone,hkn,hend⟩
 simp only at hids hM hnone hkn hend ⊢
 have hi1:[i+1].length=1:=rfl
 have hEM:(Es++M).length=Es.length+M.length:=List.length_append
 rcases hids with rfl|rfl
 ·refine aL (aL (aJ ?_))
  refine uM O (uB (uBl O) (uB (y_gt O O) (dN ?_)))
  refine bE O (fun h=>?_) (fun h=>?_)
  ·refine bC (aK (bK (aL (aJ ?_))))
   refine uM O (uM O (uB (uBl O) (uB (uAs O O) (uB (uAj O O) ?_))))
   refine l_eq 47 (uPt b39) O O ?_
   obtain⟨v,hfx⟩|hfx:(∃v,f' ((i+1:Nat):Int)=some v)∨f' ((i+1:Nat):Int)=none:=by
    cases f' ((i+1:Nat):Int)with
    |some v=>exact .inl ⟨v,rfl⟩
    |none=>exact .inr rfl
   ·apply aA
    ·(apply aO rfl (hE.t rfl) rfl;(repeat(first |rfl|assumption|constructor));done)
    ·rfl
    refine uA O (dN (aL (dO (uM O (uB (bA O) (uB (uBf O) ?_))))))
    refine uL ?_
    refine uM O (uB (jJ (kt:=44) (et:=44) (z:= .int .i64 0) (by rw[hE.P];kernel_rfl) (by rw[hE.P];kernel_rfl) (fun w=>by rw[hE.P];kernel_rfl) rfl rfl uK (by assumption)) ?_)
    refine l_eq 55 (.tuple #[v,.bool true]) O O ?_
    refine uM O (uB (aT O O) (uB (aT O O) (uA O (uA O (dN (dO (uM O (dN (bF O (dO (uM O (uM O (uB (uBl O) (uB (uAs O O) (uB (fV 0 O O (hE.t O) oO oO) ?_)))))))))))))))
    refine uA O (dN (dF (aQ (bH ?_))))
    refine bS (ι:=OcG) (j:=⟨[],M,f'⟩) ⟨.inr O,hM,hnone,hkn,fun _=>by show f' ((i+1:Nat):Int)≠none;rw[hfx];simp⟩ (by simp[hfx]) ⟨rfl,rfl,rfl,trivial⟩ ?_
    refine cZ (cO (p:=sl (some ⟨b39,0,none⟩) 1 44 1 [i+1].length (idC [i+1])) (p':=sl (some ⟨b39,0,none⟩) 1 44 1 0 (idC [])) uK (lD (Nat.zero_le _) O (by simp))) ?_
    exact uI
   obtain rfl:=hnone hfx
   rw[List.append_nil]at hkn ⊢
   have hent:Es[i]?=some (Es[i]'oO):=List.getElem?_eq_getElem oO
   generalize Es[i]'oO=en at hent
   refine uL ?_
   refine uA O (dN (aL (dO (uM O (uB (bA O) (uB (uBf O) ?_))))))
   refine uL ?_
   refine uM O (uB (jJ (kt:=44) (et:=44) (z:= .int .i64 0) (by rw[hE.P];kernel_rfl) (by rw[hE.P];kernel_rfl) (fun w=>by rw[hE.P];kernel_rfl) rfl rfl uK (by assumption)) ?_)
   refine l_eq 55 (.tuple #[.int .i64 0,.bool false]) O O ?_
   refine uM O (uB (aT O O) (uB (aT O O) (uA O (uA O (dN (dO (uM O (dN (bD O (bC (aK (dO (uM O (uM O (uX (ct_learn (f:=f') (m:=m) (pp:=pp) (bm:=bm) hE hB hent hl hroom) O ?_)))))))))))))))
   rintro _ _⟨M,y,rfl,hM2,hsg,rfl⟩
   simp only[uV,uW]
   refine uM O (uB (aT O O) (uB (aT O O) (uA O (uA O (dN (aL (dO (uM O (uB (dU O (hE.t O)) ?_)))))))))
   refine dN (bD O (bC (aK (dO (uM O (uB (y_ne O O) (dN ?_)))))))
   refine bE O (fun hz=>?_) (fun hz=>?_)
   ·exact absurd O hz
   refine bC (bI ?_)
   have hset:setF f' ((i+1:Nat):Int) (.int .i64 (y:Nat)) ((i+1:Nat):Int)=some (.int .i64 (y:Nat)):=if_pos O
   refine bS (ι:=OcG) (j:=⟨[i+1],M,setF f' ((i+1:Nat):Int) (.int .i64 (y:Nat))⟩) ⟨.inl O,hM2,fun h=>absurd (hset.symm.trans h) (by simp),by simp only[dB]at hsg ⊢;exact(hkn.ext _).set hsg,fun h=>by cases h⟩ (by simp only[hset,hfx];simp) ⟨rfl,rfl,rfl,trivial⟩ ?_
   exact uI
  exfalso;simp at h
 refine aL (aL (aJ ?_))
 refine uM O (uB (uBl O) (uB (y_gt O O) (dN ?_)))
 refine bE O (fun h=>?_) (fun h=>?_)
 ·exfalso;simp at h
 obtain⟨v,hfx⟩:∃v,f' ((i+1:Nat):Int)=some v:=Option.ne_none_iff_exists'.1 (hend rfl)
 obtain⟨y,rfl,hsg⟩:=hkn.at hfx
 refine dF (aQ (aQ (bH (aK (dO (uM O (uB (bA O) (uB (uBf O) ?_))))))))
 refine uL ?_
 refine uM O (uB (jJ (kt:=44) (et:=44) (z:= .int .i64 0) (by rw[hE.P];kernel_rfl) (by rw[hE.P];kernel_rfl) (fun w=>by rw[hE.P];kernel_rfl) rfl rfl uK (by assumption)) ?_)
 refine uA O (uA O (dN (bZ ?_)))
 exact uZ O (.tmp O (.tmp O .nil)) ⟨M,f',y,O,hM,hkn,hsg,O⟩
structure AlG where
 M:List Ent
 f:Int→Option Value
 ys:List Nat
 g:Nat
 c:Nat
def SigL (L:List Rl)(xs ys:List Nat):Prop:=∀(i x y:Nat),xs[i]?=some x→ys[i]?=some y→SigOf L x y
theorem SigL.ext {L:List Rl}(M:List Rl){xs ys:List Nat}(h:SigL L xs ys):SigL (L++M) xs ys:=fun i x y h1 h2=>(h i x y h1 h2).ext M
theorem SigL.snoc {L:List Rl}{xs ys:List Nat}(h:SigL L xs ys){x y:Nat}(hx:xs[ys.length]?=some x)(hs:SigOf L x y):SigL L xs (ys++[y]):=fun i x' y' h1 h2=>by
 rcases Nat.lt_trichotomy i ys.length with e|e| e
 ·rw[List.getElem?_append_left e]at h2;exact h i x' y' h1 h2
 ·subst e
  rw[hx]at h1
  cases h1
  simp at h2
  subst h2
  exact hs
 have:=(List.getElem?_eq_some_iff.1 h2).1
 simp at this
 omega
theorem ct_All (hE:Seat E)(hB:Base E.w0){xs:List Nat}{p:Option Addr}{c:Nat}(hx:∀x∈xs,x≤Es.length∧len (rls Es) x≤256) (hn:xs.length≤1000) (hroom:Es.length+512*xs.length≤most) (hk:Kn (rls Es) f):
  Ct E 55 [uPt m,.slice p xs.length c] [cells pp [uPt s,uPt tb] 97,tabP tb s (rls Es),bR s most Es,cells m [uPt pp,.map (some bm)] 93,mapF bm .i64 f,sl p c 44 1 xs.length (idC xs)]
   (fun v Q=>∃M f' ys p' c',v= .tuple #[.slice p' xs.length c',.nilIface]∧M.length≤512*xs.length∧Kn (rls (Es++M)) f'∧ys.length=xs.length∧SigL (rls (Es++M)) xs ys∧Q=[cells pp [uPt s,uPt tb] 97,tabP tb s (rls (Es++M)),bR s most (Es++M),cells m [uPt pp,.map (some bm)] 93,mapF bm .i64 f',sl p c 44 1 xs.length (idC xs),sl p' c' 44 1 xs.length (idC ys)]):=by
 refine bO (hE.fn Tryz.func55) O O O (fun R=>?_)
 simp only[dY,uV,uW]
 refine dO (uA O (uA O (dN (dO (uM O (uB (uBl O) (uU ?_)))))))
 refine jI (hE.t O) (hE.t O) O O (by first |omega |exact Nat.le_of_ble_eq_true rfl) (by(unfold maxLen;first |omega |exact Nat.le_of_ble_eq_true rfl)) (fun b13 us13 hu13=>?_)
 refine uA O (dN (aL (dO (uM O (uB (uBl O) (uM O (dN (bK ?_))))))))
 refine iU (cO (p:=sl (some ⟨b13,0,none⟩) xs.length 44 1 xs.length us13) (p':=sl (some ⟨b13,0,none⟩) xs.length 44 1 0 (idC [])) uK (lD (Nat.zero_le _) O (by simp))) ?_
 refine fD (fun q:AlG=>[(0,uPt m),(6,.slice (some ⟨q.g,0,none⟩) q.ys.length q.c),(14,.slice p xs.length c),(15,.int .i64 (xs.length:Nat)),(16,.int .i64 (q.ys.length:Nat))]) (fun q=>[cells pp [uPt s,uPt tb] 97,tabP tb s (rls (Es++q.M)),bR s most (Es++q.M),cells m [uPt pp,.map (some bm)] 93,mapF bm .i64 q.f,sl p c 44 1 xs.length (idC xs),sl (some ⟨q.g,0,none⟩) q.c 44 1 q.ys.length (idC q.ys),R])
  (fun q=>xs.length-q.ys.length) (fun q=>q.ys.length≤xs.length∧q.M.length≤512*q.ys.length∧Kn (rls (Es++q.M)) q.f∧SigL (rls (Es++q.M)) xs q.ys) ⟨[],f,[],b13,xs.length⟩ ⟨Nat.zero_le _,by simp,by rw[List.append_nil];exact hk,fun i x y _ h=>by simp at h⟩ ⟨rfl,rfl,rfl,rfl,rfl,trivial⟩ ?_ ?_
 ·rw[List.append_nil]
  exact uI
 rintro⟨M,f',ys,g,c2⟩⟨hle,hM,hkn,hsl⟩
 simp only at hle hM hkn hsl ⊢
 refine dO (uB (y_lt O O) (dN (aL ?_)))
 refine bE O (fun h=>?_) (fun h=>?_)
 ·have hlt:ys.length<xs.length:=oO
  obtain⟨x,hxi⟩:∃x,xs[ys.length]?=some x:=⟨_,List.getElem?_eq_getElem hlt⟩
  have hxx:=hx x (List.mem_of_getElem? hxi)
  have hx1:x≤(Es++M).length:=by simp;omega
  have hx2:len (rls (Es++M)) x≤256:=by
   unfold len
   rw[dB,jR _ (by rw[bQ];omega)]
   exact hxx.2
  have hx3:(Es++M).length+512≤most:=by simp;omega
  refine iT (p:=sl p c 44 1 xs.length (idC xs)) uK (fun _ h=>fB h oO) ?_
  rintro⟨gx,rfl⟩
  have f0:=fK hxi (0+((ys.length:Nat):Int).toNat) oO
  have f1:=fK hxi (((ys.length:Nat):Int).toNat) oO
  refine bC (aK (aL (bK (dO (uB (uAj O O) (uL ?_))))))
  refine uA O (dN (dO (uM O (uM O (uX (ct_canOf (Es:=Es++M) (f:=f') (m:=m) (pp:=pp) (bm:=bm) hE hB hx1 hx2 hx3 hkn) O ?_)))))
  rintro _ _⟨M2,f2,y,rfl,hM2,hkn2,hsg,rfl⟩
  simp only[uV,uW]
  rw[List.append_assoc]at hkn2 hsg ⊢
  refine uM O (uB (aT O O) (uB (aT O O) (uA O (uA O (dN (aL (dO (uM O (uB (dU O (hE.t O)) ?_)))))))))
  refine dN (bD O (bC (aK (aJ (uM O (uM O (uU ?_)))))))
  refine aU (hE.t O) (hE.t O) O O O (fun b31=>?_)
  refine uU ?_
  apply bU (hE.t O) (hE.t O) O O O
  ·exact uK
  ·exact uK
  ·rfl
  ·rfl
  ·omega
  ·omega
  ·(unfold maxLen;omega)
  intro g32 c32 n32 x32 hn32 hx32
  refine uA O (aM (bI (aK (aJ (uB (uAa O O) (uM O (aM ?_)))))))
  obtain rfl:x32=idC (ys++[y]):=by rw[hx32,kM];rfl
  have hyl:(ys++[y]).length=ys.length+1:=by simp
  subst hn32
  refine bS (ι:=AlG) (j:=⟨M++M2,f2,ys++[y],g32,c32⟩) ⟨by simp only;omega,by simp only[List.length_append,List.length_singleton];omega,hkn2,?_⟩ (by simp only;omega) ⟨rfl,by simp only[hyl];rfl,rfl,rfl,by simp only[hyl];exact congrArg some (bW oO),trivial⟩ ?_
  ·simp only
   refine SigL.snoc ?_ hxi hsg
   rw[←List.append_assoc,dB]
   exact hsl.ext _
  simp only[hyl]
  exact uI
 have he:ys.length=xs.length:=oO
 refine dF (aQ (aQ (bH (aK (dO (uM O (uA O (uA O (dN (bZ ?_))))))))))
 apply cB
 ·rfl
 ·(apply Rs.tmp rfl;apply Rs.tmp rfl;exact Rs.nil)
 ·exact⟨M,f',ys,some ⟨g,0,none⟩,c2,by rw[he];rfl,oO,hkn,he,hsl,rfl⟩
 rw[he]
 exact uI
theorem ct_AllN (hE:Seat E)(hB:Base E.w0){xs:List Nat}{n:Nat}(hxn:xs.length=n){p:Option Addr}{c:Nat}(hx:∀x∈xs,x≤Es.length∧len (rls Es) x≤256) (hn:n≤1000) (hroom:Es.length+512*n≤most) (hk:Kn (rls Es) f):
  Ct E 55 [uPt m,.slice p n c] [cells pp [uPt s,uPt tb] 97,tabP tb s (rls Es),bR s most Es,cells m [uPt pp,.map (some bm)] 93,mapF bm .i64 f,sl p c 44 1 n (idC xs)]
   (fun v Q=>∃M f' ys p' c',v= .tuple #[.slice p' n c',.nilIface]∧M.length≤512*n∧Kn (rls (Es++M)) f'∧ys.length=n∧SigL (rls (Es++M)) xs ys∧Q=[cells pp [uPt s,uPt tb] 97,tabP tb s (rls (Es++M)),bR s most (Es++M),cells m [uPt pp,.map (some bm)] 93,mapF bm .i64 f',sl p c 44 1 n (idC xs),sl p' c' 44 1 n (idC ys)]):=by
 subst hxn
 exact ct_All hE hB hx hn hroom hk
end
section
variable {E:Env}{Es:List Ent}{pp tb s most m bm:Nat}{f:Int→Option Value}
def Names (l:List (List UInt8×Int)):Prop:=∀p∈l,ValidN p.1
def InR (n:Nat)(l:List (List UInt8×Int)):Prop:=∀p∈l,0≤p.2∧p.2≤(n:Nat)
def SgE (n:Nat)(l:List (List UInt8×Int))(e:Int):Prop:=(e=13∧¬Names l)∨(e=4∧Names l∧¬Ordered l l.length)∨(e=1∧Names l∧Ordered l l.length∧¬InR n l)
def SgO (n:Nat)(l:List (List UInt8×Int)):Prop:=Names l∧Ordered l l.length∧InR n l
def rawN (l:List (List UInt8×Int)):List Nat:=l.map fun p=>p.2.toNat
theorem qDn {xs:List Nat}{us:List Value}{k x:Nat}(hx:xs[k]?=some x)(hu:k<us.length):bX (idC (xs.take k)++us.drop k) k [.int .i64 (x:Nat)]=idC (xs.take (k+1))++us.drop (k+1):=by
 have hk:=(List.getElem?_eq_some_iff.1 hx).1
 have e1:us.drop k=us[k]::us.drop (k+1):=List.drop_eq_getElem_cons hu
 have e2:(idC (xs.take k)).length=k:=by simp[idC];omega
 have e3:xs.take (k+1)=xs.take k++[x]:=by rw[List.take_add_one,hx];rfl
 have:=sm_0 (pre:=idC (xs.take k)) (x0:=us[k]) (r:=us.drop (k+1)) (v:= .int .i64 (x:Nat))
 rw[e2]at this
 rw[e1,this,e3,kM]
 simp[idC]
theorem xP {l:List (List UInt8×Int)}(h:0<l.length):nlC l≠[]:=fun e=>by
 have:=wS l
 rw[e]at this
 simp at this
 omega
theorem qEh (hE:Seat E)(hB:Base E.w0){l:List (List UInt8×Int)}{a:Option Addr}{c:Nat}{q:HP}(hq:Rdb E.w0 a (nlC l) q)(hn:l.length≤1000)
  (hl:∀p∈l,0≤p.2→p.2≤Es.length→len (rls Es) p.2.toNat≤256) (hroom:Es.length+512*l.length≤most) (hk:Kn (rls Es) f):
  Ct E 28 [uPt m,.slice a l.length c] [cells pp [uPt s,uPt tb] 97,tabP tb s (rls Es),bR s most Es,cells m [uPt pp,.map (some bm)] 93,mapF bm .i64 f,q]
   (fun v Q=>(∃e,SgE Es.length l e∧v= .tuple #[.pointer none,.slice none 0 0,.iface 58 (.int .i64 e)]∧Q=[cells pp [uPt s,uPt tb] 97,tabP tb s (rls Es),bR s most Es,cells m [uPt pp,.map (some bm)] 93,mapF bm .i64 f,q])∨
    ∃M f' ys p' c',SgO Es.length l∧v= .tuple #[uPt s,.slice p' l.length c',.nilIface]∧M.length≤512*l.length∧Kn (rls (Es++M)) f'∧ys.length=l.length∧SigL (rls (Es++M)) (rawN l) ys∧Q=[cells pp [uPt s,uPt tb] 97,tabP tb s (rls (Es++M)),bR s most (Es++M),cells m [uPt pp,.map (some bm)] 93,mapF bm .i64 f',q,sl p' c' 44 1 l.length (idC ys)]):=by
 refine bO (hE.fn Tryz.func28) O O O (fun R=>?_)
 simp only[dY,uV,uW]
 refine dO (uA O (uA O (uA O (dN (dO (uM O (uX (lS (m:=m) (pp:=pp) (bm:=bm) hE) O ?_)))))))
 rintro _ _⟨rfl,rfl⟩
 simp only[uV,uW]
 refine uX (gQ hE) O ?_
 rintro _ _⟨rfl,rfl⟩
 simp only[uV,uW]
 refine uA O (dN (aL (dO (uM O (uB (eU O (hE.t O)) ?_)))))
 refine dN (bD O (bC (aK (aL (dO (uM O (uB (uBl O) (uM O (dN (bK ?_))))))))))
 refine fD (fun k:Nat=>[(0,uPt m),(1,.slice a l.length c),(7,uPt s),(22,.slice a l.length c),(23,.int .i64 (l.length:Nat)),(24,.int .i64 (k:Nat))]) (fun k=>[cells pp [uPt s,uPt tb] 97,tabP tb s (rls Es),bR s most Es,cells m [uPt pp,.map (some bm)] 93,mapF bm .i64 f,q,R]) (fun k=>l.length-k) (fun k=>k≤l.length∧∀j p,j<k→l[j]?=some p→ValidN p.1) 0 ⟨Nat.zero_le _,fun j p h=>by omega⟩ ⟨rfl,rfl,rfl,rfl,rfl,rfl,trivial⟩ uI ?_
 rintro k⟨hk1,hall⟩
 refine dO (uB (y_lt O O) (dN (aL ?_)))
 refine bE O (fun h=>?_) (fun h=>?_)
 ·have hkl:k<l.length:=oO
  obtain⟨p,hp⟩:∃p,l[k]?=some p:=⟨_,List.getElem?_eq_getElem hkl⟩
  have hpm:=List.mem_of_getElem? hp
  obtain⟨g,o,rfl,hq'⟩:=hq (xP oO)
  have fm:=wT hp
  refine bC (aK (aL (bK (dO (uB (uAi O O) ?_)))))
  apply aA
  ·(apply dL rfl (hE.t rfl) rfl (by assumption);(focus((repeat constructor);done));(focus exact fm);(focus rfl);(focus omega))
  ·rfl
  refine uU (dA (hE.t O) (fun b9=>?_))
  refine uU (uS ?_)
  refine dN (dO (uB (uBf O) ?_))
  refine uL ?_
  refine uX (qQ (bs:=p.1) hE) O ?_
  rintro _ _⟨rfl,rfl⟩
  simp only[uV,uW]
  refine uB (gY O) (dN ?_)
  refine qIn O (fun hv=>?_) (fun hv=>?_)
  ·refine aL (aJ ?_)
   refine uB (gP O (hE.t O) O) ?_
   refine uA O (uA O (uA O (dN (bZ (bN (aV (aV (bN (aV ?_)))))))))
   exact uZ O (.tmp O (.tmp O (.tmp O .nil))) (.inl ⟨13,.inl ⟨O,fun hN=>hv (hN p hpm)⟩,O,O⟩)
  refine bC (bI (aK (aJ ?_)))
  refine uB (uAa O O) (uM O (aM ?_))
  refine bS (ι:=Nat) (j:=k+1) ⟨oO,fun j p' hj hjp=>?_⟩ oO ⟨O,O,O,O,O,congrArg some (bW oO),trivial⟩ uI
  rcases Nat.lt_or_ge j k with h'|h'
  ·exact hall j p' h' hjp
  obtain rfl:j=k:=by omega
  rw[hp]at hjp
  cases hjp
  exact hv
 have hNames:Names l:=fun p hp=>by
  obtain⟨j,hj⟩:=List.getElem?_of_mem hp
  exact hall j p (by have:=(List.getElem?_eq_some_iff.1 hj).1;omega) hj
 clear hall
 refine dF (aQ (aQ (bH (aK (aL (dO (uM O (uB (uBl O) (uM O (dN (bK ?_)))))))))))
 refine fD (fun k:Nat=>[(0,uPt m),(1,.slice a l.length c),(7,uPt s),(35,.int .i64 (l.length:Nat)),(36,.int .i64 (k:Nat))]) (fun k=>[cells pp [uPt s,uPt tb] 97,tabP tb s (rls Es),bR s most Es,cells m [uPt pp,.map (some bm)] 93,mapF bm .i64 f,q,R]) (fun k=>l.length-k) (fun k=>k≤l.length∧Ordered l k) 0 ⟨Nat.zero_le _,fun j p q h=>by omega⟩ ⟨rfl,rfl,rfl,rfl,rfl,trivial⟩ uI ?_
 rintro k⟨hk1,hord⟩
 refine dO (uB (y_lt O O) (dN (aL ?_)))
 refine bE O (fun h=>?_) (fun h=>?_)
 ·have hkl:k<l.length:=oO
  obtain⟨p,hp⟩:∃p,l[k]?=some p:=⟨_,List.getElem?_eq_getElem hkl⟩
  obtain⟨g,o,rfl,hq'⟩:=hq (xP oO)
  have f0:=(qAh hp).1
  refine bC (aK (aL (bK (dO (uM O (uA O ?_))))))
  refine dN (aL (iP oK ?_))
  refine uM O (uB (y_gt O O) (uM O ?_))
  refine eG 41 O (fun h0=>?_) (fun h0=>?_)
  ·obtain⟨k,rfl⟩:∃k',k=k'+1:=⟨k-1,oO⟩
   obtain⟨p0,hp0⟩:∃p,l[k]?=some p:=⟨_,List.getElem?_eq_getElem oO⟩
   have f1:=(qAh hp0).1
   refine dP (uM O (dP (uM O (dP (uB (uAi O O) ?_)))))
   refine dP (uB (uBf O) ?_)
   refine dP ?_
   apply aA
   ·(apply bJ rfl (hE.t rfl) rfl (by assumption);(focus((repeat constructor);done));(first |((focus exact f0);(focus omega))|((focus exact f1);(focus omega))|((focus assumption);(focus omega))))
   ·rfl
   refine dP (uM O (dP (uM O (dP (uB (uAs O O) (dP (uB (uAi O O) ?_)))))))
   refine dP (uB (uBf O) ?_)
   refine dP ?_
   apply aA
   ·(apply bJ rfl (hE.t rfl) rfl (by assumption);(focus((repeat constructor);done));(first |((focus exact f0);(focus omega))|((focus exact f1);(focus omega))|((focus assumption);(focus omega))))
   ·rfl
   refine dP (uB (qGd O O) ?_)
   refine uB (aW O O) (dN ?_)
   refine w_eq 54 (.bool (!Op.bytesLess p0.1 p.1)) O (congrArg Value.bool qAb) ?_
   refine yP O (fun hv=>?_) (fun hv=>?_)
   ·refine aL (aJ ?_)
    refine uB (gP O (hE.t O) O) ?_
    refine uA O (uA O (uA O (dN (bZ (bN (aV (aV (bN (aV ?_)))))))))
    apply cB
    ·rfl
    ·(apply Rs.tmp rfl;apply Rs.tmp rfl;apply Rs.tmp rfl;exact Rs.nil)
    ·refine .inl ⟨4,.inr (.inl ⟨O,hNames,fun hN=>?_⟩),O,O⟩
     have:=hN k p0 p oO hp0 hp
     rw[this]at hv
     cases hv
    exact uI
   refine bC (bI (aK (aJ ?_)))
   refine uB (uAa O O) (uM O (aM ?_))
   refine bS (ι:=Nat) (j:=k+1+1) ⟨oO,fun j x y hj hx hy=>?_⟩ oO ⟨O,O,O,O,congrArg some (bW oO),trivial⟩ uI
   rcases Nat.lt_or_ge (j+1) (k+1)with h'|h'
   ·exact hord j x y h' hx hy
   obtain rfl:j=k:=by omega
   rw[hp0]at hx
   rw[hp]at hy
   cases hx
   cases hy
   simpa using hv
  obtain rfl:k=0:=by omega
  refine dQ (dQ (dQ (dQ (dQ (dQ (dQ (dQ (dQ (dQ (dQ (dQ (uB (aX O O) (dN (bD O (bC (bI (aK (aJ (uB (uAa O O) (uM O (aM ?_)))))))))))))))))))))
  refine bS (ι:=Nat) (j:=1) ⟨oO,fun j x y hj hx hy=>by omega⟩ oO ⟨rfl,rfl,rfl,rfl,congrArg some (bW oO),trivial⟩ uI
 obtain rfl:k=l.length:=by omega
 refine dF (aQ (aQ (bH (aK (dO (uM O (uB (uBl O) (uU ?_))))))))
 refine qLd (hE.t O) (hE.t O) O oO (by(unfold maxLen;omega)) (fun b59 us59 hu59=>?_)
 refine uA O (dN (aL (dO (uM O (uB (uBl O) (uM O (dN (bK ?_))))))))
 have hrl:(rawN l).length=l.length:=List.length_map _
 refine fD (fun k:Nat=>[(0,uPt m),(7,uPt s),(11,.slice (some ⟨b59,0,none⟩) l.length l.length),(60,.slice a l.length c),(61,.int .i64 (l.length:Nat)),(62,.int .i64 (k:Nat))]) (fun k=>[cells pp [uPt s,uPt tb] 97,tabP tb s (rls Es),bR s most Es,cells m [uPt pp,.map (some bm)] 93,mapF bm .i64 f,q,sl (some ⟨b59,0,none⟩) l.length 44 1 l.length (idC ((rawN l).take k)++us59.drop k),R]) (fun k=>l.length-k) (fun k=>k≤l.length∧∀j p,j<k→l[j]?=some p→0≤p.2∧p.2≤(Es.length:Nat)) 0 ⟨Nat.zero_le _,fun j p h=>by omega⟩ ⟨rfl,rfl,rfl,rfl,rfl,rfl,trivial⟩ uI ?_
 rintro k⟨hk1,hall⟩
 refine dO (uB (y_lt O O) (dN (aL ?_)))
 refine bE O (fun h=>?_) (fun h=>?_)
 ·have hkl:k<l.length:=oO
  obtain⟨p,hp⟩:∃p,l[k]?=some p:=⟨_,List.getElem?_eq_getElem hkl⟩
  have hpm:=List.mem_of_getElem? hp
  obtain⟨g,o,rfl,hq'⟩:=hq (xP oO)
  have fm:=wT hp
  refine bC (aK (aL (bK (dO (uM O (uB (uAi O O) ?_))))))
  apply aA
  ·(apply dL rfl (hE.t rfl) rfl (by assumption);(focus((repeat constructor);done));(focus exact fm);(focus rfl);(focus omega))
  ·rfl
  refine uU (dA (hE.t O) (fun b13=>?_))
  refine uA O (uU (uS ?_))
  refine dN (aL (aL ?_))
  refine uH ([cells b13 [.string ⟨⟨p.1⟩⟩,.int .i64 p.2] 53]) ?_
  refine uD 0 O (uBf O) ?_
  refine uD 1 O (uY) ?_
  refine uD 2 O (y_lt O O) (uD 3 O (aB O) ?_)
  refine qIz 70 O (fun h1=>?_) (fun h1=>?_)
  ·refine d_off 4 O O O O (by with_reducible (repeat(first |exact aF|apply aG|apply aH))) oK O ?_
   refine uR 5 O O O O ?_
   refine uR 6 O O O O ?_
   refine uR 7 O O O O ?_
   refine uR 8 O O O O ?_
   refine uD 9 O (aW O O) ?_
   refine jT oK ?_
   refine aK (bF O (dO (uB (gP O (hE.t O) O) ?_)))
   refine uA O (uA O (uA O (dN (bZ (aV (bN (aV (aV (bN (aV ?_))))))))))
   exact uZ O (.tmp O (.tmp O (.tmp O .nil))) (.inl ⟨1,.inr (.inr ⟨O,hNames,hord,fun hI=>by have:=(hI p hpm).1;omega⟩),rfl,rfl⟩)
  apply d_on 4 O O O
  ·exact uBf O
  ·with_reducible (repeat(first |exact aF|apply aG|apply aH))
  ·kernel_rfl
  ·rfl
  refine uO 5 O O O (uY) ?_
  refine uO 6 O O O (aB O) ?_
  apply vC 7 O O O oK O
  refine uC (tZ hE) O ?_
  rintro _ _⟨rfl,rfl⟩
  simp only[uV,uW]
  refine uE ?_
  refine uO 8 O O O (y_gt O O) (uD 9 O (aX O O) ?_)
  refine jT oK ?_
  refine aK ?_
  refine bE O (fun h2=>?_) (fun h2=>?_)
  ·refine aL (aJ ?_)
   refine uB (gP O (hE.t O) O) ?_
   refine uA O (uA O (uA O (dN (bZ (aV (bN (aV (aV (bN (aV ?_))))))))))
   exact uZ O (.tmp O (.tmp O (.tmp O .nil))) (.inl ⟨1,.inr (.inr ⟨O,hNames,hord,fun hI=>by have:=(hI p hpm).2;omega⟩),rfl,rfl⟩)
  refine bC (aK (aJ ?_))
  refine uM O (uM O (uB (uBf O) ?_))
  refine uL ?_
  refine l_eq 81 (.int .i64 (p.2.toNat:Nat)) O (bW oO) ?_
  refine uB (uAj O O) ?_
  refine l_eq 82 (.pointer (some ⟨b59,k,none⟩)) O (by simp) ?_
  refine uU (uJ ?_)
  refine aM (bI (aK ?_))
  have hrk:(rawN l)[k]?=some p.2.toNat:=by unfold rawN;rw[List.getElem?_map,hp];rfl
  simp only[bP]
  rw[qDn hrk oO]
  refine aJ (uB (uAa O O) (uM O (aM ?_)))
  refine bS (ι:=Nat) (j:=k+1) ⟨oO,fun j p' hj hjp=>?_⟩ oO ⟨O,O,O,O,O,congrArg some (bW oO),trivial⟩ uI
  rcases Nat.lt_or_ge j k with h'|h'
  ·exact hall j p' h' hjp
  obtain rfl:j=k:=by omega
  rw[hp]at hjp
  cases hjp
  exact⟨oO,oO⟩
 obtain rfl:k=l.length:=by omega
 have hIn:InR Es.length l:=fun p hp=>by
  obtain⟨j,hj⟩:=List.getElem?_of_mem hp
  exact hall j p (List.getElem?_eq_some_iff.1 hj).1 hj
 have hxs:∀x∈rawN l,x≤Es.length∧len (rls Es) x≤256:=fun x hx=>by
  obtain⟨p,hp,rfl⟩:=List.mem_map.1 hx
  have:=hIn p hp
  exact⟨oO,hl p hp this.1 this.2⟩
 have hv:idC ((rawN l).take l.length)++us59.drop l.length=idC (rawN l):=by
  rw[List.take_of_length_le oO,List.drop_eq_nil_of_le oO,List.append_nil]
 rw[hv]
 refine dF (aQ (aQ (bH (aK (dO (uM O (uM O (uX (ct_AllN (s:=s) (tb:=tb) (most:=most) (f:=f) (m:=m) (pp:=pp) (bm:=bm) hE hB hrl hxs hn hroom hk) O ?_))))))))
 rintro _ _⟨M,f',ys,p',c',rfl,hM,hkn,hyl,hsl,rfl⟩
 simp only[uV,uW]
 refine uM O (uB (aT O O) (uB (aT O O) (uA O (uA O (dN (aL (dO (uM O (uB (dU O (hE.t O)) ?_)))))))))
 refine dN (bD O (bC (aK (dO (uM O (uM O (uA O (uA O (uA O (dN (bZ ?_)))))))))))
 exact uZ O (.tmp O (.tmp O (.tmp O .nil))) (.inr ⟨M,f',ys,p',c',⟨hNames,hord,hIn⟩,O,hM,hkn,hyl,hsl,O⟩)
end
section
variable {E:Env}{Es:List Ent}{pp tb s most m bm:Nat}{f:Int→Option Value}
theorem qRq {st:List (Nat×Bool)}{x:Nat}{b:Bool}:(stC ((x,b)::st))[(stC st).length]?=some (.int .i64 (x:Nat))∧(stC ((x,b)::st))[(stC st).length+1]?=some (.bool b):=⟨ap_0,ap_1⟩
theorem st_ptr {st:List (Nat×Bool)}{g n:Nat}(h:n=st.length+1):(.pointer (some ⟨g,0+(((n:Nat):Int)-1).toNat*2,none⟩):Value)= .pointer (some ⟨g,(stC st).length,none⟩):=by
 rw[sK,show 0+(((n:Nat):Int)-1).toNat*2=st.length*2 by omega]
def AccOk (L:List Rl)(acc:List Nat):Prop:=acc.Nodup∧∀y∈acc,1≤y∧y≤L.length
theorem AccOk.len {L:List Rl}{acc:List Nat}(h:AccOk L acc):acc.length≤L.length:=by
 have:=qLg (B:=(List.range L.length).map (· +1)) h.1 (fun x hx=>by
  have:=h.2 x hx
  exact List.mem_map.2 ⟨x-1,List.mem_range.2 oO,oO⟩)
 simpa using this
theorem AccOk.visits {L:List Rl}(hw:Wf L){xs:List Nat}(hx:∀x∈xs,x≤L.length):AccOk L (dD L xs []):=by
 have:=pF hw L.length xs [] hx
 refine⟨this.2.2 (by simp),fun y hy=>?_⟩
 rcases this.1 y hy with h| h
 ·simp at h
 exact⟨h.1,h.2.2⟩
theorem AccOk.snoc {L:List Rl}{acc:List Nat}(h:AccOk L acc){x:Nat}(hx:x≤L.length)(hn:¬(x=0∨x∈acc)):AccOk L (acc++[x]):=by
 refine⟨List.nodup_append.2 ⟨h.1,by simp,fun a ha b hb=>?_⟩,fun y hy=>?_⟩
 ·simp at hb
  subst hb
  rintro rfl
  exact hn (.inr ha)
 rcases List.mem_append.1 hy with hy|hy
 ·exact h.2 y hy
 simp at hy
 subst hy
 exact⟨Nat.pos_of_ne_zero fun e=>hn (.inl e),hx⟩
structure LoG where
 k:Nat
 acc:List Nat
 p:Option Addr
 c:Nat
 ps:Option Addr
 cs:Nat
structure LiG where
 st:List (Nat×Bool)
 acc:List Nat
 p:Option Addr
 c:Nat
 ps:Option Addr
 cs:Nat
structure LkG where
 j:Nat
 ps:Option Addr
 cs:Nat
theorem qMy (hE:Seat E){xs:List Nat}{n:Nat}(hxn:xs.length=n){a:Option Addr}{ca:Nat}(hx:∀x∈xs,x≤Es.length∧len (rls Es) x≤256) (hn:n≤1000):
  Ct E 29 [uPt s,.slice a n ca] [bR s most Es,sl a ca 44 1 n (idC xs)]
   (fun v Q=>∃p c,v= .slice p (dD (rls Es) xs []).length c∧Q=[bR s most Es,sl a ca 44 1 n (idC xs),sl p c 44 1 (dD (rls Es) xs []).length (idC (dD (rls Es) xs []))]):=by
 refine eZ (p:=bR s most Es) uK (fun _ h=>dR h) (fun hsay=>?_)
 have hmr:fA=1048576:=rfl
 have hLl:=bQ Es
 have hx1:∀x∈xs,x≤(rls Es).length:=fun x h=>by have:=(hx x h).1;omega
 refine bO (hE.fn Tryz.func29) O O O (fun R=>?_)
 simp only[dY,uV,uW]
 refine dO (uA O (dN (dO (uA O (dN (dO (uA O (dN (dO (uU ?_))))))))))
 refine vR .i64 (fun b15=>?_)
 refine uU ?_
 apply qHg (kt:=44) (et:=4) (by rw[hE.P];kernel_rfl) (by rw[hE.P];kernel_rfl) O O O
 ·exact uK
 refine uM O (uA O (dN (aL (dO (uM O (uB (uBl O) (uM O (dN (bK ?_)))))))))
 rw[qQh]
 refine fD (fun q:LoG=>[(0,uPt s),(5,.slice q.p (q.acc).length q.c),(6,.slice q.ps (([]:List (Nat×Bool))).length q.cs),(7,.map (some b15)),(17,.slice a n ca),(18,.int .i64 (n:Nat)),(19,.int .i64 (q.k:Nat))]) (fun q=>[bR s most Es,sl a ca 44 1 n (idC xs),mapF b15 .i64 (lsF q.acc),sl q.p q.c 44 1 (q.acc).length (idC (q.acc)),sl q.ps q.cs 133 2 (([]:List (Nat×Bool))).length (stC (([]:List (Nat×Bool)))),R]) (fun q=>n-q.k) (fun q=>q.k≤n∧q.acc=dD (rls Es) (xs.take q.k) []) ⟨0,[],none,0,none,0⟩ ⟨Nat.zero_le _,O⟩ ⟨O,O,O,O,O,O,O,trivial⟩ ?_ ?_
 ·apply cZ (iV (t:=44) (sz:=1))
  apply cZ (iV (t:=133) (sz:=2))
  exact uI
 rintro⟨k,acc,p,c,ps,cs⟩⟨hk,hacc⟩
 simp only at hk hacc ⊢
 have hnl:([]:List (Nat×Bool)).length=0:=rfl
 refine dO (uB (y_lt O O) (dN (aL ?_)))
 refine bE O (fun h=>?_) (fun h=>?_)
 ·have hlt:k<xs.length:=oO
  obtain⟨x,hxi⟩:∃x,xs[k]?=some x:=⟨_,List.getElem?_eq_getElem hlt⟩
  have hxx:=hx x (List.mem_of_getElem? hxi)
  have hwm:=qSm hsay.1 (show x≤(rls Es).length by omega) hxx.2
  have htk:xs.take (k+1)=xs.take k++[x]:=by rw[List.take_add_one,hxi];rfl
  have hvs:dD (rls Es) (xs.take (k+1)) []=visit (rls Es) x acc:=by rw[htk,wD,hacc];rfl
  have hao:AccOk (rls Es) acc:=by rw[hacc];exact AccOk.visits hsay.1 (fun y hy=>hx1 y (List.mem_of_mem_take hy))
  refine iT (p:=sl a ca 44 1 n (idC xs)) uK (fun _ h=>fB h oO) ?_
  rintro⟨gx,rfl⟩
  have f0:=fK hxi (0+((k:Nat):Int).toNat) oO
  have f1:=fK hxi (((k:Nat):Int).toNat) oO
  refine bC (aK (aL (bK (dO (uB (uAj O O) (uL ?_))))))
  refine uA O (dN (dO (uM O (uM O (uB (dV (hE.t O) O O) ?_)))))
  refine uU ?_
  refine aU (hE.t O) (hE.t O) O O O (fun b26=>?_)
  refine uU ?_
  apply bU (hE.t O) (hE.t O) O O O
  ·exact uK
  ·exact uK
  ·rfl
  ·rfl
  ·omega
  ·omega
  ·(unfold maxLen;omega)
  intro g27 c27 n27 x27 hn27 hx27
  refine uA O (dN (bK ?_))
  obtain rfl:x27=stC [(x,false)]:=by rw[hx27];rfl
  subst hn27
  refine fD (fun q:LiG=>[(0,uPt s),(5,.slice q.p (q.acc).length q.c),(6,.slice q.ps (q.st).length q.cs),(7,.map (some b15)),(17,.slice (some ⟨gx,0,none⟩) n ca),(18,.int .i64 (n:Nat)),(19,.int .i64 (k:Nat))]) (fun q=>[bR s most Es,sl (some ⟨gx,0,none⟩) ca 44 1 n (idC xs),mapF b15 .i64 (lsF q.acc),sl q.p q.c 44 1 (q.acc).length (idC (q.acc)),sl q.ps q.cs 133 2 (q.st).length (stC (q.st)),R]) (fun q=>qO (rls Es) q.st) (fun q=>runS (rls Es) q.st q.acc=dD (rls Es) (xs.take (k+1)) []∧StOk (rls Es) q.st∧qO (rls Es) q.st≤1025∧AccOk (rls Es) q.acc) ⟨[(x,false)],acc,p,c,some ⟨g27,0,none⟩,c27⟩ ⟨hvs.symm,fun q hq=>by
   obtain rfl:=List.mem_singleton.1 hq
   exact⟨by simp only;omega,fun h=>by cases h⟩,by simp only[qO];omega,hao⟩ ⟨rfl,rfl,rfl,rfl,rfl,rfl,rfl,trivial⟩ uI ?_
  clear hao hvs hacc
  rintro⟨st,acc,p,c,ps,cs⟩⟨hrun,hst,hwk,hao⟩
  simp only at hrun hst hwk hao ⊢
  have hal:=hao.len
  have hsl:=qBc (rls Es) st
  refine aL (dO (uM O (uB (uBl O) (uB (y_gt O O) (dN ?_)))))
  refine bE O (fun h2=>?_) (fun h2=>?_)
  ·obtain⟨y,b,st,rfl⟩:∃y b st',st=(y,b)::st':=by
    cases st with
    |nil=>simp at h2
    |cons q st=>exact⟨q.1,q.2,st,rfl⟩
   have hyy:=hst (y,b) (by simp)
   simp only at hyy
   have hstl:((y,b)::st).length=st.length+1:=rfl
   have hws:=qDp (rls Es) y b st
   obtain⟨f2,f3⟩:=qRq (st:=st) (x:=y) (b:=b)
   refine iT (p:=sl ps cs 133 2 ((y,b)::st).length (stC ((y,b)::st))) uK (fun _ h=>And.intro (fB h oO) (lH h).1) ?_
   rintro⟨⟨gs,rfl⟩,hcap⟩
   refine bC (aK (bK (dO (uM O (uM O (uB (uBl O) (uB (uAs O O) (uB (uAi O O) ?_))))))))
   refine l_eq 35 _ O (st_ptr (st:=st) hstl) ?_
   refine uB (uG) ?_
   refine uU (dA (hE.t O) (fun b10=>?_))
   refine uU (uS ?_)
   refine dN (dO (uM O (uM O (uB (uBl O) (uB (uAs O O) (uB (fV st.length O O (hE.t O) oO oO) ?_))))))
   refine uA O (dN ?_)
   refine iU (cO (p:=sl (some ⟨gs,0,none⟩) cs 133 2 ((y,b)::st).length (stC ((y,b)::st))) (p':=sl (some ⟨gs,0,none⟩) cs 133 2 st.length (stC st)) uK (lD oO (by rw[←sK];simp[stC]) (by simp))) ?_
   by_cases hin:y=0∨y∈acc
   ·have hf:=lsF_in hin
    refine aL (dO (uM O (uB (uBf O) ?_)))
    refine uL ?_
    refine uB (jJ (kt:=44) (et:=4) (z:= .bool false) (by rw[hE.P];kernel_rfl) (by rw[hE.P];kernel_rfl) (fun w=>by rw[hE.P];kernel_rfl) rfl rfl uK (by assumption)) ?_
    refine dN ?_
    refine w_eq 45 (.bool true) O O ?_
    refine bF O (dF (aQ (bH ?_)))
    refine bS (ι:=LiG) (j:=⟨st,acc,p,c,some ⟨gs,0,none⟩,cs⟩) ⟨by rw[←qHy hst hin];exact hrun,hst.tail,by simp only;omega,hao⟩ hws ⟨rfl,rfl,rfl,rfl,rfl,rfl,rfl,trivial⟩ ?_
    exact uI
   have hf:=qQi hin
   refine aL (dO (uM O (uB (uBf O) ?_)))
   refine uL ?_
   refine uB (jJ (kt:=44) (et:=4) (z:= .bool false) (by rw[hE.P];kernel_rfl) (by rw[hE.P];kernel_rfl) (fun w=>by rw[hE.P];kernel_rfl) rfl rfl uK (by assumption)) ?_
   refine dN ?_
   refine w_eq 45 (.bool false) O O ?_
   refine bD O (bC (aK (aL (dO (uB (uBf O) ?_)))))
   refine uL ?_
   refine dN ?_
   refine yP O (fun hb=>?_) (fun hb=>?_)
   ·subst hb
    refine dO (uM O (uB (uBf O) ?_))
    refine uL ?_
    refine uU ?_
    apply kU (kt:=44) (et:=4) (by rw[hE.P];kernel_rfl) (by rw[hE.P];kernel_rfl) O O O
    ·exact uK
    refine dN ?_
    rw[qQj]
    refine dO (uM O (uB (uBf O) ?_))
    refine uL ?_
    refine uU ?_
    refine aU (hE.t O) (hE.t O) O O O (fun b54=>?_)
    refine uU ?_
    apply bU (hE.t O) (hE.t O) O O O
    ·exact uK
    ·exact uK
    ·rfl
    ·rfl
    ·omega
    ·omega
    ·(unfold maxLen;omega)
    intro g55 c55 n55 x55 hn55 hx55
    refine uA O (dN (dF (aQ (bH ?_))))
    obtain rfl:x55=idC (acc++[y]):=by rw[hx55,kM];rfl
    have hal2:(acc++[y]).length=acc.length+1:=by simp
    subst hn55
    refine bS (ι:=LiG) (j:=⟨st,acc++[y],some ⟨g55,0,none⟩,c55,some ⟨gs,0,none⟩,cs⟩) ⟨by rw[←qHw hin];exact hrun,hst.tail,by simp only;omega,hao.snoc oO hin⟩ hws ⟨rfl,by simp only[hal2];rfl,rfl,rfl,rfl,rfl,rfl,trivial⟩ ?_
    simp only[hal2]
    exact uI
   subst hb
   obtain⟨i,rfl⟩:∃i,y=i+1:=⟨y-1,by have:y≠0:=fun e=>hin (.inl e);omega⟩
   have hent:Es[i]?=some (Es[i]'oO):=List.getElem?_eq_getElem oO
   generalize Es[i]'oO=en at hent
   have hri:=qI hent
   have hkk:=qEp en.r
   have hwr:=qIo hsay.1 hri st
   have hrr:=qHx hsay.1 hri (fun h=>hin (.inr h)) st
   have hso:=qIh hsay.1 hri hst.tail
   refine bC (aK (dO (uM O (uB (uBf O) ?_))))
   refine uL ?_
   refine uB (dV (hE.t O) O O) ?_
   refine uU ?_
   refine aU (hE.t O) (hE.t O) O O O (fun b60=>?_)
   refine uU ?_
   apply bU (hE.t O) (hE.t O) O O O
   ·exact uK
   ·exact uK
   ·rfl
   ·rfl
   ·omega
   ·omega
   ·(unfold maxLen;omega)
   intro g61 c61 n61 x61 hn61 hx61
   refine uA O (dN (dO (uM O (uB (uBf O) ?_))))
   refine uL ?_
   obtain rfl:x61=stC ((i+1,true)::st):=by rw[hx61];rfl
   subst hn61
   refine uX (mD hE hent) O ?_
   rintro _ _⟨rfl,rfl⟩
   simp only[uV,uW]
   refine uM O (uB (aT O O) (uB (aT O O) (uU (dA (hE.t O) (fun b11=>?_)))))
   refine uU (uS ?_)
   refine uA O (dN (dO (uB (uG) ?_)))
   refine uX (qEg hE en.r) O ?_
   rintro _ _⟨pk,ck,rfl,rfl⟩
   simp only[uV,uW]
   refine uA O (dN (dO (uM O (uB (uBl O) (uB (uAs O O) (uA O (dN (bK ?_))))))))
   refine fD (fun q:LkG=>[(0,uPt s),(5,.slice p acc.length c),(6,.slice q.ps (((kids en.r).drop q.j).map (·,false)++(i+1,true)::st).length q.cs),(7,.map (some b15)),(13,.slice pk (kids en.r).length ck),(14,.int .i64 ((q.j:Nat)-1:Int)),(17,.slice (some ⟨gx,0,none⟩) n ca),(18,.int .i64 (n:Nat)),(19,.int .i64 (k:Nat))])
    (fun q=>[bR s most Es,sl (some ⟨gx,0,none⟩) ca 44 1 n (idC xs),mapF b15 .i64 (lsF acc),sl p c 44 1 acc.length (idC acc),sl q.ps q.cs 133 2 (((kids en.r).drop q.j).map (·,false)++(i+1,true)::st).length (stC (((kids en.r).drop q.j).map (·,false)++(i+1,true)::st)),sl pk ck 44 1 (kids en.r).length (idC (kids en.r)),R]) (fun q=>q.j) (fun q=>q.j≤(kids en.r).length) ⟨(kids en.r).length,some ⟨g61,0,none⟩,c61⟩ (Nat.le_refl _) ⟨rfl,rfl,by simp only[List.drop_length];rfl,rfl,rfl,rfl,rfl,rfl,rfl,trivial⟩ ?_ ?_
   ·simp only[List.drop_length,List.map_nil,List.nil_append,List.length_cons]
    exact uI
   rintro⟨j,ps,cs⟩hj
   simp only at hj ⊢
   have hjl:(((kids en.r).drop j).map (·,false)++(i+1,true)::st).length=(kids en.r).length-j+1+st.length:=by simp;omega
   refine aL (dO (uM O (uB (y_ge O O) (dN ?_))))
   refine bE O (fun h4=>?_) (fun h4=>?_)
   ·obtain⟨j,rfl⟩:∃j',j=j'+1:=⟨j-1,oO⟩
    obtain⟨z,hz⟩:∃z,(kids en.r)[j]?=some z:=⟨_,List.getElem?_eq_getElem oO⟩
    have f4:=fK hz j O
    refine iT (p:=sl pk ck 44 1 (kids en.r).length (idC (kids en.r))) uK (fun _ h=>fB h oO) ?_
    rintro⟨gk,rfl⟩
    refine bC (aK (aL (bK (aJ (uM O (uM O (uM O (uB (uAj O O) ?_))))))))
    refine l_eq 81 (.pointer (some ⟨gk,j,none⟩)) O (by congr 3;omega) ?_
    refine uL ?_
    refine uB (dV (hE.t O) O O) ?_
    refine uU ?_
    refine aU (hE.t O) (hE.t O) O O O (fun b84=>?_)
    refine uU ?_
    apply bU (hE.t O) (hE.t O) O O O
    ·exact uK
    ·exact uK
    ·rfl
    ·rfl
    ·omega
    ·omega
    ·(unfold maxLen;omega)
    intro g85 c85 n85 x85 hn85 hx85
    refine uA O (aM (bI (aK (aJ (uM O (uB (uAs O O) (uA O (aM ?_))))))))
    have hdr:((kids en.r).drop j).map (·,false)=(z,false)::((kids en.r).drop (j+1)).map (·,false):=by rw[yH hz];rfl
    obtain rfl:x85=stC (((kids en.r).drop j).map (·,false)++(i+1,true)::st):=by rw[hx85,hdr];rfl
    have hjl2:(((kids en.r).drop j).map (·,false)++(i+1,true)::st).length=(((kids en.r).drop (j+1)).map (·,false)++(i+1,true)::st).length+1:=by rw[hdr];rfl
    subst hn85
    refine bS (ι:=LkG) (j:=⟨j,some ⟨g85,0,none⟩,c85⟩) (by simp only;omega) (by simp only;omega) ⟨O,O,by simp only[hjl2];rfl,rfl,rfl,congrArg some (bW (by simp only;omega)),rfl,rfl,rfl,trivial⟩ ?_
    simp only[hjl2]
    exact uI
   obtain rfl:j=0:=by omega
   refine dF (aQ (aQ (bH (bI ?_))))
   refine bS (ι:=LiG) (j:=⟨qLx en.r (i+1) st,acc,p,c,ps,cs⟩) ⟨by rw[←hrun,hrr];rfl,hso,Nat.le_trans (Nat.le_of_lt hwr) hwk,hao⟩ hwr ⟨rfl,rfl,rfl,rfl,rfl,rfl,rfl,trivial⟩ ?_
   exact uI
  obtain rfl:st=[]:=List.eq_nil_of_length_eq_zero oO
  refine dF (aQ (aQ (bH (bI (aK (aJ (uB (uAa O O) (uM O (aM ?_)))))))))
  refine bS (ι:=LoG) (j:=⟨k+1,acc,p,c,ps,cs⟩) ⟨by simp only;omega,hrun⟩ (by simp only;omega) ⟨rfl,rfl,rfl,rfl,rfl,rfl,congrArg some (bW (by simp only;omega)),trivial⟩ ?_
  exact uI
 obtain rfl:k=n:=by omega
 have hall:xs.take k=xs:=List.take_of_length_le oO
 rw[hall]at hacc
 subst hacc
 refine dF (aQ (aQ (bH (aK (dO (uM O (uA O (dN (bZ ?_)))))))))
 exact uZ O (.tmp O .nil) ⟨p,c,O,O⟩
end
section
variable {E:Env}{Es:List Ent}{pp tb s most m bm:Nat}{f:Int→Option Value}
theorem zA (hE:Seat E){g c:Nat}{bs:List UInt8}(hn:bs.length≤1099511627776):Ct E 33 [.slice (some ⟨g,0,none⟩) bs.length c] [ro g (byC bs)] (fun v Q=>∃g' c',v= .slice (some ⟨g',0,none⟩) (iA bs).length c'∧Q=[ro g (byC bs),sl (some ⟨g',0,none⟩) c' 5 1 (iA bs).length (byC (iA bs))]):=by
 have h10:=gB (n:=bs.length) oO
 have hp:=jD bs.length
 have hbl:=yT bs
 have hbb:(iA bs).length=(vput bs.length).length+bs.length:=List.length_append
 have hb1:((vput bs.length).length+(byC bs).length)*1≤140737488355328:=oO
 have hb2:(vput bs.length).length+(byC bs).length≤maxLen:=by unfold maxLen;omega
 refine bO (hE.fn Tryz.func33) O O O (fun R=>?_)
 simp only[dY,uV,uW]
 refine dO (uA O (dN (dO (uM O (uB (uBl O) (uB (uAc O) ?_))))))
 refine uX (mW (n:=bs.length) hE oO) O ?_
 rintro _ _⟨g2,c2,rfl,rfl⟩
 simp only[uV,uW]
 refine uM O (uU ?_)
 refine vQ (us:=byC bs) (q:=ro g (byC bs)) (hE.t O) (hE.t O) O O O hbl.symm (fun _=>⟨g,0,O,rd_ro⟩) uK uK (iQ bs) hb1 hb2 (fun p1 c1 m1 x1 hm1 hx1=>?_)
 obtain rfl:m1=(iA bs).length:=by omega
 obtain rfl:x1=byC (iA bs):=hx1.trans (gK _ _).symm
 refine qC (p:=sl p1 c1 5 1 (iA bs).length (byC (iA bs))) uK (fun _ h=>fB h oO) ?_
 rintro⟨g',rfl⟩
 refine uA O (dN (bZ ?_))
 exact uZ O (.tmp O .nil) ⟨g',c1,O,O⟩
theorem ys_ok {M:List Ent}{l:List (List UInt8×Int)}{ys:List Nat}(hl:∀p∈l,0≤p.2→p.2≤(Es.length:Nat)→Eg.len (rls Es) p.2.toNat≤256) (hI:InR Es.length l) (hyl:ys.length=l.length) (hs:SigL (rls (Es++M)) (rawN l) ys):∀y∈ys,y≤(Es++M).length∧Eg.len (rls (Es++M)) y≤256:=fun y hy=>by
 obtain⟨i,hi⟩:=List.getElem?_of_mem hy
 have hil:=(List.getElem?_eq_some_iff.1 hi).1
 obtain⟨p,hp⟩:∃p,l[i]?=some p:=⟨_,List.getElem?_eq_getElem oO⟩
 have hpm:=List.mem_of_getElem? hp
 have hx:(rawN l)[i]?=some p.2.toNat:=by unfold rawN;rw[List.getElem?_map,hp];rfl
 have h:=hs i _ y hx hi
 have hIp:=hI p hpm
 refine⟨by have:=h.2.2.1.1;rwa [bQ]at this,?_⟩
 unfold Eg.len
 rw[h.2.1,dB,jR _ (by rw[bQ];omega)]
 exact hl p hpm hIp.1 hIp.2
theorem nuF_at {ids:List Nat}{k x:Nat}(h:ids[k]?=some x)(hn:ids.Nodup):setF (nuF (ids.take k)) (x:Nat) (.int .i64 ((k+1:Nat):Int))=nuF (ids.take (k+1)):=by
 have hk:=(List.getElem?_eq_some_iff.1 h).1
 have e:(ids.take k).length=k:=by simp;omega
 have htk:ids.take (k+1)=ids.take k++[x]:=by rw[List.take_add_one,h];rfl
 have hx:x∉ids.take k:=fun hm=>by
  have:(ids.take k++[x]).Nodup:=htk▸hn.sublist (List.take_sublist _ _)
  exact(List.nodup_append.1 this).2.2 x hm x (by simp) O
 have:=nuF_set hx
 rw[e]at this
 rw[this,htk]
theorem qDb (I:List Nat)(r:Rl):(iR I r).kind=r.kind:=by cases r<;>rfl
theorem qDa (I:List Nat)(r:Rl):(iR I r).byte=r.byte:=by cases r<;>rfl
theorem qG (I:List Nat)(r:Rl):(iR I r).times=r.times:=by cases r<;>rfl
theorem qDc {I:List Nat}(h:0∉I)(r:Rl):(iR I r).left=numb I r.left:=by cases r<;>first |rfl|exact(jZ.2 h).symm
theorem qAp {I:List Nat}(h:0∉I)(r:Rl):(iR I r).right=numb I r.right:=by cases r<;>first |rfl|exact(jZ.2 h).symm
theorem qLl {I A:List Nat}{x n:Nat}{r:Rl}(hI:I=A++[x])(ho:r.ok n)(hk:∀k∈kids r,k∈A):(iR I r).ok (A.length+1)∧∀B,iR (I++B) r=iR I r:=by
 subst hI
 have key:∀k∈A,1≤numb (A++[x]) k∧numb (A++[x]) k≤A.length:=fun k hk=>by
  rw[qEv hk]
  have:=qAj A k
  have:numb A k≠0:=fun e=>jZ.1 e hk
  omega
 have app:∀B,∀k∈A,numb (A++[x]++B) k=numb (A++[x]) k:=fun B k hk=>qEv (by simp[hk])
 cases r with
 |letter b=>exact⟨trivial,fun _=>rfl⟩
 |pair a b=>
  have h1:=key a (hk a (by simp[kids]))
  have h2:=key b (hk b (by simp[kids]))
  refine⟨⟨h1.1,oO,h2.1,oO⟩,fun B=>?_⟩
  simp only[iR,app B a (hk a (by simp[kids])),app B b (hk b (by simp[kids]))]
 |power a k=>
  have h1:=key a (hk a (by simp[kids]))
  simp only[Rl.ok]at ho
  refine⟨⟨h1.1,oO,ho.2.2⟩,fun B=>?_⟩
  simp only[iR,app B a (hk a (by simp[kids]))]
theorem qLr (i:Nat)(hi:i≤1099511627776)(r:Rl)(ht:r.times≤1152921504606846976):0<(rulB i r).length∧(rulB i r).length≤21:=by
 cases r with
 |letter b=>simp[rulB]
 |pair a b=>
  have h1:=gB (n:=i-a) oO
  have h2:=gB (n:=i-b) oO
  simp only[rulB,List.length_cons,List.length_append];omega
 |power a k=>
  simp only[Rl.times]at ht
  have h1:=gB (n:=i-a) oO
  have h2:=gB (n:=k-2) oO
  simp only[rulB,List.length_cons,List.length_append];omega
def nmY (l:List (List UInt8×Int))(ys:List Nat):List (List UInt8×Nat):=(l.map (·.1)).zip ys
theorem qGu (ids:List Nat)(A:List (List UInt8×Nat))(p:List UInt8×Nat):encN ids (A++[p])=encN ids A++iA p.1++vput (numb ids p.2):=by simp[encN,iA]
theorem qLf {l:List (List UInt8×Int)}{ys:List Nat}{k y:Nat}{p:List UInt8×Int}(hp:l[k]?=some p)(hy:ys[k]?=some y):(nmY l ys).take (k+1)=(nmY l ys).take k++[(p.1,y)]:=by
 have:(nmY l ys)[k]?=some (p.1,y):=by
  unfold nmY
  rw[List.getElem?_zip_eq_some]
  exact⟨by rw[List.getElem?_map,hp];rfl,hy⟩
 rw[List.take_add_one,this]
 rfl
end
section
variable {E:Env}{Es:List Ent}{pp tb s most m bm:Nat}{f:Int→Option Value}
structure EnG where
 k:Nat
 done:List UInt8
 g:Nat
 c:Nat
theorem qOo (hE:Seat E)(hB:Base E.w0){l:List (List UInt8×Int)}{a:Option Addr}{ca:Nat}{q:HP}(hq:Rdb E.w0 a (nlC l) q)(hn:l.length≤1000)
  (hl:∀p∈l,0≤p.2→p.2≤Es.length→Eg.len (rls Es) p.2.toNat≤256) (hroom:Es.length+512*l.length≤most) (hk:Kn (rls Es) f):
  Ct E 9 [uPt m,.slice a l.length ca] [cells pp [uPt s,uPt tb] 97,tabP tb s (rls Es),bR s most Es,cells m [uPt pp,.map (some bm)] 93,mapF bm .i64 f,q]
   (fun v Q=>(∃e,SgE Es.length l e∧v= .tuple #[.slice none 0 0,.iface 58 (.int .i64 e)]∧Q=[cells pp [uPt s,uPt tb] 97,tabP tb s (rls Es),bR s most Es,cells m [uPt pp,.map (some bm)] 93,mapF bm .i64 f,q])∨
    ∃M f' ys g c B,SgO Es.length l∧v= .tuple #[.slice (some ⟨g,0,none⟩) B.length c,.nilIface]∧B=encB (rls (Es++M)) (dD (rls (Es++M)) ys []) (nmY l ys)∧M.length≤512*l.length∧Kn (rls (Es++M)) f'∧ys.length=l.length∧SigL (rls (Es++M)) (rawN l) ys∧Q=[cells pp [uPt s,uPt tb] 97,tabP tb s (rls (Es++M)),bR s most (Es++M),cells m [uPt pp,.map (some bm)] 93,mapF bm .i64 f',q,sl (some ⟨g,0,none⟩) c 5 1 B.length (byC B)]):=by
 refine bO (hE.fn Tryz.func9) O O O (fun R=>?_)
 simp only[dY,uV,uW]
 refine dO (uA O (uA O (dN (dO (uM O (uM O (uX (qEh (s:=s) (tb:=tb) (most:=most) (f:=f) (m:=m) (pp:=pp) (bm:=bm) hE hB hq hn hl hroom hk) O ?_)))))))
 rintro _ _(⟨e,he,rfl,rfl⟩|⟨M,f',ys,p',c',ho,rfl,hM,hkn,hyl,hsl,rfl⟩)
 ·simp only[uV,uW]
  refine uM O (uB (aT O O) (uB (aT O O) (uB (aT O O) (uA O (uA O (uA O (dN (aL (dO (uM O (uB (dX O (hE.t O)) ?_)))))))))))
  refine dN (bF O (dO (uM O (uA O (uA O (dN (bZ (aV ?_))))))))
  exact uZ O (.tmp O (.tmp O .nil)) (.inl ⟨e,he,O,O⟩)
 have hyo:=ys_ok hl ho.2.2 hyl hsl
 simp only[uV,uW]
 refine uM O (uB (aT O O) (uB (aT O O) (uB (aT O O) (uA O (uA O (uA O (dN (aL (dO (uM O (uB (dU O (hE.t O)) ?_)))))))))))
 refine dN (bD O (bC (aK (dO (uM O (uM O (uX (qMy (s:=s) (most:=most) (Es:=Es++M) hE hyl hyo hn) O ?_)))))))
 rintro _ _⟨pl,cl,rfl,rfl⟩
 simp only[uV,uW]
 refine qC (p:=bR s most (Es++M)) uK (fun _ h=>dR h) (fun hsay=>?_)
 have hmr:fA=1048576:=rfl
 have hLl:=bQ (Es++M)
 have hao:AccOk (rls (Es++M)) (dD (rls (Es++M)) ys []):=AccOk.visits hsay.1 (fun y hy=>by have:=(hyo y hy).1;omega)
 have hord:=xF hsay.1 ys [] (qQt _)
 obtain⟨ids,hids⟩:∃ids,ids=dD (rls (Es++M)) ys []:=⟨_,rfl⟩
 rw[←hids]at hao hord ⊢
 have hal:=hao.len
 have h0i:0∉ids:=fun h=>by have:=(hao.2 0 h).1;omega
 refine uA O (dN (dO (uM O (uB (uBl O) (uU ?_)))))
 refine qCr .i64 (kt:=44) (et:=3) (by rw[hE.P];kernel_rfl) O (fun b35=>?_)
 refine uA O (dN ?_)
 rw[qQp]
 refine dO (uM O (uB (uBl O) (uB (uAc O) ?_)))
 refine uX (mW (n:=ids.length) hE oO) O ?_
 rintro _ _⟨g0,c0,rfl,rfl⟩
 simp only[uV,uW]
 have hv10:=gB (n:=ids.length) oO
 refine uA O (dN (aL (dO (uM O (uB (uBl O) (uM O (dN (bK ?_))))))))
 refine fD (fun x:EnG=>[(1,.slice a l.length ca),(6,uPt s),(7,.slice p' l.length c'),(10,.map (some b35)),(11,.slice (some ⟨x.g,0,none⟩) x.done.length x.c),(40,.slice pl ids.length cl),(41,.int .i64 (ids.length:Nat)),(42,.int .i64 (x.k:Nat))])
  (fun x=>[bR s most (Es++M),cells pp [uPt s,uPt tb] 97,tabP tb s (rls (Es++M)),cells m [uPt pp,.map (some bm)] 93,mapF bm .i64 f',q,sl p' c' 44 1 l.length (idC ys),mapF b35 .i64 (nuF (ids.take x.k)),sl (some ⟨x.g,0,none⟩) x.c 5 1 x.done.length (byC x.done),sl pl cl 44 1 ids.length (idC ids),R]) (fun x=>ids.length-x.k)
  (fun x=>x.k≤ids.length∧x.done=vput ids.length++encR (rls (Es++M)) ids x.k∧x.done.length≤10+21*x.k) ⟨0,vput ids.length,g0,c0⟩ ⟨Nat.zero_le _,by simp[encR],by simp only;omega⟩ ⟨rfl,rfl,rfl,rfl,rfl,rfl,rfl,rfl,trivial⟩ uI ?_
 rintro⟨k,done,g,c⟩⟨hk1,hdone,hdl⟩
 simp only at hk1 hdone hdl ⊢
 refine dO (uB (y_lt O O) (dN (aL ?_)))
 refine bE O (fun h=>?_) (fun h=>?_)
 ·have hkl:k<ids.length:=oO
  obtain⟨x,hx⟩:∃x,ids[k]?=some x:=⟨_,List.getElem?_eq_getElem hkl⟩
  have hxx:=hao.2 x (List.mem_of_getElem? hx)
  obtain⟨i,rfl⟩:∃i,x=i+1:=⟨x-1,oO⟩
  have hent:(Es++M)[i]?=some ((Es++M)[i]'oO):=List.getElem?_eq_getElem oO
  generalize(Es++M)[i]'oO=en at hent
  have hri:=qI hent
  have hsplit:ids=ids.take k++(i+1)::ids.drop (k+1):=by
   have:=List.take_append_drop k ids
   rw[yH hx]at this
   exact this.symm
  have hkids:=hord _ _ _ _ hsplit hri
  have htk:ids.take (k+1)=ids.take k++[i+1]:=by rw[List.take_add_one,hx];rfl
  have htl:(ids.take k).length=k:=by simp;omega
  obtain⟨hro,hrn⟩:=qLl htk (hsay.1.ok _ _ hri) hkids
  rw[htl]at hro
  have hrn2:iR ids en.r=iR (ids.take (k+1)) en.r:=by
   have:=hrn (ids.drop (k+1))
   rwa [List.take_append_drop]at this
  have h0t:0∉ids.take (k+1):=fun h=>h0i (List.mem_of_mem_take h)
  have hrt:(iR (ids.take (k+1)) en.r).times≤1152921504606846976:=by
   rw[qG]
   have hsh:=hsay.1.short (i+1)
   have hmx:dC=1152921504606846976:=rfl
   have hok:=hsay.1.ok _ _ hri
   generalize en.r=r at hri hok ⊢
   cases r with
   |letter b=>simp[Rl.times]
   |pair a b=>simp[Rl.times]
   |power x t=>
    have e:=kV hri hok
    simp only[Rl.ok]at hok
    have h1:=hsay.1.pos x hok.1 oO
    have h2:t*1≤t*Eg.len (rls (Es++M)) x:=Nat.mul_le_mul_left _ h1
    simp only[Rl.times]
    have e2:Eg.len (rls (Es++M)) (i+1)=(txt (rls (Es++M)) (i+1)).length:=rfl
    have e3:t*Eg.len (rls (Es++M)) x=Eg.len (rls (Es++M)) (i+1):=by rw[e]
    omega
  have hrl:=qLr (k+1) oO (iR (ids.take (k+1)) en.r) hrt
  refine iT (p:=sl pl cl 44 1 ids.length (idC ids)) uK (fun _ h=>fB h oO) ?_
  rintro⟨gx,rfl⟩
  have f0:=fK hx (0+((k:Nat):Int).toNat) oO
  have f1:=fK hx (((k:Nat):Int).toNat) oO
  refine bC (aK (aL (bK (dO (uM O (uB (uAj O O) (uL ?_)))))))
  refine uA O (uA O (dN (dO (uM O (uM O (uM O (uB (uAa O O) ?_)))))))
  refine l_eq 50 (.int .i64 ((k+1:Nat):Int)) O (bW oO) ?_
  refine uU ?_
  apply kU (kt:=44) (et:=3) (by rw[hE.P];kernel_rfl) (by rw[hE.P];kernel_rfl) O O O
  ·exact uK
  refine dN ?_
  rw[nuF_at hx hao.1]
  refine dO (uM O (uM O (uX (mD hE hent) O ?_)))
  rintro _ _⟨rfl,rfl⟩
  simp only[uV,uW]
  have hf1:nuF (ids.take (k+1)) ((en.r.left:Nat):Int)=nuF (ids.take (k+1)) ((en.r.left:Nat):Int):=rfl
  have hf2:nuF (ids.take (k+1)) ((en.r.right:Nat):Int)=nuF (ids.take (k+1)) ((en.r.right:Nat):Int):=rfl
  refine uM O (uB (aT O O) (uB (aT O O) (uU (dA (hE.t O) (fun b14=>?_)))))
  refine uU (uS ?_)
  refine uA O (dN (dO (uM O (uB (uBf O) ?_))))
  refine uL ?_
  refine uB (jJ (kt:=44) (et:=3) (z:= .int .i64 0) (by rw[hE.P];kernel_rfl) (by rw[hE.P];kernel_rfl) (fun w=>by rw[hE.P];kernel_rfl) rfl rfl uK (by assumption)) ?_
  refine l_eq 60 (.int .i64 (numb (ids.take (k+1)) en.r.left:Nat)) O (wU _ _) ?_
  refine uB (uBf O) ?_
  refine uU (uS ?_)
  refine dN (dO (uM O (uB (uBf O) ?_)))
  refine uL ?_
  refine uB (jJ (kt:=44) (et:=3) (z:= .int .i64 0) (by rw[hE.P];kernel_rfl) (by rw[hE.P];kernel_rfl) (fun w=>by rw[hE.P];kernel_rfl) rfl rfl uK (by assumption)) ?_
  refine l_eq 65 (.int .i64 (numb (ids.take (k+1)) en.r.right:Nat)) O (wU _ _) ?_
  refine uB (uBf O) ?_
  refine uU (uS ?_)
  refine dN ?_
  refine iU (cO (p:=cells b14 [.int .i64 (en.r.kind:Nat),.int .u8 (en.r.byte:Nat),.int .i64 (numb (ids.take (k+1)) en.r.left:Nat),.int .i64 (numb (ids.take (k+1)) en.r.right:Nat),.int .i64 (en.r.times:Nat)] 86) (p':=cells b14 [.int .i64 (Rl.kind ((iR (ids.take (k+1)) en.r)):Nat),.int .u8 (Rl.byte ((iR (ids.take (k+1)) en.r)):Nat),.int .i64 (Rl.left ((iR (ids.take (k+1)) en.r)):Nat),.int .i64 (Rl.right ((iR (ids.take (k+1)) en.r)):Nat),.int .i64 (Rl.times ((iR (ids.take (k+1)) en.r)):Nat)] 86) uK (fun _ h=>by rw[qDb,qDa,qDc h0t,qAp h0t,qG];exact h)) ?_
  refine dO (uB (uG) ?_)
  refine uM O (uB (uAa O O) ?_)
  refine l_eq 70 (.int .i64 ((k+1:Nat):Int)) O (bW oO) ?_
  refine uX (qOy (r:=iR (ids.take (k+1)) en.r) (n:=k+1) hE hro oO oO hrt) O ?_
  rintro _ _⟨gr,cr,rfl,rfl⟩
  simp only[uV,uW]
  refine uM O (uB (aT O O) (uB (aT O O) (uA O (uA O (dN (aJ (uM O (uM O (uU ?_)))))))))
  apply gG (hE.t O) (hE.t O) O O O
  ·exact uK
  ·exact uK
  ·exact iQ _
  ·exact hrl.1
  ·omega
  ·unfold maxLen;omega
  intro g1 c1 m' x' hm' hx'
  obtain rfl:m'=(done++rulB (k+1) (iR (ids.take (k+1)) en.r)).length:=hm'.trans List.length_append.symm
  obtain rfl:x'=byC (done++rulB (k+1) (iR (ids.take (k+1)) en.r)):=hx'.trans (gK _ _).symm
  clear hm' hx'
  refine uA O (aM (bI (aK (aJ (uB (uAa O O) (uM O (aM ?_)))))))
  refine bS (ι:=EnG) (j:=⟨k+1,done++rulB (k+1) (iR (ids.take (k+1)) en.r),g1,c1⟩) ⟨by simp only;omega,by simp only;rw[qX hx hri,←List.append_assoc,←hdone,hrn2],by simp only[List.length_append];omega⟩ (by simp only;omega) ⟨rfl,rfl,rfl,rfl,rfl,rfl,rfl,congrArg some (bW (by simp only;omega)),trivial⟩ ?_
  exact uI
 obtain rfl:k=ids.length:=by omega
 rw[List.take_length]
 clear h hk1
 have hv2:=gB (n:=l.length) oO
 refine dF (aQ (aQ (bH (aK (dO (uM O (uM O (uB (uBl O) (uB (uAc O) ?_)))))))))
 refine uX (mW (n:=l.length) hE oO) O ?_
 rintro _ _⟨g2,c2,rfl,rfl⟩
 simp only[uV,uW]
 refine uU ?_
 apply gG (hE.t O) (hE.t O) O O O
 ·exact uK
 ·exact uK
 ·exact iQ _
 ·exact(jD _)
 ·omega
 ·unfold maxLen;omega
 intro g3 c3 m' x' hm' hx'
 obtain rfl:m'=(done++vput l.length).length:=hm'.trans List.length_append.symm
 obtain rfl:x'=byC (done++vput l.length):=hx'.trans (gK _ _).symm
 clear hm' hx'
 have hd3:(done++vput l.length).length=done.length+(vput l.length).length:=List.length_append
 refine uA O (dN (aL (dO (uM O (uB (uBl O) (uM O (dN (bK ?_))))))))
 refine fD (fun x:EnG=>[(7,.slice p' l.length c'),(10,.map (some b35)),(11,.slice (some ⟨x.g,0,none⟩) x.done.length x.c),(84,.slice a l.length ca),(85,.int .i64 (l.length:Nat)),(86,.int .i64 (x.k:Nat))])
  (fun x=>[bR s most (Es++M),cells pp [uPt s,uPt tb] 97,tabP tb s (rls (Es++M)),cells m [uPt pp,.map (some bm)] 93,mapF bm .i64 f',q,sl p' c' 44 1 l.length (idC ys),mapF b35 .i64 (nuF ids),sl (some ⟨x.g,0,none⟩) x.c 5 1 x.done.length (byC x.done),R]) (fun x=>l.length-x.k)
  (fun x=>x.k≤l.length∧x.done=done++vput l.length++encN ids ((nmY l ys).take x.k)∧x.done.length≤10+21*ids.length+10+52*x.k) ⟨0,done++vput l.length,g3,c3⟩ ⟨Nat.zero_le _,by simp[encN],by simp only;omega⟩ ⟨rfl,rfl,rfl,rfl,rfl,rfl,trivial⟩ uI ?_
 rintro⟨k,dn,g,c⟩⟨hk1,hdn,hdl2⟩
 simp only at hk1 hdn hdl2 ⊢
 refine dO (uB (y_lt O O) (dN (aL ?_)))
 refine bE O (fun h=>?_) (fun h=>?_)
 ·have hkl:k<l.length:=oO
  obtain⟨p,hp⟩:∃p,l[k]?=some p:=⟨_,List.getElem?_eq_getElem hkl⟩
  obtain⟨y,hy⟩:∃y,ys[k]?=some y:=⟨_,List.getElem?_eq_getElem oO⟩
  have hpl:=(ho.1 p (List.mem_of_getElem? hp)).2.1
  obtain⟨go,o,rfl,hq'⟩:=hq (xP oO)
  have fm:=wT hp
  have hnb:=qAj ids y
  have hv1:=gB (n:=p.1.length) oO
  have hv3:=gB (n:=numb ids y) oO
  have hbl:(iA p.1).length=(vput p.1.length).length+p.1.length:=List.length_append
  have hbp:0<(iA p.1).length:=by have:=jD p.1.length;omega
  refine iT (p:=sl p' c' 44 1 l.length (idC ys)) uK (fun _ h=>fB h oO) ?_
  rintro⟨gy,rfl⟩
  have f0:=fK hy (0+((k:Nat):Int).toNat) oO
  have f1:=fK hy (((k:Nat):Int).toNat) oO
  have hf1:nuF ids ((y:Nat):Int)=nuF ids ((y:Nat):Int):=rfl
  refine bC (aK (aL (bK (dO (uM O (uB (uAi O O) ?_))))))
  apply aA
  ·(apply dL rfl (hE.t rfl) rfl (by assumption);(focus((repeat constructor);done));(focus exact fm);(focus rfl);(focus omega))
  ·rfl
  refine uU (dA (hE.t O) (fun b19=>?_))
  refine uA O (uU (uS ?_))
  refine dN (dO (uM O (uB (uBf O) ?_)))
  refine uL ?_
  refine uU ?_
  refine qLc O (hE.t O) (hE.t O) (hE.t O) (fun gb cb=>?_)
  refine uX (zA (g:=gb) (c:=cb) (bs:=p.1) hE oO) O ?_
  rintro _ _⟨g4,c4,rfl,rfl⟩
  simp only[uV,uW]
  refine uU ?_
  apply gG (hE.t O) (hE.t O) O O O
  ·exact uK
  ·exact uK
  ·exact iQ _
  ·exact hbp
  ·omega
  ·unfold maxLen;omega
  intro g5 c5 m' x' hm' hx'
  obtain rfl:m'=(dn++iA p.1).length:=hm'.trans List.length_append.symm
  obtain rfl:x'=byC (dn++iA p.1):=hx'.trans (gK _ _).symm
  clear hm' hx'
  have hd5:(dn++iA p.1).length=dn.length+(iA p.1).length:=List.length_append
  refine uA O (dN (aJ (uM O (uM O (uM O (uM O (uB (uAj O O) (uL ?_))))))))
  refine uB (jJ (kt:=44) (et:=3) (z:= .int .i64 0) (by rw[hE.P];kernel_rfl) (by rw[hE.P];kernel_rfl) (fun w=>by rw[hE.P];kernel_rfl) rfl rfl uK (by assumption)) ?_
  refine l_eq 103 (.int .i64 (numb ids y:Nat)) O (wU _ _) ?_
  refine uB (uAc O) ?_
  refine uX (mW (n:=numb ids y) hE oO) O ?_
  rintro _ _⟨g6,c6,rfl,rfl⟩
  simp only[uV,uW]
  refine uU ?_
  apply gG (hE.t O) (hE.t O) O O O
  ·exact uK
  ·exact uK
  ·exact iQ _
  ·exact(jD _)
  ·omega
  ·unfold maxLen;omega
  intro g7 c7 m' x' hm' hx'
  obtain rfl:m'=(dn++iA p.1++vput (numb ids y)).length:=hm'.trans List.length_append.symm
  obtain rfl:x'=byC (dn++iA p.1++vput (numb ids y)):=hx'.trans (gK _ _).symm
  clear hm' hx'
  have hd7:(dn++iA p.1++vput (numb ids y)).length=(dn++iA p.1).length+(vput (numb ids y)).length:=List.length_append
  refine uA O (aM (bI (aK (aJ (uB (uAa O O) (uM O (aM ?_)))))))
  refine bS (ι:=EnG) (j:=⟨k+1,dn++iA p.1++vput (numb ids y),g7,c7⟩) ⟨by simp only;omega,by simp only;rw[qLf hp hy,qGu,hdn];simp only[List.append_assoc],by simp only;omega⟩ (by simp only;omega) ⟨rfl,rfl,rfl,rfl,rfl,congrArg some (bW (by simp only;omega)),trivial⟩ ?_
  exact uI
 obtain rfl:k=l.length:=by omega
 have hnl:(nmY l ys).take l.length=nmY l ys:=List.take_of_length_le (by unfold nmY;simp;omega)
 have hB:dn=encB (rls (Es++M)) ids (nmY l ys):=by
  have hnn:(nmY l ys).length=l.length:=by unfold nmY;simp;omega
  rw[hdn,hnl,hdone,encB,hnn]
 refine dF (aQ (aQ (bH (aK (dO (uM O (uA O (uA O (dN (bZ ?_))))))))))
 exact uZ O (.tmp O (.tmp O .nil)) (.inr ⟨M,f',ys,g,c,dn,ho,O,by rw[hB,hids],hM,hkn,hyl,hsl,rfl⟩)
end
end Go.Proofs.YtlmpojkmeglepaaGreatDoor
namespace Sl
open Go Go.RowKit
variable {E:Env}{n:Nat}{L:Fr}{S S':List HP}{ty:TypeId}{pos:String}{af:Array Edge}{d:Option Nat}{gd:Option (Nat×Bool)}
theorem qBj {x:Operand}{src dst e:TypeId}{a:Option Addr}{bs:List UInt8}{c s by_ sz sz1 sz2:Nat}{zs zs1 zs2:List Value}{q:HP}(hx:ev L x=some (.slice a bs.length c))(hs:E.tab src=some ⟨.slice e s by_,sz,zs⟩)(he:E.tab e=some ⟨.int .u8,sz1,zs1⟩)(hd:E.tab dst=some ⟨.string,sz2,zs2⟩)
  (hq:Rdb E.w0 a (bs.map fun b=>Value.int .u8 (b.toNat:Nat)) q) (hm:Take q S S'):Yl E n L S ⟨d,.convert src dst x,ty,pos,af,gd⟩ (.string ⟨⟨bs⟩⟩):=fun A w g st=>by
 obtain⟨i',z,_,_,_,_,hk'⟩:=fG hd
 simp only[TK.holds]at hk'
 have hu:E.P.underlying dst=some .string:=by
  split at hk'
  ·assumption
  cases hk'
 obtain⟨hsu,_⟩:=fI hs
 have hr:(convert src dst (.slice a bs.length c)).run E.P w= .ok (.string ⟨⟨bs⟩⟩) w:=by
  cases bs with
  |nil=>
   cases a with
   |none=>
    rw[run_convert_bytes_string w src dst e none _ c hsu (mG he) hu]
    rfl
   |some a=>exact run_convert_bytes_back w src dst e a c [] hsu (mG he) hu (fun j hj=>by simp at hj)
  |cons b bs=>
   obtain⟨g',o,rfl,hq'⟩:=hq (by simp)
   refine run_convert_bytes_back w src dst e ⟨g',o,none⟩ c (b::bs) hsu (mG he) hu (fun j hj=>?_)
   rw[addr_add]
   exact qAn hq' (st.take hm) (i:=j) (by rw[List.getElem?_map,List.getElem?_eq_getElem hj];rfl)
 simp[execOp,g.ev hx,hr]
end Sl
namespace Go.Proofs.YtlmpojkmeglepaaGreatDoor
open Go Go.RowKit Sl Eg
set_option maxRecDepth 10000
variable {E:Env}
theorem qKn (hE:Seat E){a b:Option Addr}{c d:Nat}{xs bs:List UInt8}{q r:HP}(hq:Rdb E.w0 a (byC xs) q)(hr:Rdb E.w0 b (byC bs) r):Ct E 16 [.slice a xs.length c,.slice b bs.length d] [q,r] (fun v Q=>v= .bool (decide (xs=bs))∧Q=[q,r]):=by
 refine bO (hE.fn Tryz.func16) O O O (fun R=>?_)
 simp only[dY,uV,uW]
 refine dO (uA O (dN (dO (uM O (uB (qBj (q:=q) O (hE.t O) (hE.t O) (hE.t O) hq uK) ?_)))))
 refine uM O (uB (qBj (q:=r) O (hE.t O) (hE.t O) (hE.t O) hr uK) ?_)
 refine uB (y_eq_str O O) ?_
 refine uA O (dN (bZ ?_))
 exact uZ O (.tmp O .nil) ⟨O,O⟩
end Go.Proofs.YtlmpojkmeglepaaGreatDoor
namespace Sl
open Go Go.RowKit
theorem qLk {w0:World}{g:Nat}{vs us:List Value}{t:TypeId}(h:∀(i:Nat)(v:Value),vs[i]?=some v→us[i]?=some v):∀k,cells g us t k→RdAt w0 g 0 vs k:=fun k hk i v hv=> .inr ⟨⟨us⟩,t,(0,0),hk,by rw[Nat.zero_add];simpa using h i v hv⟩
end Sl
namespace Go.Proofs.YtlmpojkmeglepaaGreatDoor
open Go Go.RowKit Sl Eg
set_option maxRecDepth 10000
variable {E:Env}{Es:List Ent}{pp tb s most m bm:Nat}{f:Int→Option Value}
theorem qOw (hE:Seat E){most:Nat}(hm:most≤fA):Ct E 19 [.int .i64 (most:Nat)] [] (fun v Q=>∃m bm pp s tb,v=uPt m∧Q=[cells m [uPt pp,.map (some bm)] 93,mapF bm .i64 (fun _=>none),cells pp [uPt s,uPt tb] 97,tabP tb s (rls []),bR s most []]):=by
 refine bO (hE.fn Tryz.func19) O O O (fun R=>?_)
 simp only[dY,uV,uW]
 refine dO (uA O (dN (dO (uM O (uX (qGl hE hm) O ?_)))))
 rintro _ _⟨s,rfl,rfl⟩
 simp only[uV,uW]
 refine uX (qPe hE) O ?_
 rintro _ _⟨pp,tb,rfl,rfl⟩
 simp only[uV,uW]
 refine uX (qOr hE) O ?_
 rintro _ _⟨m,bm,rfl,rfl⟩
 simp only[uV,uW]
 refine uA O (dN (bZ ?_))
 exact uZ O (.tmp O .nil) ⟨m,bm,pp,s,tb,O,O⟩
theorem xx_bytes {L:List Rl}(hw:Wf L){ys:List Nat}{x:Nat}(hx:x≤L.length)(ht:txt L x=[120,120])(hyl:ys.length=1)(hs:SigL L [x] ys):encB L (dD L ys []) (nmY [([97],(x:Int))] ys)=[2,1,120,3,1,0,1,1,97,2]:=by
 obtain⟨y,rfl⟩:=List.length_eq_one_iff.1 hyl
 have h:=hs 0 x y O O
 obtain⟨n,m,rfl,g1,g2⟩:=twice hw (by rw[h.2.1];exact ht) h.2.2.1.2
 have ho:=hw.ok n _ g1
 simp only[Rl.ok]at ho
 have v0:dD L [m+1] []=[m+1]:=by
  rw[gV,kP hw g2 (by simp)]
  rfl
 have v1:dD L [n+1] []=[m+1,n+1]:=by
  rw[gV,kP hw g1 (by simp)]
  show dD L [m+1] []++[n+1]=_
  rw[v0];rfl
 have hne:¬m+1=n+1:=oO
 have hne':¬m=n:=oO
 rw[v1,encB]
 have e1:encR L [m+1,n+1] [m+1,n+1].length=[1,120]++[3,1,0]:=by
  show encR L [m+1,n+1] (0+1+1)=_
  rw[qX (i:=0+1) (n:=n) rfl g1,qX (i:=0) (n:=m) rfl g2]
  have:numb [m+1,n+1] (m+1)=1:=by simp[numb]
  simp only[iR,this,rulB,encR,List.nil_append]
  rw[jW oO,jW oO]
  rfl
 have e2:numb [m+1,n+1] (n+1)=2:=by simp[numb,hne']
 rw[e1]
 have e3:nmY [([97],(x:Int))] [n+1]=[([97],n+1)]:=rfl
 rw[e3]
 simp only[encN,List.flatMap_cons,List.flatMap_nil,e2,List.length_cons,List.length_nil]
 rw[jW oO,jW oO]
 rfl
theorem sgo_one {n:Nat}{x:Nat}(hx:x≤n):SgO n [([97],(x:Int))]:=by
 refine⟨fun p hp=>?_,fun i p q h _ _=>by simp at h,fun p hp=>?_⟩
 ·obtain rfl:=List.mem_singleton.1 hp
  show ValidN [97]
  decide
 obtain rfl:=List.mem_singleton.1 hp
 exact⟨by simp,by simp;omega⟩
theorem SgE.not {n:Nat}{l:List (List UInt8×Int)}{e:Int}(h:SgE n l e)(ho:SgO n l):False:=by
 rcases h with⟨_,h⟩|⟨_,_,h⟩|⟨_,_,_,h⟩
 ·exact h ho.1
 ·exact h ho.2.1
 exact h ho.2.2
theorem qKo (hE:Seat E)(hB:Base E.w0):Ct E 20 [] [] (fun v Q=>v= .bool true∧Q=[]):=by
 have hmr:1048576≤fA:=Nat.le_refl _
 refine bO (hE.fn Tryz.func20) O O O (fun R=>?_)
 simp only[dY,uV,uW]
 refine dO (uA O (dN (dO (uX (qOw (most:=1048576) hE hmr) O ?_))))
 rintro _ _⟨m,bm,pp,s,tb,rfl,rfl⟩
 simp only[uV,uW]
 refine uA O (dN (aL (dO (uM O (uB (eU O (hE.t O)) ?_)))))
 refine uM O (dP (uM O (dP (uX (lS hE) O ?_))))
 rintro _ _⟨rfl,rfl⟩
 simp only[uV,uW]
 refine dP (uB (eU O (hE.t O)) ?_)
 refine uB (aX O O) (dN (bD O (bC (aK (dO (uM O (uX (lS hE) O ?_)))))))
 rintro _ _⟨rfl,rfl⟩
 simp only[uV,uW]
 refine uU ?_
 refine aU (hE.t O) (hE.t O) O O O (fun b17=>?_)
 refine uU ?_
 refine ld_mark O (hE.t O) (hE.t O) uK ?_
 refine uX (ct_Of (Es:=[]) (s:=s) (tb:=tb) (pp:=pp) (most:=1048576) (g:=b17) (c:=2) (bs:=[120,120]) hE hB (by decide) (by decide)) O ?_
 rintro _ _⟨M,id,rfl,hM,htx,hgd, -,rfl⟩
 simp only[uV,uW]
 rw[List.nil_append]at htx hgd
 have hM4:M.length≤4:=hM
 have hid:id≤M.length:=by have:=hgd.1;rwa [bQ]at this
 have hln:∀p∈[(([97]:List UInt8),(id:Int))],0≤p.2→p.2≤M.length→Eg.len (rls M) p.2.toNat≤256:=fun p hp _ _=>by
  obtain rfl:=List.mem_singleton.1 hp
  show(txt (rls M) (id:Int).toNat).length≤256
  rw[Int.toNat_natCast,htx]
  decide
 have hrm:M.length+512*[(([97]:List UInt8),(id:Int))].length≤1048576:=by simp only[List.length_singleton];omega
 refine uM O (uB (aT O O) (uB (aT O O) (uA O (uA O (dN (dO (uM O (uM O (uB (dV (hE.t O) O O) ?_)))))))))
 refine uU ?_
 refine aU (hE.t O) (hE.t O) O O O (fun b26=>?_)
 refine uX (qOo (Es:=M) (s:=s) (tb:=tb) (pp:=pp) (most:=1048576) (m:=m) (bm:=bm) (f:=fun _=>none) (l:=[([97],(id:Int))]) (a:=some ⟨b26,0,none⟩) (ca:=1) (q:=cells b26 [.string ⟨⟨[97]⟩⟩,.int .i64 (id:Nat)] 53) hE hB (fun _=>⟨b26,0,O,qLk (fun _ _ h=>h)⟩) (Nat.le_of_ble_eq_true O) hln hrm (Kn.nil _)) O ?_
 rintro _ _(⟨e,he,rfl,rfl⟩|⟨M2,f',ys,g,c,B,ho,rfl,hB,hM2,hkn,hyl,hsl,rfl⟩)
 ·exact(he.not (sgo_one hid)).elim
 simp only[uV,uW]
 refine qC (p:=bR s 1048576 (M++M2)) uK (fun _ h=>dR h) (fun hsay=>?_)
 have hBv:B=[2,1,120,3,1,0,1,1,97,2]:=by
  rw[hB]
  have hsl':SigL (rls (M++M2)) [id] ys:=hsl
  exact xx_bytes hsay.1 (by rw[bQ,List.length_append];omega) (by rw[dB,jR _ (by rw[bQ];omega)];exact htx) hyl hsl'
 refine uM O (uB (aT O O) (uB (aT O O) (uA O (uA O (dN (dO (uM O (uB (xI O (hE.t O)) ?_))))))))
 refine uM O (dP (uM O (dP (uB (xI O (hE.t O)) ?_))))
 refine uB (aW O O) (uM O (dP (uM O (dP (uU ?_)))))
 refine aU (hE.t O) (hE.t O) O O O (fun b38=>?_)
 refine dP (uX (qKn (xs:=B) (bs:=[2,1,120,3,1,0,1,1,97,2]) (q:=sl (some ⟨g,0,none⟩) c 5 1 B.length (byC B)) (r:=cells b38 [.int .u8 2,.int .u8 1,.int .u8 120,.int .u8 3,.int .u8 1,.int .u8 0,.int .u8 1,.int .u8 1,.int .u8 97,.int .u8 2] 5) hE (fun _=>⟨g,0,O,qCz (fun _ _ h=>h)⟩) (fun _=>⟨b38,0,O,qLk (fun _ _ h=>h)⟩)) O ?_)
 rintro _ _⟨rfl,rfl⟩
 simp only[uV,uW]
 refine uB (aW O O) (uA O (dN (bZ ?_)))
 exact uZ O (.tmp O .nil) ⟨congrArg Value.bool (decide_eq_true hBv),O⟩
end Go.Proofs.YtlmpojkmeglepaaGreatDoor
namespace Sl
open Go Go.RowKit
variable {E:Env}{n:Nat}{L:Fr}{S H:List HP}{Q:Exit→Act→World→Prop}
end Sl
namespace Go.Proofs.YtlmpojkmeglepaaGreatDoor
open Go Go.RowKit Sl Eg
set_option maxRecDepth 10000
section
variable {E:Env}
structure Im where
 name:List UInt8
 a:Option Addr
 bs:List UInt8
 c:Nat
end
section
variable {E:Env}{Es:List Ent}{pp tb s most m bm:Nat}
theorem rdb_sl {w0:World}{p:Option Addr}{c n:Nat}{t:TypeId}{vs:List Value}(hn:vs.length=n)(h:0<n→∃g,p=some ⟨g,0,none⟩):Rdb w0 p vs (sl p c t 1 n vs):=fun hne=>by
 obtain⟨g,rfl⟩:=h (by
  rcases Nat.eq_zero_or_pos n with e| e
  ·exact absurd (List.eq_nil_of_length_eq_zero oO) hne
  exact e)
 exact⟨g,0,O,qCz (fun _ _ h=>h)⟩
theorem qKl {bs:List UInt8}(h:bs≠[]):byC bs≠[]:=fun e=>h (by
 have:=yT bs
 rw[e]at this
 exact List.eq_nil_of_length_eq_zero this.symm)
def mkN (l:List Im)(ids:List Nat):List (List UInt8×Int):=(l.zip ids).map fun p=>(p.1.name,(p.2:Int))
theorem nY:∀(a b:List (List UInt8×Int)),nlC (a++b)=nlC a++nlC b
 |[],b=>rfl
 |p::a,b=>by simp[nlC,nY a b]
def Txs (L:List Rl)(l:List Im)(ids:List Nat):Prop:=∀(i:Nat)(x:Im)(id:Nat),l[i]?=some x→ids[i]?=some id→id≤L.length∧txt L id=x.bs
end
end Go.Proofs.YtlmpojkmeglepaaGreatDoor
