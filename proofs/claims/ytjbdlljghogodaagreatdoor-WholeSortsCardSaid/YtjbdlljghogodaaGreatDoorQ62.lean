import Derived.Test.YtjbdlljghogodaaGreatDoorQ31
import Derived.Test.YtjbdlljghogodaaGreatDoorQ61
set_option linter.all false
set_option maxHeartbeats 1000000
namespace Go.Proofs.YtjbdlljghogodaaGreatDoor
open Go Go.RowKit Sl Eg
set_option maxRecDepth 10000
section
variable {E:Env}{Es:List Ent}{pp tb s most:Nat}
def cpC (st:List (Nat×Nat)):List Value:=st.flatMap fun p=>[.int .i64 (p.1:Nat),.int .i64 (p.2:Nat)]
theorem nW (a b:List (Nat×Nat)):cpC (a++b)=cpC a++cpC b:=by simp[cpC]
theorem sH:∀(st:List (Nat×Nat)),(cpC st).length=st.length*2
 |[]=>rfl
 |p::st=>by
  have:=sH st
  simp only[cpC,List.flatMap_cons,List.length_append,List.length_cons,List.length_nil]at this ⊢;omega
theorem qEa (st:List (Nat×Nat))(x t:Nat):cpC (st++[(x,t)])=cpC st++ .int .i64 (x:Nat):: .int .i64 (t:Nat)::[]:=by simp[cpC]
theorem qPl {st:List (Nat×Nat)}{x t:Nat}:(cpC (st++[(x,t)]))[(cpC st).length]?=some (.int .i64 (x:Nat))∧(cpC (st++[(x,t)]))[(cpC st).length+1]?=some (.int .i64 (t:Nat)):=by
 rw[qEa];exact⟨ap_0,ap_1⟩
theorem cp_set {st:List (Nat×Nat)}{x t u:Nat}:bX (cpC (st++[(x,t)])) ((cpC st).length+1) [.int .i64 (u:Nat)]=cpC (st++[(x,u)]):=by
 rw[qEa,qEa,sm_1]
theorem cp_ptr {st:List (Nat×Nat)}{g n:Nat}(h:n=st.length+1):(.pointer (some ⟨g,0+(((n:Nat):Int)-1).toNat*2,none⟩):Value)= .pointer (some ⟨g,(cpC st).length,none⟩):=by
 rw[sH,show 0+(((n:Nat):Int)-1).toNat*2=st.length*2 by omega]
structure SplG where
 st:List (Nat×Nat)
 done:List UInt8
 p:Option Addr
 c:Nat
 g:Nat
 cc:Nat
theorem ct_spell (hE:Seat E){bt g0 c0 x0:Nat}{pre:List UInt8}(hx0:1≤x0∧x0≤Es.length)(hl0:pre.length+len (rls Es) x0≤65536):Ct E 112 [uPt s,.int .i64 (x0:Nat),uPt bt] [bR s most Es,cells bt [.slice (some ⟨g0,0,none⟩) pre.length c0] 44,sl (some ⟨g0,0,none⟩) c0 5 1 pre.length (byC pre)]
  (fun v Q=>∃g c,v= .nilIface∧Q=[bR s most Es,cells bt [.slice (some ⟨g,0,none⟩) (pre++txt (rls Es) x0).length c] 44,sl (some ⟨g,0,none⟩) c 5 1 (pre++txt (rls Es) x0).length (byC (pre++txt (rls Es) x0))]):=by
 refine dY (p:=bR s most Es) uK (fun _ h=>dP h) (fun hsay=>?_)
 have hLl:=bQ Es
 have hlen0:len (rls Es) x0=(txt (rls Es) x0).length:=rfl
 refine bO (hE.fn Tryz.func112) O O O (fun R=>?_)
 simp only[dR,uV,uW]
 refine gg9 ?_
 refine uU ?_
 refine aU (hE.t O) (hE.t O) O O O (fun b14=>?_)
 refine gg5 ?_
 refine kM (cK (p:=cells b14 [.int .i64 (x0:Nat),.int .i64 1] 277) (p':=sl (some ⟨b14,0,none⟩) 1 277 2 1 (cpC [(x0,1)])) uK (kZ O (by unfold maxLen;omega))) ?_
 refine dW (fun q:SplG=>[(0,uPt s),(2,uPt bt),(7,.slice q.p q.st.length q.c)]) (fun q=>[bR s most Es,cells bt [.slice (some ⟨q.g,0,none⟩) q.done.length q.cc] 44,sl (some ⟨q.g,0,none⟩) q.cc 5 1 q.done.length (byC q.done),sl q.p q.c 277 2 q.st.length (cpC q.st),R]) (fun q=>spM (rls Es) q.st) (fun q=>q.done++spT (rls Es) q.st=pre++txt (rls Es) x0∧SpOk (rls Es) q.st∧spM (rls Es) q.st≤131072) ⟨[(x0,1)],pre,some ⟨b14,0,none⟩,1,g0,c0⟩ ⟨by simp only[qFl],fun q hq=>by
  obtain rfl:=List.mem_singleton.1 hq
  exact⟨hx0.1,oO,Nat.le_refl _⟩,by simp only[nS];omega⟩ ⟨rfl,rfl,rfl,trivial⟩ uI ?_
 rintro⟨st,done,p,c,g,cc⟩⟨htx,hok,hms⟩
 simp only at htx hok hms ⊢
 have hsl:=hok.len hsay.1
 have htl:=congrArg List.length htx
 simp only[List.length_append]at htl
 refine gg8 ?_
 refine bE O (fun h=>?_) (fun h=>?_)
 ·obtain⟨ini,x,t,rfl⟩:∃ini x t,st=ini++[(x,t+1)]:=by
   rcases List.eq_nil_or_concat st with rfl|⟨ini,⟨x,t⟩,rfl⟩
   ·simp at h
   rw[List.concat_eq_append]at hok
   have:=(hok (x,t) (by simp)).2.2
   exact⟨ini,x,t-1,by rw[List.concat_eq_append,Nat.sub_add_cancel this]⟩
  have hil:(ini++[(x,t+1)]).length=ini.length+1:=by simp
  have hT:=spT_pop (rls Es) ini x t
  have hM:=spM_pop (rls Es) ini x t
  have hok':=hok.pop
  have hxx:=hok (x,t+1) (by simp)
  simp only at hxx
  obtain⟨i,rfl⟩:∃i,x=i+1:=⟨x-1,oO⟩
  have hent:Es[i]?=some (Es[i]'oO):=List.getElem?_eq_getElem oO
  generalize Es[i]'oO=en at hent
  have hri:(rls Es)[i]?=some en.r:=by simp[rls,hent]
  have hpl:=sH ini
  obtain⟨f0,f1⟩:=qPl (st:=ini) (x:=i+1) (t:=t+1)
  obtain⟨f2,f3⟩:=qPl (st:=ini) (x:=i+1) (t:=t)
  refine jK (p:=sl p c 277 2 (ini++[(i+1,t+1)]).length (cpC (ini++[(i+1,t+1)]))) uK (fun _ h=>And.intro (fA h oO) (nR h).1) ?_
  rintro⟨⟨g7,rfl⟩,hcap⟩
  have hlp:=hsay.1.pos (i+1) oO oO
  have htb:t+1≤131072:=by
   have e:=hms
   rw[lC,nS]at e
   have:=Nat.mul_le_mul_left (t+1) (show 1≤2*len (rls Es) (i+1)-1 by omega)
   omega
  have hLe:en.r.ok (i+1):=hsay.1.ok _ _ hri
  refine gg10 ?_
  refine l_eq 22 _ O (cp_ptr (st:=ini) hil) ?_
  refine gg20 ?_
  refine l_eq 31 (.int .i64 (t:Nat)) O (bW oO) ?_
  refine gg5 ?_
  simp only[bP]
  rw[cp_set]
  refine gg9 ?_
  refine bE O (fun hz=>?_) (fun hz=>?_)
  ·obtain rfl:t=0:=by omega
   have hpp:qIo ini (i+1) 0=ini:=if_pos O
   rw[hpp]at hT hM hok'
   refine gg5 ?_
   refine uB (fK ini.length O O (hE.t O) oO oO) ?_
   refine gg3 ?_
   refine kM (cK (p:=sl (some ⟨g7,0,none⟩) c 277 2 (ini++[(i+1,0+1)]).length (cpC (ini++[(i+1,0)]))) (p':=sl (some ⟨g7,0,none⟩) c 277 2 ini.length (cpC ini)) uK (nD oO (by rw[nW,←sH];simp) (by simp))) ?_
   refine gg4 ?_
   refine uX (jB hE hent) O ?_
   rintro _ _⟨rfl,rfl⟩
   simp only[uV,uW]
   refine gg3 ?_
   refine uU (cZ (hE.t O) (fun b10=>?_))
   refine gg12 ?_
   generalize hre:en.r=r at hri
   cases r with
   |letter b=>
    have hxt:txt (rls Es) (i+1)=[b]:=gJ hri
    refine gg16 ?_
    refine uN 9 ([cells bt [.slice (some ⟨g,0,none⟩) done.length cc] 44,cells b10 [.int .i64 (Rl.kind ((Rl.letter b)):Nat),.int .u8 (Rl.byte ((Rl.letter b)):Nat),.int .i64 (Rl.left ((Rl.letter b)):Nat),.int .i64 (Rl.right ((Rl.letter b)):Nat),.int .i64 (Rl.times ((Rl.letter b)):Nat)] 132]) ?_
    refine gg4 ?_
    apply dG 4 O oK
    ·exact uBf O
    ·rfl
    apply dG 5 O oK
    ·(apply aO rfl (hE.t rfl) rfl;(repeat(first |rfl|assumption|constructor));done)
    ·rfl
    apply eO 6 O oK O
    refine aU (hE.t O) (hE.t O) O O O (fun b71=>?_)
    refine uE ?_
    apply eO 7 O oK O
    apply bU (hE.t O) (hE.t O) O O O
    ·exact uK
    ·exact uK
    ·rfl
    ·rfl
    ·omega
    ·omega
    ·(unfold maxLen;omega)
    intro g72 c72 n72 x72 hn72 hx72
    refine uE ?_
    apply dG 8 O oK
    ·exact bA O
    ·rfl
    apply gM O oK oK O
    refine uS ?_
    refine gg2 ?_
    obtain rfl:x72=byC (done++[b]):=by rw[hx72,qCj];rfl
    have hdl:(done++[b]).length=done.length+1:=by simp
    refine bS (ι:=SplG) (j:=⟨ini,done++[b],some ⟨g7,0,none⟩,c,g72,c72⟩) ⟨by simp only;rw[List.append_assoc,←htx,hT,hxt],hok',by simp only;omega⟩ (by simp only;omega) ⟨rfl,rfl,rfl,trivial⟩ ?_
    simp only[hdl]
    subst hn72
    exact uI
   |pair a b=>
    obtain⟨hm,ht⟩:=qMm hsay.1 hri (ini)
    have hpo:=hsay.1.ok _ _ hri
    simp only[Rl.ok]at hpo
    have hok2:SpOk (rls Es) (ini++[(b,1),(a,1)]):=hok'.push (fun q hq=>by
     simp only[List.mem_cons,List.not_mem_nil,or_false]at hq
     rcases hq with rfl|rfl
     ·exact⟨by simp only;omega,by simp only;omega,Nat.le_refl _⟩
     exact⟨by simp only;omega,by simp only;omega,Nat.le_refl _⟩)
    refine gg31 ?_
    refine uU ?_
    refine aU (hE.t O) (hE.t O) O O O (fun b83=>?_)
    refine uU ?_
    apply bU (hE.t O) (hE.t O) O O O
    ·exact uK
    ·exact uK
    ·rfl
    ·rfl
    ·omega
    ·omega
    ·(unfold maxLen;omega)
    intro g84 c84 n84 x84 hn84 hx84
    refine gg4 ?_
    obtain rfl:x84=cpC (ini++[(b,1),(a,1)]):=by rw[hx84];exact(nW (ini) [(b,1),(a,1)]).symm
    have hdl:(ini++[(b,1),(a,1)]).length=(ini).length+2:=by simp
    refine bS (ι:=SplG) (j:=⟨ini++[(b,1),(a,1)],done,some ⟨g84,0,none⟩,c84,g,cc⟩) ⟨by simp only;rw[←htx,hT,ht],hok2,by simp only;omega⟩ (by simp only;omega) ⟨rfl,rfl,by simp only[hdl];rw[hn84];rfl,trivial⟩ ?_
    simp only[hdl]
    subst hn84
    exact uI
   |power a k=>
    obtain⟨hm,ht⟩:=qIn hsay.1 hri (ini)
    have hpo:=hsay.1.ok _ _ hri
    simp only[Rl.ok]at hpo
    have hok2:SpOk (rls Es) (ini++[(a,k)]):=hok'.push (fun q hq=>by
     obtain rfl:=List.mem_singleton.1 hq
     exact⟨by simp only;omega,by simp only;omega,by simp only;omega⟩)
    refine gg30 ?_
    refine uU ?_
    refine aU (hE.t O) (hE.t O) O O O (fun b61=>?_)
    refine uU ?_
    apply bU (hE.t O) (hE.t O) O O O
    ·exact uK
    ·exact uK
    ·rfl
    ·rfl
    ·omega
    ·omega
    ·(unfold maxLen;omega)
    intro g62 c62 n62 x62 hn62 hx62
    refine gg4 ?_
    obtain rfl:x62=cpC (ini++[(a,k)]):=by rw[hx62];exact(nW (ini) [(a,k)]).symm
    have hdl:(ini++[(a,k)]).length=(ini).length+1:=by simp
    refine bS (ι:=SplG) (j:=⟨ini++[(a,k)],done,some ⟨g62,0,none⟩,c62,g,cc⟩) ⟨by simp only;rw[←htx,hT,ht],hok2,by simp only;omega⟩ (by simp only;omega) ⟨rfl,rfl,by simp only[hdl];rw[hn62];rfl,trivial⟩ ?_
    simp only[hdl]
    subst hn62
    exact uI
  obtain⟨t,rfl⟩:∃t',t=t'+1:=⟨t-1,oO⟩
  have hpp:qIo ini (i+1) (t+1)=ini++[(i+1,t+1)]:=if_neg oO
  rw[hpp]at hT hM hok'
  have hil2:(ini++[(i+1,t+1)]).length=ini.length+1:=by simp
  have hil3:(ini++[(i+1,t+1+1)]).length=(ini++[(i+1,t+1)]).length:=by simp
  rw[hil3]
  refine gg6 ?_
  refine uX (jB hE hent) O ?_
  rintro _ _⟨rfl,rfl⟩
  simp only[uV,uW]
  refine gg3 ?_
  refine uU (cZ (hE.t O) (fun b10=>?_))
  refine gg12 ?_
  generalize hre:en.r=r at hri
  cases r with
  |letter b=>
   have hxt:txt (rls Es) (i+1)=[b]:=gJ hri
   refine gg16 ?_
   refine uN 9 ([cells bt [.slice (some ⟨g,0,none⟩) done.length cc] 44,cells b10 [.int .i64 (Rl.kind ((Rl.letter b)):Nat),.int .u8 (Rl.byte ((Rl.letter b)):Nat),.int .i64 (Rl.left ((Rl.letter b)):Nat),.int .i64 (Rl.right ((Rl.letter b)):Nat),.int .i64 (Rl.times ((Rl.letter b)):Nat)] 132]) ?_
   refine gg4 ?_
   apply dG 4 O oK
   ·exact uBf O
   ·rfl
   apply dG 5 O oK
   ·(apply aO rfl (hE.t rfl) rfl;(repeat(first |rfl|assumption|constructor));done)
   ·rfl
   apply eO 6 O oK O
   refine aU (hE.t O) (hE.t O) O O O (fun b71=>?_)
   refine uE ?_
   apply eO 7 O oK O
   apply bU (hE.t O) (hE.t O) O O O
   ·exact uK
   ·exact uK
   ·rfl
   ·rfl
   ·omega
   ·omega
   ·(unfold maxLen;omega)
   intro g72 c72 n72 x72 hn72 hx72
   refine uE ?_
   apply dG 8 O oK
   ·exact bA O
   ·rfl
   apply gM O oK oK O
   refine uS ?_
   refine gg2 ?_
   obtain rfl:x72=byC (done++[b]):=by rw[hx72,qCj];rfl
   have hdl:(done++[b]).length=done.length+1:=by simp
   refine bS (ι:=SplG) (j:=⟨ini++[(i+1,t+1)],done++[b],some ⟨g7,0,none⟩,c,g72,c72⟩) ⟨by simp only;rw[List.append_assoc,←htx,hT,hxt],hok',by simp only;omega⟩ (by simp only;omega) ⟨rfl,rfl,rfl,trivial⟩ ?_
   simp only[hdl]
   subst hn72
   exact uI
  |pair a b=>
   obtain⟨hm,ht⟩:=qMm hsay.1 hri (ini++[(i+1,t+1)])
   have hpo:=hsay.1.ok _ _ hri
   simp only[Rl.ok]at hpo
   have hok2:SpOk (rls Es) (ini++[(i+1,t+1)]++[(b,1),(a,1)]):=hok'.push (fun q hq=>by
    simp only[List.mem_cons,List.not_mem_nil,or_false]at hq
    rcases hq with rfl|rfl
    ·exact⟨by simp only;omega,by simp only;omega,Nat.le_refl _⟩
    exact⟨by simp only;omega,by simp only;omega,Nat.le_refl _⟩)
   refine gg31 ?_
   refine uU ?_
   refine aU (hE.t O) (hE.t O) O O O (fun b83=>?_)
   refine uU ?_
   apply bU (hE.t O) (hE.t O) O O O
   ·exact uK
   ·exact uK
   ·rfl
   ·rfl
   ·omega
   ·omega
   ·(unfold maxLen;omega)
   intro g84 c84 n84 x84 hn84 hx84
   refine gg4 ?_
   obtain rfl:x84=cpC (ini++[(i+1,t+1)]++[(b,1),(a,1)]):=by rw[hx84];exact(nW (ini++[(i+1,t+1)]) [(b,1),(a,1)]).symm
   have hdl:(ini++[(i+1,t+1)]++[(b,1),(a,1)]).length=(ini++[(i+1,t+1)]).length+2:=by simp
   refine bS (ι:=SplG) (j:=⟨ini++[(i+1,t+1)]++[(b,1),(a,1)],done,some ⟨g84,0,none⟩,c84,g,cc⟩) ⟨by simp only;rw[←htx,hT,ht],hok2,by simp only;omega⟩ (by simp only;omega) ⟨rfl,rfl,by simp only[hdl];rw[hn84];rfl,trivial⟩ ?_
   simp only[hdl]
   subst hn84
   exact uI
  |power a k=>
   obtain⟨hm,ht⟩:=qIn hsay.1 hri (ini++[(i+1,t+1)])
   have hpo:=hsay.1.ok _ _ hri
   simp only[Rl.ok]at hpo
   have hok2:SpOk (rls Es) (ini++[(i+1,t+1)]++[(a,k)]):=hok'.push (fun q hq=>by
    obtain rfl:=List.mem_singleton.1 hq
    exact⟨by simp only;omega,by simp only;omega,by simp only;omega⟩)
   refine gg30 ?_
   refine uU ?_
   refine aU (hE.t O) (hE.t O) O O O (fun b61=>?_)
   refine uU ?_
   apply bU (hE.t O) (hE.t O) O O O
   ·exact uK
   ·exact uK
   ·rfl
   ·rfl
   ·omega
   ·omega
   ·(unfold maxLen;omega)
   intro g62 c62 n62 x62 hn62 hx62
   refine gg4 ?_
   obtain rfl:x62=cpC (ini++[(i+1,t+1)]++[(a,k)]):=by rw[hx62];exact(nW (ini++[(i+1,t+1)]) [(a,k)]).symm
   have hdl:(ini++[(i+1,t+1)]++[(a,k)]).length=(ini++[(i+1,t+1)]).length+1:=by simp
   refine bS (ι:=SplG) (j:=⟨ini++[(i+1,t+1)]++[(a,k)],done,some ⟨g62,0,none⟩,c62,g,cc⟩) ⟨by simp only;rw[←htx,hT,ht],hok2,by simp only;omega⟩ (by simp only;omega) ⟨rfl,rfl,by simp only[hdl];rw[hn62];rfl,trivial⟩ ?_
   simp only[hdl]
   subst hn62
   exact uI
 obtain rfl:st=[]:=List.eq_nil_of_length_eq_zero oO
 have hd:done=pre++txt (rls Es) x0:=by simpa[spT]using htx
 subst hd
 refine gg11 ?_
 exact uZ O (.tmp O .nil) ⟨g,cc,O,O⟩
end
section
variable {E:Env}{Es:List Ent}{pp tb s most:Nat}
theorem qJm (hE:Seat E){n:Nat}(hn:n≤1152921504606846976):Ct E 149 [.int .i64 (n:Nat)] [] (fun v Q=>v= .bool true∧Q=[]):=by
 refine bO (hE.fn Tryz.func149) O O O (fun R=>?_)
 simp only[dR,uV,uW]
 refine gg10 ?_
 refine dS 5 O (fun h=>?_) (fun h=>?_)
 ·refine gg9 ?_
  exact uZ O (.tmp O .nil) ⟨congrArg Value.bool (decide_eq_true oO),O⟩
 exfalso;omega
theorem qJl (hE:Seat E){n:Nat}(hn:n≤1152921504606846976):Ct E 109 [.int .i64 0,.int .i64 (n:Nat),.int .i64 (n:Nat)] [] (fun v Q=>v= .nilIface∧Q=[]):=by
 refine bO (hE.fn Tryz.func109) O O O (fun R=>?_)
 simp only[dR,uV,uW]
 refine gg9 ?_
 refine uX (qJm hE hn) O ?_
 rintro _ _⟨rfl,rfl⟩
 simp only[uV,uW]
 refine gg8 ?_
 refine dS 14 O (fun h1=>?_) (fun h1=>?_)
 ·exfalso;omega
 refine gg6 ?_
 refine dS 18 O (fun h2=>?_) (fun h2=>?_)
 ·exfalso;omega
 refine gg8 ?_
 refine dS 23 O (fun h3=>?_) (fun h3=>?_)
 ·exfalso;omega
 refine gg13 ?_
 refine bE O (fun h4=>?_) (fun h4=>?_)
 ·exfalso;omega
 refine gg8 ?_
 exact uZ O (.tmp O .nil) ⟨O,O⟩
theorem ct_ext1 (hE:Seat E){bt b4 g0 c0 x:Nat}(hx:1≤x∧x≤Es.length)(hl:len (rls Es) x≤65536):Ct E 111 [.int .i64 (x:Nat),.int .i64 1,uPt bt,uPt b4] [cells b4 [uPt s] 25,bR s most Es,cells bt [.slice (some ⟨g0,0,none⟩) (([]:List UInt8)).length c0] 44,sl (some ⟨g0,0,none⟩) c0 5 1 (([]:List UInt8)).length (byC (([]:List UInt8)))]
  (fun v Q=>∃g c,v= .nilIface∧Q=[cells b4 [uPt s] 25,bR s most Es,cells bt [.slice (some ⟨g,0,none⟩) (txt (rls Es) x).length c] 44,sl (some ⟨g,0,none⟩) c 5 1 (txt (rls Es) x).length (byC (txt (rls Es) x))]):=by
 have h00:([]:List UInt8).length+len (rls Es) x≤65536:=by rw[List.length_nil];omega
 refine bO (hE.fn Tryz.func111) O O O (fun R=>?_)
 simp only[dR,uV,uW]
 refine gg17 ?_
 refine uX (ct_spell (pre:=[]) hE hx h00) O ?_
 rintro _ _⟨g,c,rfl,rfl⟩
 simp only[uV,uW]
 refine tL (p:=sl (some ⟨g,0,none⟩) c 5 1 ([]++txt (rls Es) x).length (byC ([]++txt (rls Es) x))) uK (fun _ h=>nR h) ?_
 rintro⟨hcap, -⟩
 rw[List.nil_append]at hcap
 refine gg16 ?_
 refine uB (fM (l:=0) (h:=(txt (rls Es) x).length) O (hE.t O) ⟨_,O⟩ O (Nat.zero_le _) oO) ?_
 refine gg12 ?_
 refine dW (fun _:Unit=>[(22,.int .i64 (1-1)),(23,.int .i64 0)]) (fun _=>[cells b4 [uPt s] 25,bR s most Es,cells bt [.slice (some ⟨g,0,none⟩) (txt (rls Es) x).length c] 44,sl (some ⟨g,0,none⟩) c 5 1 (txt (rls Es) x).length (byC (txt (rls Es) x)),R]) (fun _=>0) (fun _=>True) () trivial ⟨O,O,trivial⟩ uI ?_
 rintro _ _
 refine gg6 ?_
 refine bE O (fun h=>?_) (fun h=>?_)
 ·exfalso;omega
 refine gg11 ?_
 exact uZ O (.tmp O .nil) ⟨g,c,O,O⟩
theorem ct_parts (hE:Seat E){bt b4 g0 c0 i:Nat}{en:Ent}(hent:Es[i]?=some en)(hl:len (rls Es) (i+1)≤65536):Ct E 110 [uPt s,.int .i64 ((i+1:Nat):Int),.int .i64 0,.int .i64 (len (rls Es) (i+1):Nat),.func (.func 111) #[] ⟨[uPt bt,uPt b4]⟩] [cells b4 [uPt s] 25,bR s most Es,cells bt [.slice (some ⟨g0,0,none⟩) (([]:List UInt8)).length c0] 44,sl (some ⟨g0,0,none⟩) c0 5 1 (([]:List UInt8)).length (byC (([]:List UInt8)))]
  (fun v Q=>∃g c,v= .nilIface∧Q=[cells b4 [uPt s] 25,bR s most Es,cells bt [.slice (some ⟨g,0,none⟩) (txt (rls Es) (i+1)).length c] 44,sl (some ⟨g,0,none⟩) c 5 1 (txt (rls Es) (i+1)).length (byC (txt (rls Es) (i+1)))]):=by
 refine dY (p:=bR s most Es) uK (fun _ h=>dP h) (fun hsay=>?_)
 have hil:i<Es.length:=(List.getElem?_eq_some_iff.1 hent).1
 have htx:=hsay.2.1 i en hent
 have hle:en.t.length=len (rls Es) (i+1):=by rw[htx];rfl
 have hlp:=hsay.1.pos (i+1) oO (by rw[bQ];omega)
 have hxx:1≤i+1∧i+1≤Es.length:=⟨oO,oO⟩
 refine bO (hE.fn Tryz.func110) O O O (fun R=>?_)
 simp only[dR,uV,uW]
 refine gg11 ?_
 refine uU ?_
 refine aU (hE.t O) (hE.t O) O O O (fun b22=>?_)
 refine gg5 ?_
 refine kM (cK (p:=cells b22 [.int .i64 ((i+1:Nat):Int),.int .i64 0,.int .i64 (len (rls Es) (i+1):Nat),.int .i64 1] 273) (p':=sl (some ⟨b22,0,none⟩) 1 273 4 1 [.int .i64 ((i+1:Nat):Int),.int .i64 0,.int .i64 (len (rls Es) (i+1):Nat),.int .i64 1]) uK (kZ O (by unfold maxLen;omega))) ?_
 refine dW (fun q:Option (Nat×Nat)=>[(0,uPt s),(4,.func (.func 111) #[] ⟨[uPt bt,uPt b4]⟩),(11,.slice (some ⟨b22,0,none⟩) (if q.isSome then 0 else 1) 1)])
  (fun q=>match q with
   |none=>[cells b4 [uPt s] 25,bR s most Es,cells bt [.slice (some ⟨g0,0,none⟩) (([]:List UInt8)).length c0] 44,sl (some ⟨g0,0,none⟩) c0 5 1 (([]:List UInt8)).length (byC (([]:List UInt8))),sl (some ⟨b22,0,none⟩) 1 273 4 1 [.int .i64 ((i+1:Nat):Int),.int .i64 0,.int .i64 (len (rls Es) (i+1):Nat),.int .i64 1],R]
   |some q=>[cells b4 [uPt s] 25,bR s most Es,cells bt [.slice (some ⟨q.1,0,none⟩) (txt (rls Es) (i+1)).length q.2] 44,sl (some ⟨q.1,0,none⟩) q.2 5 1 (txt (rls Es) (i+1)).length (byC (txt (rls Es) (i+1))),R]) (fun q=>if q.isSome then 0 else 1) (fun _=>True) none trivial ⟨rfl,rfl,rfl,trivial⟩ uI ?_
 rintro(_|⟨g,c⟩)_
 ·simp only[Option.isSome_none,if_false,Bool.false_eq_true]
  refine gg8 ?_
  refine bE O (fun h=>?_) (fun h=>?_)
  ·refine gg10 ?_
   refine l_eq 30 (uPt b22) O O ?_
   refine gg1 ?_
   refine uU (cZ (hE.t O) (fun b12=>?_))
   refine gg9 ?_
   refine uB (fK 0 O O (hE.t O) oO oO) ?_
   refine gg10 ?_
   refine dS 40 O (fun h1=>?_) (fun h1=>?_)
   ·exfalso;omega
   refine gg9 ?_
   refine bE O (fun h2=>?_) (fun h2=>?_)
   ·exfalso;omega
   refine gg7 ?_
   refine uX (jC hE hent) O ?_
   rintro _ _⟨rfl,rfl⟩
   simp only[uV,uW]
   refine gg3 ?_
   refine uU (cZ (hE.t O) (fun b13=>?_))
   refine gg24 ?_
   refine bE O (fun h3=>?_) (fun h3=>?_)
   ·refine gg8 ?_
    refine uU ?_
    apply fP (hx:=O) (ha:=O) (hf:=hE.f oK)
    ·exact ct_ext1 (s:=s) (most:=most) (g0:=g0) (c0:=c0) hE hxx hl
    ·exact uK
    rintro _ _⟨g,c,rfl,rfl⟩
    simp only[uV,uW]
    refine gg15 ?_
    refine bS (ι:=Option (Nat×Nat)) (j:=some (g,c)) trivial (by simp) ⟨O,O,O,trivial⟩ ?_
    exact uI
   exfalso;omega
  exfalso;omega
 simp only[Option.isSome_some,if_true]
 refine gg8 ?_
 refine bE O (fun h=>?_) (fun h=>?_)
 ·exfalso;omega
 refine gg11 ?_
 exact uZ O (.tmp O .nil) ⟨g,c,O,O⟩
theorem qNb (hE:Seat E){i:Nat}{en:Ent}(hent:Es[i]?=some en)(hl:len (rls Es) (i+1)≤65536):Ct E 65 [uPt s,.int .i64 ((i+1:Nat):Int),.int .i64 0,.int .i64 (len (rls Es) (i+1):Nat)] [bR s most Es]
  (fun v Q=>∃g c,v= .tuple #[.slice (some ⟨g,0,none⟩) (txt (rls Es) (i+1)).length c,.nilIface]∧Q=[bR s most Es,sl (some ⟨g,0,none⟩) c 5 1 (txt (rls Es) (i+1)).length (byC (txt (rls Es) (i+1)))]):=by
 refine dY (p:=bR s most Es) uK (fun _ h=>dP h) (fun hsay=>?_)
 have htx:=hsay.2.1 i en hent
 have hle:en.t.length=len (rls Es) (i+1):=by rw[htx];rfl
 have hln:len (rls Es) (i+1)≤1152921504606846976:=oO
 refine bO (hE.fn Tryz.func65) O O O (fun R=>?_)
 simp only[dR,uV,uW]
 refine gg2 ?_
 refine uU ?_
 refine gL O (fun b4=>?_)
 refine gg8 ?_
 refine uX (jC hE hent) O ?_
 rintro _ _⟨rfl,rfl⟩
 simp only[uV,uW]
 refine gg3 ?_
 refine uU (cZ (hE.t O) (fun b10=>?_))
 refine gg21 ?_
 refine l_eq 26 (.int .i64 (len (rls Es) (i+1):Nat)) O (bW oO) ?_
 refine uX (qJl hE hln) O ?_
 rintro _ _⟨rfl,rfl⟩
 simp only[uV,uW]
 refine gg19 ?_
 refine bE O (fun h=>?_) (fun h=>?_)
 ·exfalso;omega
 refine gg5 ?_
 refine uU ?_
 refine jS (hE.t O) (hE.t O) O O (by first |omega |exact Nat.le_of_ble_eq_true rfl) (by(unfold maxLen;first |omega |exact Nat.le_of_ble_eq_true rfl)) (fun b35 us35 hu35=>?_)
 refine uU (cZ (hE.t O) (fun b13=>?_))
 refine gg3 ?_
 refine kM (cK (p:=sl (some ⟨b35,0,none⟩) (len (rls Es) (i+1)) 5 1 (len (rls Es) (i+1)) us35) (p':=sl (some ⟨b35,0,none⟩) (len (rls Es) (i+1)) 5 1 0 (byC [])) uK (nD (Nat.zero_le _) O (by simp))) ?_
 refine gg7 ?_
 refine uX (ct_parts (g0:=b35) (c0:=len (rls Es) (i+1)) hE hent hl) O ?_
 rintro _ _⟨g,c,rfl,rfl⟩
 simp only[uV,uW]
 refine gg21 ?_
 exact uZ O (.tmp O (.tmp O .nil)) ⟨g,c,O,O⟩
end
section
variable {E:Env}{Es:List Ent}{pp tb s most m bm:Nat}{f:Int→Option Value}
theorem qPw (hE:Seat E):Ct E 10 [uPt pp] [] (fun v Q=>∃m bm,v=uPt m∧Q=[cells m [uPt pp,.map (some bm)] 104,mapF bm .i64 (fun _=>none)]):=by
 refine bO (hE.fn Tryz.func10) O O O (fun R=>?_)
 simp only[dR,uV,uW]
 refine gg18 ?_
 refine uU ?_
 refine qHp .i64 (fun b6=>?_)
 refine gg1 ?_
 refine uU ?_
 refine gL O (fun b8=>?_)
 refine gg4 ?_
 exact uZ O (.tmp O .nil) ⟨b8,b6,O,O⟩
theorem zY (hE:Seat E){x y:Nat}:Ct E 152 [uPt m,.int .i64 (x:Nat),.int .i64 (y:Nat),.nilIface] [cells m [uPt pp,.map (some bm)] 104,mapF bm .i64 f] (fun v Q=>v= .nilIface∧Q=[cells m [uPt pp,.map (some bm)] 104,mapF bm .i64 (setF f (x:Nat) (.int .i64 (y:Nat)))]):=by
 refine bO (hE.fn Tryz.func152) O O O (fun R=>?_)
 simp only[dR,uV,uW]
 refine gg20 ?_
 refine uU ?_
 apply wO (kt:=56) (et:=56) (by rw[hE.P];kernel_rfl) (by rw[hE.P];kernel_rfl) O O O
 ·exact uK
 refine gg9 ?_
 exact uZ O (.tmp O .nil) ⟨O,O⟩
theorem ct_learn (hE:Seat E)(hB:Base E.w0){i:Nat}{en:Ent}(hent:Es[i]?=some en)(hl:len (rls Es) (i+1)≤256)(hroom:Es.length+512≤most):
  Ct E 113 [uPt m,.int .i64 ((i+1:Nat):Int)] [cells pp [uPt s,uPt tb] 108,tabP tb s (rls Es),bR s most Es,cells m [uPt pp,.map (some bm)] 104,mapF bm .i64 f]
   (fun v Q=>∃M y,v= .tuple #[.int .i64 0,.nilIface]∧M.length≤512∧SigOf (rls (Es++M)) (i+1) y∧Q=[cells pp [uPt s,uPt tb] 108,tabP tb s (rls (Es++M)),bR s most (Es++M),cells m [uPt pp,.map (some bm)] 104,mapF bm .i64 (setF f ((i+1:Nat):Int) (.int .i64 (y:Nat)))]):=by
 refine dY (p:=bR s most Es) uK (fun _ h=>dP h) (fun hsay=>?_)
 have hil:i<Es.length:=(List.getElem?_eq_some_iff.1 hent).1
 have htx:=hsay.2.1 i en hent
 have hle:en.t.length=len (rls Es) (i+1):=by rw[htx];rfl
 have hlt:(txt (rls Es) (i+1)).length=len (rls Es) (i+1):=rfl
 have hl2:len (rls Es) (i+1)≤65536:=oO
 refine bO (hE.fn Tryz.func113) O O O (fun R=>?_)
 simp only[dR,uV,uW]
 refine gg12 ?_
 refine uX (fD hE) O ?_
 rintro _ _⟨rfl,rfl⟩
 simp only[uV,uW]
 refine gg7 ?_
 refine uX (jC hE hent) O ?_
 rintro _ _⟨rfl,rfl⟩
 simp only[uV,uW]
 refine gg3 ?_
 refine uU (cZ (hE.t O) (fun b7=>?_))
 refine gg22 ?_
 refine bE O (fun h=>?_) (fun h=>?_)
 ·refine gg6 ?_
  refine l_eq 40 (.int .i64 (len (rls Es) (i+1):Nat)) O (bW oO) ?_
  refine uX (qNb hE hent hl2) O ?_
  rintro _ _⟨g,c,rfl,rfl⟩
  simp only[uV,uW]
  refine gg24 ?_
  refine uX (qPn (Es:=Es) (s:=s) (most:=most) (tb:=tb) (pp:=pp) (q:=sl (some ⟨g,0,none⟩) c 5 1 (txt (rls Es) (i+1)).length (byC (txt (rls Es) (i+1)))) (bs:=txt (rls Es) (i+1)) hE hB (fun _=>⟨g,0,O,rd_slz (fun _ _ h=>h)⟩) oO oO) O ?_
  rintro _ _⟨M,id,rfl,hM,htt,hgd,hor,rfl⟩
  simp only[uV,uW]
  refine gg13 ?_
  refine uX (zY (f:=f) (m:=m) (pp:=pp) (bm:=bm) (x:=i+1) (y:=id) hE) O ?_
  rintro _ _⟨rfl,rfl⟩
  simp only[uV,uW]
  refine gg6 ?_
  have e:txt (rls (Es++M)) (i+1)=txt (rls Es) (i+1):=by rw[dA];exact jG _ (by rw[bQ];omega)
  exact uZ O (.tmp O (.tmp O .nil)) ⟨M,id,O,oO,⟨by rw[bQ,List.length_append];omega,by rw[htt,e],hgd,by rw[e];exact hor⟩,rfl⟩
 exfalso;omega
def SigL (L:List Rl)(xs ys:List Nat):Prop:=∀(i x y:Nat),xs[i]?=some x→ys[i]?=some y→SigOf L x y
theorem SigL.ext {L:List Rl}(M:List Rl){xs ys:List Nat}(h:SigL L xs ys):SigL (L++M) xs ys:=fun i x y h1 h2=>(h i x y h1 h2).ext M
theorem SigL.snoc {L:List Rl}{xs ys:List Nat}(h:SigL L xs ys){x y:Nat}(hx:xs[ys.length]?=some x)(hs:SigOf L x y):SigL L xs (ys++[y]):=fun i x' y' h1 h2=>by
 rcases Nat.lt_trichotomy i ys.length with e|e| e
 ·rw[List.getElem?_append_left e]at h2;exact h i x' y' h1 h2
 ·subst e
  rw[hx]at h1
  cases h1
  simp at h2
  subst h2
  exact hs
 have:=(List.getElem?_eq_some_iff.1 h2).1
 simp at this
 omega
end
section
variable {E:Env}{Es:List Ent}{pp tb s most m bm:Nat}{f:Int→Option Value}
def AccOk (L:List Rl)(acc:List Nat):Prop:=acc.Nodup∧∀y∈acc,1≤y∧y≤L.length
theorem AccOk.len {L:List Rl}{acc:List Nat}(h:AccOk L acc):acc.length≤L.length:=by
 have:=qLy (B:=(List.range L.length).map (· +1)) h.1 (fun x hx=>by
  have:=h.2 x hx
  exact List.mem_map.2 ⟨x-1,List.mem_range.2 oO,oO⟩)
 simpa using this
theorem AccOk.visits {L:List Rl}(hw:Wf L){xs:List Nat}(hx:∀x∈xs,x≤L.length):AccOk L (dD L xs []):=by
 have:=qDr hw L.length xs [] hx
 refine⟨this.2.2 (by simp),fun y hy=>?_⟩
 rcases this.1 y hy with h| h
 ·simp at h
 exact⟨h.1,h.2.2⟩
end
section
variable {E:Env}{Es:List Ent}{pp tb s most m bm:Nat}{f:Int→Option Value}
def nmY (l:List (List UInt8×Int))(ys:List Nat):List (List UInt8×Nat):=(l.map (·.1)).zip ys
end
end Go.Proofs.YtjbdlljghogodaaGreatDoor
namespace Sl
open Go Go.RowKit
theorem rd_cellz {w0:World}{g:Nat}{vs us:List Value}{t:TypeId}(h:∀(i:Nat)(v:Value),vs[i]?=some v→us[i]?=some v):∀k,cells g us t k→RdAt w0 g 0 vs k:=fun k hk i v hv=> .inr ⟨⟨us⟩,t,(0,0),hk,by rw[Nat.zero_add];simpa using h i v hv⟩
end Sl
namespace Go.Proofs.YtjbdlljghogodaaGreatDoor
open Go Go.RowKit Sl Eg
set_option maxRecDepth 10000
variable {E:Env}{Es:List Ent}{pp tb s most m bm:Nat}{f:Int→Option Value}
end Go.Proofs.YtjbdlljghogodaaGreatDoor
namespace Sl
open Go Go.RowKit
variable {E:Env}{n:Nat}{L:Fr}{S H:List HP}{Q:Exit→Act→World→Prop}
end Sl
namespace Go.Proofs.YtjbdlljghogodaaGreatDoor
open Go Go.RowKit Sl Eg
set_option maxRecDepth 10000
section
variable {E:Env}
structure Im where
 name:List UInt8
 a:Option Addr
 bs:List UInt8
 c:Nat
end
section
variable {E:Env}{Es:List Ent}{pp tb s most m bm:Nat}
theorem rdb_sl {w0:World}{p:Option Addr}{c n:Nat}{t:TypeId}{vs:List Value}(hn:vs.length=n)(h:0<n→∃g,p=some ⟨g,0,none⟩):Rdb w0 p vs (sl p c t 1 n vs):=fun hne=>by
 obtain⟨g,rfl⟩:=h (by
  rcases Nat.eq_zero_or_pos n with e| e
  ·exact absurd (List.eq_nil_of_length_eq_zero oO) hne
  exact e)
 exact⟨g,0,O,rd_slz (fun _ _ h=>h)⟩
def mkN (l:List Im)(ids:List Nat):List (List UInt8×Int):=(l.zip ids).map fun p=>(p.1.name,(p.2:Int))
def Txs (L:List Rl)(l:List Im)(ids:List Nat):Prop:=∀(i:Nat)(x:Im)(id:Nat),l[i]?=some x→ids[i]?=some id→id≤L.length∧txt L id=x.bs
end
end Go.Proofs.YtjbdlljghogodaaGreatDoor
