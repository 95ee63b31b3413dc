import Derived.Test.YtnicahfnolhgbaaGreatDoorQ61
set_option linter.all false
set_option maxHeartbeats 1000000
namespace Go.Proofs.YtnicahfnolhgbaaGreatDoor
open Go Go.RowKit Sl Eg
set_option maxRecDepth 10000
section
variable {E:Bp}{Es:List Bj}{pp tb s most:Nat}
def GV (st:List (Nat×Nat)):List Value:=st.flatMap fun p=>[.int .i64 (p.1:Nat),.int .i64 (p.2:Nat)]
def qL (a b:List (Nat×Nat)):GV (a++b)=GV a++GV b:=by simp[GV]
def vK:∀(st:List (Nat×Nat)),(GV st).length=st.length*2
 |[]=>rfl
 |p::st=>by
  have:=vK st;simp only[GV,qz,aa,az,iw]at this ⊢;omega
def Xb (st:List (Nat×Nat))(x t:Nat):GV (st++[(x,t)])=GV st++ BK x:: BK t::[]:=by simp[GV]
def qVx {st x t}:(GV (st++[(x,t)]))[(GV st).length]?=some (BK x)/\(GV (st++[(x,t)]))[(GV st).length+1]?=some (BK t):=by
 rw[Xb];exact⟨FP,FQ⟩
def Qn {st x t u}:bX (GV (st++[(x,t)])) ((GV st).length+1) [BK u]=GV (st++[(x,u)]):=by
 rw[Xb,Xb,EN]
def Qm {st g n}(h:n=st.length+1):(.pointer (some ⟨g,0+(((n:Nat):Int)-1).toNat*2,none⟩):Value)= .pointer (some ⟨g,(GV st).length,none⟩):=by
 rw[vK,show 0+(((n:Nat):Int)-1).toNat*2=st.length*2 by omega]
structure IJ where
 st:List (Nat×Nat)
 done:List UInt8
 p:Option Addr
 c:Nat
 g:Nat
 cc:Nat
def KG (hE:BP E){bt g0 c0 x0 pre}(hj:1<=x0/\x0<=Es.length)(h0:pre.length+len (BO Es) x0<=65536):Ct E 178 [uPt s,BK x0,uPt bt] [bR s most Es,cells bt [.slice (BM g0) pre.length c0] 44,sl (BM g0) c0 5 1 pre.length (Bd pre)]
  (fun v Q=>∃g c,v= .nilIface/\Q=[bR s most Es,cells bt [.slice (BM g) (pre++txt (BO Es) x0).length c] 44,sl (BM g) c 5 1 (pre++txt (BO Es) x0).length (Bd (pre++txt (BO Es) x0))]):=by
 refine eF (p:=bR s most Es) uK (fun _ h=>dR h) (fun hA=>?_);have h1:=bQ Es;have hh:len (BO Es) x0=(txt (BO Es) x0).length:=rfl;refine bO (hE.fn Tryz.func178) O O O (fun R=>?_);simp only[dS,uV,uW];refine Bu ?_;refine uU (aU (hE.t O) (hE.t O) O O O (fun hR=>?_));refine Bw ?_;refine fF (cO (p:=cells hR [BK x0,BL 1] 298) (p':=sl (BM hR) 1 298 2 1 (GV [(x0,1)])) uK (gU O (by unfold maxLen;omega))) ?_
 refine dX (fun q:IJ=>[(0,uPt s),(2,uPt bt),(7,.slice q.p q.st.length q.c)]) (fun q=>[bR s most Es,cells bt [.slice (BM q.g) q.done.length q.cc] 44,sl (BM q.g) q.cc 5 1 q.done.length (Bd q.done),sl q.p q.c 298 2 q.st.length (GV q.st),R]) (fun q=>Gz (BO Es) q.st) (fun q=>q.done++HY (BO Es) q.st=pre++txt (BO Es) x0/\Fe (BO Es) q.st/\Gz (BO Es) q.st<=131072) ⟨[(x0,1)],pre,some ⟨hR,0,none⟩,1,g0,c0⟩ ⟨by simp only[Vi],fun q hq=>by
  obtain rfl:=bg.1 hq;exact⟨hj.1,oO,ai _⟩,by simp only[qF];omega⟩ BC uI ?_
 rintro⟨st,done,p,c,g,cc⟩⟨hI,hQ,hi⟩;simp only at hI hQ hi ⊢;have h2:=hQ.len hA.1;have hk:=au List.length hI;simp only[aa]at hk;refine Br ?_;refine bE O (fun h=>?_) (fun h=>?_)
 ·obtain⟨ini,x,t,rfl⟩:∃ini x t,st=ini++[(x,t+1)]:=by
   rcases bq st with rfl|⟨ini,⟨x,t⟩,rfl⟩
   ·simp at h
   rw[bu]at hQ;have:=(hQ (x,t) BF).2.2;exact⟨ini,x,t-1,by rw[bu,xu this]⟩
  have hl:(ini++[(x,t+1)]).length=ini.length+1:=by simp
  have hT:=PP (BO Es) ini x t;have hM:=PO (BO Es) ini x t;have hB:=hQ.pop;have hn:=hQ (x,t+1) BF;simp only at hn;obtain⟨i,rfl⟩:∃i,x=i+1:=⟨x-1,oO⟩;have hJ:Es[i]?=some (Es[i]'oO):=ag oO;generalize Es[i]'oO=en at hJ;have hF:(BO Es)[i]?=some en.r:=by simp[BO,hJ]
  have h3:=vK ini;obtain⟨f0,f1⟩:=qVx (st:=ini) (x:=i+1) (t:=t+1);obtain⟨f2,f3⟩:=qVx (st:=ini) (x:=i+1) (t:=t);refine iO (p:=sl p c 298 2 (ini++[(i+1,t+1)]).length (GV (ini++[(i+1,t+1)]))) uK (fun _ h=>And.intro (eG h oO) (lX h).1) ?_;rintro⟨⟨g7,rfl⟩,ho⟩;have h4:=hA.1.pos (i+1) oO oO
  have h5:t+1<=131072:=by
   have e:=hi;rw[mI,qF]at e;have:=pu (t+1) (show 1<=2*len (BO Es) (i+1)-1 by omega);omega
  have h6:en.r.ok (i+1):=hA.1.ok _ _ hF;refine Bc ?_;refine BU 22 _ O (Qm (st:=ini) hl) ?_;refine FH ?_;refine BU 31 (BK t) O (bW oO) ?_;refine Bw ?_;simp only[bP];rw[Qn];refine Bu ?_;refine bE O (fun hz=>?_) (fun hz=>?_)
  ·obtain rfl:t=0:=by omega
   have hS:QU ini (i+1) 0=ini:=if_pos O;rw[hS]at hT hM hB;refine Bw ?_;refine uB (gF ini.length O O (hE.t O) oO oO) ?_;refine CG ?_;refine fF (cO (p:=sl (BM g7) c 298 2 (ini++[(i+1,0+1)]).length (GV (ini++[(i+1,0)]))) (p':=sl (BM g7) c 298 2 ini.length (GV ini)) uK (nK oO (by rw[qL,<-vK];simp) BF)) ?_;refine Bz ?_;refine BH (kF hE hJ) O ?_;refine CG ?_;refine uU (dA (hE.t O) (fun hU=>?_));refine Bq ?_;generalize hp:en.r=r at hF;cases r with
   |letter b=>
    have hV:txt (BO Es) (i+1)=[b]:=fP hF
    refine CX ?_
    refine uN 9 ([cells bt [.slice (BM g) done.length cc] 44,cells hU [BK (Rl.kind ((Rl.letter b))),.int .u8 (Rl.byte ((Rl.letter b)):Nat),BK (Rl.left ((Rl.letter b))),BK (Rl.right ((Rl.letter b))),BK (Rl.times ((Rl.letter b)))] 111]) ?_
    refine Bz ?_
    apply dG 4 O oK
    ·exact EC O
    ·rfl
    apply dG 5 O oK
    ·(apply aO rfl (hE.t rfl) rfl;(repeat(first |rfl|assumption|constructor));done)
    ·rfl
    apply fE 6 O oK O
    refine aU (hE.t O) (hE.t O) O O O (fun hr=>?_)
    refine uE ?_
    apply fE 7 O oK O
    refine BJ (fun hW hX hs hY hK hL=>?_)
    refine uE ?_
    apply dG 8 O oK
    ·exact bA O
    ·rfl
    apply gW O oK oK O
    refine uS ?_
    refine CL ?_
    obtain rfl:hY=Bd (done++[b]):=by rw[hL,fM];rfl
    have hC:(done++[b]).length=done.length+1:=by simp
    refine bS (ι:=IJ) (j:=⟨ini,done++[b],some ⟨g7,0,none⟩,c,hW,hX⟩) ⟨by simp only;rw[ah,<-hI,hT,hV],hB,BD⟩ BD BC ?_
    simp only[hC]
    subst hK
    exact uI
   |pair a b=>
    obtain⟨hm,ht⟩:=qSc hA.1 hF (ini)
    have hN:=hA.1.ok _ _ hF
    simp only[Rl.ok]at hN
    have hD:Fe (BO Es) (ini++[(b,1),(a,1)]):=hB.push (fun q hq=>by
     simp only[di,kw,or_false]at hq;rcases hq with rfl|rfl
     ·exact⟨BD,BD,ai _⟩
     exact⟨BD,BD,ai _⟩)
    refine GN ?_
    refine uU (aU (hE.t O) (hE.t O) O O O (fun hu=>?_))
    refine uU (BJ (fun hZ ha hv hb hG hO=>?_))
    refine Bz ?_
    obtain rfl:hb=GV (ini++[(b,1),(a,1)]):=by rw[hO];exact(qL (ini) [(b,1),(a,1)]).symm
    have hC:(ini++[(b,1),(a,1)]).length=(ini).length+2:=by simp
    refine bS (ι:=IJ) (j:=⟨ini++[(b,1),(a,1)],done,some ⟨hZ,0,none⟩,ha,g,cc⟩) ⟨by simp only;rw[<-hI,hT,ht],hD,BD⟩ BD ⟨rfl,rfl,by simp only[hC];rw[hG];rfl,trivial⟩ ?_
    simp only[hC]
    subst hG
    exact uI
   |power a k=>
    obtain⟨hm,ht⟩:=qNt hA.1 hF (ini)
    have hN:=hA.1.ok _ _ hF
    simp only[Rl.ok]at hN
    have hD:Fe (BO Es) (ini++[(a,k)]):=hB.push (fun q hq=>by
     obtain rfl:=bg.1 hq;exact⟨BD,BD,BD⟩)
    refine Hy ?_
    refine uU (aU (hE.t O) (hE.t O) O O O (fun hw=>?_))
    refine uU (BJ (fun hc he hx hf hH hP=>?_))
    refine Bz ?_
    obtain rfl:hf=GV (ini++[(a,k)]):=by rw[hP];exact(qL (ini) [(a,k)]).symm
    have hC:(ini++[(a,k)]).length=(ini).length+1:=by simp
    refine bS (ι:=IJ) (j:=⟨ini++[(a,k)],done,some ⟨hc,0,none⟩,he,g,cc⟩) ⟨by simp only;rw[<-hI,hT,ht],hD,BD⟩ BD ⟨rfl,rfl,by simp only[hC];rw[hH];rfl,trivial⟩ ?_
    simp only[hC]
    subst hH
    exact uI
  obtain⟨t,rfl⟩:∃t',t=t'+1:=⟨t-1,oO⟩;have hS:QU ini (i+1) (t+1)=ini++[(i+1,t+1)]:=if_neg oO;rw[hS]at hT hM hB;have hy:(ini++[(i+1,t+1)]).length=ini.length+1:=by simp
  have hg:(ini++[(i+1,t+1+1)]).length=(ini++[(i+1,t+1)]).length:=by simp
  rw[hg];refine CB ?_;refine BH (kF hE hJ) O ?_;refine CG ?_;refine uU (dA (hE.t O) (fun hU=>?_));refine Bq ?_;generalize hp:en.r=r at hF;cases r with
  |letter b=>
   have hV:txt (BO Es) (i+1)=[b]:=fP hF
   refine CX ?_
   refine uN 9 ([cells bt [.slice (BM g) done.length cc] 44,cells hU [BK (Rl.kind ((Rl.letter b))),.int .u8 (Rl.byte ((Rl.letter b)):Nat),BK (Rl.left ((Rl.letter b))),BK (Rl.right ((Rl.letter b))),BK (Rl.times ((Rl.letter b)))] 111]) ?_
   refine Bz ?_
   apply dG 4 O oK
   ·exact EC O
   ·rfl
   apply dG 5 O oK
   ·(apply aO rfl (hE.t rfl) rfl;(repeat(first |rfl|assumption|constructor));done)
   ·rfl
   apply fE 6 O oK O
   refine aU (hE.t O) (hE.t O) O O O (fun hr=>?_)
   refine uE ?_
   apply fE 7 O oK O
   refine BJ (fun hW hX hs hY hK hL=>?_)
   refine uE ?_
   apply dG 8 O oK
   ·exact bA O
   ·rfl
   apply gW O oK oK O
   refine uS ?_
   refine CL ?_
   obtain rfl:hY=Bd (done++[b]):=by rw[hL,fM];rfl
   have hC:(done++[b]).length=done.length+1:=by simp
   refine bS (ι:=IJ) (j:=⟨ini++[(i+1,t+1)],done++[b],some ⟨g7,0,none⟩,c,hW,hX⟩) ⟨by simp only;rw[ah,<-hI,hT,hV],hB,BD⟩ BD BC ?_
   simp only[hC]
   subst hK
   exact uI
  |pair a b=>
   obtain⟨hm,ht⟩:=qSc hA.1 hF (ini++[(i+1,t+1)])
   have hN:=hA.1.ok _ _ hF
   simp only[Rl.ok]at hN
   have hD:Fe (BO Es) (ini++[(i+1,t+1)]++[(b,1),(a,1)]):=hB.push (fun q hq=>by
    simp only[di,kw,or_false]at hq;rcases hq with rfl|rfl
    ·exact⟨BD,BD,ai _⟩
    exact⟨BD,BD,ai _⟩)
   refine GN ?_
   refine uU (aU (hE.t O) (hE.t O) O O O (fun hu=>?_))
   refine uU (BJ (fun hZ ha hv hb hG hO=>?_))
   refine Bz ?_
   obtain rfl:hb=GV (ini++[(i+1,t+1)]++[(b,1),(a,1)]):=by rw[hO];exact(qL (ini++[(i+1,t+1)]) [(b,1),(a,1)]).symm
   have hC:(ini++[(i+1,t+1)]++[(b,1),(a,1)]).length=(ini++[(i+1,t+1)]).length+2:=by simp
   refine bS (ι:=IJ) (j:=⟨ini++[(i+1,t+1)]++[(b,1),(a,1)],done,some ⟨hZ,0,none⟩,ha,g,cc⟩) ⟨by simp only;rw[<-hI,hT,ht],hD,BD⟩ BD ⟨rfl,rfl,by simp only[hC];rw[hG];rfl,trivial⟩ ?_
   simp only[hC]
   subst hG
   exact uI
  |power a k=>
   obtain⟨hm,ht⟩:=qNt hA.1 hF (ini++[(i+1,t+1)])
   have hN:=hA.1.ok _ _ hF
   simp only[Rl.ok]at hN
   have hD:Fe (BO Es) (ini++[(i+1,t+1)]++[(a,k)]):=hB.push (fun q hq=>by
    obtain rfl:=bg.1 hq;exact⟨BD,BD,BD⟩)
   refine Hy ?_
   refine uU (aU (hE.t O) (hE.t O) O O O (fun hw=>?_))
   refine uU (BJ (fun hc he hx hf hH hP=>?_))
   refine Bz ?_
   obtain rfl:hf=GV (ini++[(i+1,t+1)]++[(a,k)]):=by rw[hP];exact(qL (ini++[(i+1,t+1)]) [(a,k)]).symm
   have hC:(ini++[(i+1,t+1)]++[(a,k)]).length=(ini++[(i+1,t+1)]).length+1:=by simp
   refine bS (ι:=IJ) (j:=⟨ini++[(i+1,t+1)]++[(a,k)],done,some ⟨hc,0,none⟩,he,g,cc⟩) ⟨by simp only;rw[<-hI,hT,ht],hD,BD⟩ BD ⟨rfl,rfl,by simp only[hC];rw[hH];rfl,trivial⟩ ?_
   simp only[hC]
   subst hH
   exact uI
 obtain rfl:st=[]:=dw oO;have hd:done=pre++txt (BO Es) x0:=by simpa[HY]using hI
 subst hd;refine Bo ?_;exact uZ O (.tmp O .nil) ⟨g,cc,O,O⟩
end
section
variable {E:Bp}{Es:List Bj}{pp tb s most:Nat}
def qOs (hE:BP E){n}(hn:n<=1152921504606846976):Ct E 133 [BK n] [] (fun v Q=>v= .bool true/\Q=[]):=by
 refine bO (hE.fn Tryz.func133) O O O (fun R=>?_);simp only[dS,uV,uW];refine Bc ?_;refine dV 5 O (fun h=>?_) (fun h=>?_)
 ·refine Bu ?_;exact uZ O (.tmp O .nil) ⟨au Value.bool (oI oO),O⟩
 exfalso;omega
def qOr (hE:BP E){n}(hn:n<=1152921504606846976):Ct E 99 [BL 0,BK n,BK n] [] (fun v Q=>v= .nilIface/\Q=[]):=by
 refine bO (hE.fn Tryz.func99) O O O (fun R=>?_);simp only[dS,uV,uW];refine Bu ?_;refine BH (qOs hE hn) O ?_;refine Br ?_;refine dV 14 O (fun h1=>?_) (fun h1=>?_)
 ·exfalso;omega
 refine CB ?_;refine dV 18 O (fun h2=>?_) (fun h2=>?_)
 ·exfalso;omega
 refine Br ?_;refine dV 23 O (fun h3=>?_) (fun h3=>?_)
 ·exfalso;omega
 refine CP ?_;refine bE O (fun h4=>?_) (fun h4=>?_)
 ·exfalso;omega
 refine Br ?_;exact uZ O (.tmp O .nil) ⟨O,O⟩
def Ng (hE:BP E){bt b4 g0 c0 x}(hx:1<=x/\x<=Es.length)(hl:len (BO Es) x<=65536):Ct E 177 [BK x,BL 1,uPt bt,uPt b4] [cells b4 [uPt s] 36,bR s most Es,cells bt [.slice (BM g0) (([]:List UInt8)).length c0] 44,sl (BM g0) c0 5 1 (([]:List UInt8)).length (Bd (([]:List UInt8)))]
  (fun v Q=>∃g c,v= .nilIface/\Q=[cells b4 [uPt s] 36,bR s most Es,cells bt [.slice (BM g) (txt (BO Es) x).length c] 44,sl (BM g) c 5 1 (txt (BO Es) x).length (Bd (txt (BO Es) x))]):=by
 have hB:([]:List UInt8).length+len (BO Es) x<=65536:=by rw[iw];omega
 refine bO (hE.fn Tryz.func177) O O O (fun R=>?_);simp only[dS,uV,uW];refine CY ?_;refine uX (KG (pre:=[]) hE hx hB) O ?_;rintro _ _⟨g,c,rfl,rfl⟩;simp only[uV,uW];refine lQ (p:=sl (BM g) c 5 1 ([]++txt (BO Es) x).length (Bd ([]++txt (BO Es) x))) uK (fun _ h=>lX h) ?_;rintro⟨hA, -⟩;rw[jw]at hA;refine CX ?_;refine uB (gL (l:=0) (h:=(txt (BO Es) x).length) O (hE.t O) ⟨_,O⟩ O (av _) oO) ?_;refine Bq ?_;refine dX (fun _:Unit=>[(22,BL (1-1)),(23,BL 0)]) (fun _=>[cells b4 [uPt s] 36,bR s most Es,cells bt [.slice (BM g) (txt (BO Es) x).length c] 44,sl (BM g) c 5 1 (txt (BO Es) x).length (Bd (txt (BO Es) x)),R]) (fun _=>0) (fun _=>True) () trivial BC uI ?_;rintro _ _;refine CB ?_;refine bE O (fun h=>?_) (fun h=>?_)
 ·exfalso;omega
 refine Bo ?_;exact uZ O (.tmp O .nil) ⟨g,c,O,O⟩
def KC (hE:BP E){bt b4 g0 c0 i en}(hA:Es[i]?=some en)(hl:len (BO Es) (i+1)<=65536):Ct E 176 [uPt s,BL ((i+1:Nat):Int),BL 0,BK (len (BO Es) (i+1)),.func (.func 177) #[] ⟨[uPt bt,uPt b4]⟩] [cells b4 [uPt s] 36,bR s most Es,cells bt [.slice (BM g0) (([]:List UInt8)).length c0] 44,sl (BM g0) c0 5 1 (([]:List UInt8)).length (Bd (([]:List UInt8)))]
  (fun v Q=>∃g c,v= .nilIface/\Q=[cells b4 [uPt s] 36,bR s most Es,cells bt [.slice (BM g) (txt (BO Es) (i+1)).length c] 44,sl (BM g) c 5 1 (txt (BO Es) (i+1)).length (Bd (txt (BO Es) (i+1)))]):=by
 refine eF (p:=bR s most Es) uK (fun _ h=>dR h) (fun hB=>?_);have hG:i<Es.length:=(ae.1 hA).1;have hD:=hB.2.1 i en hA;have hH:en.t.length=len (BO Es) (i+1):=by rw[hD];rfl
 have hI:=hB.1.pos (i+1) oO (by rw[bQ];omega);have hF:1<=i+1/\i+1<=Es.length:=⟨oO,oO⟩;refine bO (hE.fn Tryz.func176) O O O (fun R=>?_);simp only[dS,uV,uW];refine Bo ?_;refine uU (aU (hE.t O) (hE.t O) O O O (fun hC=>?_));refine Bw ?_;refine fF (cO (p:=cells hC [BL ((i+1:Nat):Int),BL 0,BK (len (BO Es) (i+1)),BL 1] 294) (p':=sl (BM hC) 1 294 4 1 [BL ((i+1:Nat):Int),BL 0,BK (len (BO Es) (i+1)),BL 1]) uK (gU O (by unfold maxLen;omega))) ?_
 refine dX (fun q:Option (Nat×Nat)=>[(0,uPt s),(4,.func (.func 177) #[] ⟨[uPt bt,uPt b4]⟩),(11,.slice (BM hC) (if q.isSome then 0 else 1) 1)])
  (fun q=>match q with
   |none=>[cells b4 [uPt s] 36,bR s most Es,cells bt [.slice (some ⟨g0,0,none⟩) (([]:List UInt8)).length c0] 44,sl (some ⟨g0,0,none⟩) c0 5 1 (([]:List UInt8)).length (Bd (([]:List UInt8))),sl (some ⟨hC,0,none⟩) 1 294 4 1 [.int .i64 ((i+1:Nat):Int),.int .i64 0,.int .i64 (len (BO Es) (i+1):Nat),.int .i64 1],R]
   |some q=>[cells b4 [uPt s] 36,bR s most Es,cells bt [.slice (some ⟨q.1,0,none⟩) (txt (BO Es) (i+1)).length q.2] 44,sl (some ⟨q.1,0,none⟩) q.2 5 1 (txt (BO Es) (i+1)).length (Bd (txt (BO Es) (i+1))),R]) (fun q=>if q.isSome then 0 else 1) (fun _=>True) none trivial BC uI ?_
 rintro(_|⟨g,c⟩)_
 ·simp only[Option.isSome_none,if_false,ou];refine Br ?_;refine bE O (fun h=>?_) (fun h=>?_)
  ·refine Bc ?_;refine BU 30 (uPt hC) O O ?_;refine Bv ?_;refine uU (dA (hE.t O) (fun hJ=>?_));refine Bu ?_;refine uB (gF 0 O O (hE.t O) oO oO) ?_;refine Bc ?_;refine dV 40 O (fun h1=>?_) (fun h1=>?_)
   ·exfalso;omega
   refine Bu ?_;refine bE O (fun h2=>?_) (fun h2=>?_)
   ·exfalso;omega
   refine Bi ?_;refine BH (qM hE hA) O ?_;refine CG ?_;refine uU (dA (hE.t O) (fun hK=>?_));refine Dv ?_;refine bE O (fun h3=>?_) (fun h3=>?_)
   ·refine Br ?_;refine uU ?_;apply Xf (hx:=O) (ha:=O) (hf:=hE.f oK)
    ·exact Ng (s:=s) (most:=most) (g0:=g0) (c0:=c0) hE hF hl
    ·exact uK
    rintro _ _⟨g,c,rfl,rfl⟩;simp only[uV,uW];refine CK ?_;refine bS (ι:=Option (Nat×Nat)) (j:=some (g,c)) trivial BF BC ?_;exact uI
   exfalso;omega
  exfalso;omega
 simp only[zx,if_true];refine Br ?_;refine bE O (fun h=>?_) (fun h=>?_)
 ·exfalso;omega
 refine Bo ?_;exact uZ O (.tmp O .nil) ⟨g,c,O,O⟩
def qSw (hE:BP E){i en}(hA:Es[i]?=some en)(hl:len (BO Es) (i+1)<=65536):Ct E 158 [uPt s,BL ((i+1:Nat):Int),BL 0,BK (len (BO Es) (i+1))] [bR s most Es]
  (fun v Q=>∃g c,v= .tuple #[.slice (BM g) (txt (BO Es) (i+1)).length c,.nilIface]/\Q=[bR s most Es,sl (BM g) c 5 1 (txt (BO Es) (i+1)).length (Bd (txt (BO Es) (i+1)))]):=by
 refine eF (p:=bR s most Es) uK (fun _ h=>dR h) (fun hB=>?_);have hD:=hB.2.1 i en hA;have hH:en.t.length=len (BO Es) (i+1):=by rw[hD];rfl
 have hF:len (BO Es) (i+1)<=1152921504606846976:=oO;refine bO (hE.fn Tryz.func158) O O O (fun R=>?_);simp only[dS,uV,uW];refine CL ?_;refine uU (gN O (fun b4=>?_));refine Br ?_;refine BH (qM hE hA) O ?_;refine CG ?_;refine uU (dA (hE.t O) (fun hI=>?_));refine DW ?_;refine BU 26 (BK (len (BO Es) (i+1))) O (bW oO) ?_;refine BH (qOr hE hF) O ?_;refine Ci ?_;refine bE O (fun h=>?_) (fun h=>?_)
 ·exfalso;omega
 refine Bw ?_;refine uU (kE (hE.t O) (hE.t O) O O (by first |omega |exact bz rfl) (by(unfold maxLen;first |omega |exact bz rfl)) (fun hC us35 hG=>?_));refine uU (dA (hE.t O) (fun hJ=>?_));refine CG ?_;refine fF (cO (p:=sl (BM hC) (len (BO Es) (i+1)) 5 1 (len (BO Es) (i+1)) us35) (p':=sl (BM hC) (len (BO Es) (i+1)) 5 1 0 (Bd [])) uK (nK (av _) O BF)) ?_;refine Bi ?_;refine uX (KC (g0:=hC) (c0:=len (BO Es) (i+1)) hE hA hl) O ?_;rintro _ _⟨g,c,rfl,rfl⟩;simp only[uV,uW];refine DW ?_;exact uZ O (.tmp O (.tmp O .nil)) ⟨g,c,O,O⟩
end
section
variable {E:Bp}{Es:List Bj}{pp tb s most m bm:Nat}{f:Int->Option Value}
def Wt (hE:BP E):Ct E 13 [uPt pp] [] (fun v Q=>∃m bm,v=uPt m/\Q=[cells m [uPt pp,.map (some bm)] 118,Bn bm .i64 (fun _=>none)]):=by
 refine bO (hE.fn Tryz.func13) O O O (fun R=>?_);simp only[dS,uV,uW];refine Cw ?_;refine uU (jS .i64 (fun b6=>?_));refine Bv ?_;refine uU (gN O (fun b8=>?_));refine Bz ?_;exact uZ O (.tmp O .nil) ⟨b8,b6,O,O⟩
def qLk (hE:BP E):Ct E 67 [uPt m] [cells m [uPt pp,.map (some bm)] 118] (fun v Q=>v=uPt pp/\Q=[cells m [uPt pp,.map (some bm)] 118]):=by
 refine bO (hE.fn Tryz.func67) O O O (fun R=>?_);simp only[dS,uV,uW];refine EK ?_;exact uZ O (.tmp O .nil) ⟨O,O⟩
def ZY (hE:BP E){x y}:Ct E 160 [uPt m,BK x,BK y,.nilIface] [cells m [uPt pp,.map (some bm)] 118,Bn bm .i64 f] (fun v Q=>v= .nilIface/\Q=[cells m [uPt pp,.map (some bm)] 118,Bn bm .i64 (DD f (x:Nat) (BK y))]):=by
 refine bO (hE.fn Tryz.func160) O O O (fun R=>?_);simp only[dS,uV,uW];refine FH ?_;refine uU ?_;apply lS (kt:=41) (et:=41) hE.uu hE.uu O O O
 ·exact uK
 refine Bu ?_;exact uZ O (.tmp O .nil) ⟨O,O⟩
def Jt (hE:BP E)(hB:Ca E.w0){i en}(hA:Es[i]?=some en)(hl:len (BO Es) (i+1)<=256)(hD:Es.length+512<=most):
  Ct E 142 [uPt m,BL ((i+1:Nat):Int)] [cells pp [uPt s,uPt tb] 122,BV tb s (BO Es),bR s most Es,cells m [uPt pp,.map (some bm)] 118,Bn bm .i64 f]
   (fun v Q=>∃M y,v= .tuple #[BL 0,.nilIface]/\M.length<=512/\DF (BO (Es++M)) (i+1) y/\Q=[cells pp [uPt s,uPt tb] 122,BV tb s (BO (Es++M)),bR s most (Es++M),cells m [uPt pp,.map (some bm)] 118,Bn bm .i64 (DD f ((i+1:Nat):Int) (BK y))]):=by
 refine eF (p:=bR s most Es) uK (fun _ h=>dR h) (fun hC=>?_);have hK:i<Es.length:=(ae.1 hA).1;have hF:=hC.2.1 i en hA;have hL:en.t.length=len (BO Es) (i+1):=by rw[hF];rfl
 have hN:(txt (BO Es) (i+1)).length=len (BO Es) (i+1):=rfl;have hG:len (BO Es) (i+1)<=65536:=oO;refine bO (hE.fn Tryz.func142) O O O (fun R=>?_);simp only[dS,uV,uW];refine Bq ?_;refine BH (kC hE) O ?_;refine Bi ?_;refine BH (qM hE hA) O ?_;refine CG ?_;refine uU (dA (hE.t O) (fun b7=>?_));refine Df ?_;refine bE O (fun h=>?_) (fun h=>?_)
 ·refine CB ?_;refine BU 40 (BK (len (BO Es) (i+1))) O (bW oO) ?_;refine uX (qSw hE hA hG) O ?_;rintro _ _⟨g,c,rfl,rfl⟩;simp only[uV,uW];refine Dv ?_;refine uX (Qq (Es:=Es) (s:=s) (most:=most) (tb:=tb) (pp:=pp) (q:=sl (BM g) c 5 1 (txt (BO Es) (i+1)).length (Bd (txt (BO Es) (i+1)))) (bs:=txt (BO Es) (i+1)) hE hB (fun _=>⟨g,0,O,Rj (fun _ _ h=>h)⟩) oO oO) O ?_;rintro _ _⟨M,id,rfl,hM,hH,hI,hJ,rfl⟩;simp only[uV,uW];refine CP ?_;refine BH (ZY (f:=f) (m:=m) (pp:=pp) (bm:=bm) (x:=i+1) (y:=id) hE) O ?_;refine CB ?_;have e:txt (BO (Es++M)) (i+1)=txt (BO Es) (i+1):=by rw[dB];exact jX _ (by rw[bQ];omega)
  exact uZ O (.tmp O (.tmp O .nil)) ⟨M,id,O,oO,⟨by rw[bQ,aa];omega,by rw[hH,e],hI,by rw[e];exact hJ⟩,rfl⟩
 exfalso;omega
def EJ (L:List Rl)(xs ys:List Nat):Prop:=∀(i x y:Nat),xs[i]?=some x->ys[i]?=some y->DF L x y
def EJ.ext {L}(M:List Rl){xs ys}(h:EJ L xs ys):EJ (L++M) xs ys:=fun i x y h1 h2=>(h i x y h1 h2).ext M
def EJ.snoc {L xs ys}(h:EJ L xs ys){x y}(hx:xs[ys.length]?=some x)(hs:DF L x y):EJ L xs (ys++[y]):=fun i x' y' h1 h2=>by
 rcases uz i ys.length with e|e| e
 ·rw[aj e]at h2;exact h i x' y' h1 h2
 ·subst e;rw[hx]at h1;cases h1
  simp at h2;subst h2;exact hs
 have:=(ae.1 h2).1;simp at this;omega
end
section
variable {E:Bp}{Es:List Bj}{pp tb s most m bm:Nat}{f:Int->Option Value}
def Hl (l:List (List UInt8×Int)):Prop:=∀p∈l,Ff p.1
def Ug (n:Nat)(l:List (List UInt8×Int)):Prop:=∀p∈l,0<=p.2/\p.2<=(n:Nat)
def Uk (n:Nat)(l:List (List UInt8×Int))(e:Int):Prop:=(e=13/\¬Hl l)\/(e=4/\Hl l/\¬Gb l l.length)\/(e=1/\Hl l/\Gb l l.length/\¬Ug n l)
def TJ (n:Nat)(l:List (List UInt8×Int)):Prop:=Hl l/\Gb l l.length/\Ug n l
def Fp (l:List (List UInt8×Int)):List Nat:=l.map fun p=>p.2.toNat
def qVc {xs:List Nat}{us:List Value}{k x:Nat}(hx:xs[k]?=some x)(hu:k<us.length):bX (Bg (xs.take k)++us.drop k) k [.int .i64 (x:Nat)]=Bg (xs.take (k+1))++us.drop (k+1):=by
 have hk:=(ae.1 hx).1;have e1:us.drop k=us[k]::us.drop (k+1):=mr hu;have e2:(Bg (xs.take k)).length=k:=by simp[Bg];omega
 have e3:xs.take (k+1)=xs.take k++[x]:=by rw[ed,hx];rfl
 have:=EM (pre:=Bg (xs.take k)) (x0:=us[k]) (r:=us.drop (k+1)) (v:= .int .i64 (x:Nat));rw[e2]at this;rw[e1,this,e3,iF];simp[Bg]
def Vp {l}(h:0<l.length):FY l≠[]:=fun e=>by
 have:=qHc l;rw[e]at this;simp at this;omega
end
section
variable {E:Bp}{Es:List Bj}{pp tb s most m bm:Nat}{f:Int->Option Value}
def PR {st x b}:(Ha ((x,b)::st))[(Ha st).length]?=some (BK x)/\(Ha ((x,b)::st))[(Ha st).length+1]?=some (.bool b):=⟨FP,FQ⟩
def SA {st g n}(h:n=st.length+1):(.pointer (some ⟨g,0+(((n:Nat):Int)-1).toNat*2,none⟩):Value)= .pointer (some ⟨g,(Ha st).length,none⟩):=by
 rw[Wd,show 0+(((n:Nat):Int)-1).toNat*2=st.length*2 by omega]
def DU (L:List Rl)(acc:List Nat):Prop:=acc.Nodup/\∀y∈acc,1<=y/\y<=L.length
def DU.len {L acc}(h:DU L acc):acc.length<=L.length:=by
 have:=Xj (B:=(List.range L.length).map (· +1)) h.1 (fun x hx=>by
  have:=h.2 x hx;exact jg.2 ⟨x-1,oC.2 oO,oO⟩)
 simpa using this
def DU.visits {L}(hw:Wf L){xs}(hx:∀x∈xs,x<=L.length):DU L (dD L xs []):=by
 have:=qY hw L.length xs [] hx;refine⟨this.2.2 BF,fun y hy=>?_⟩;rcases this.1 y hy with h| h
 ·simp at h
 exact⟨h.1,h.2.2⟩
def DU.snoc {L acc}(h:DU L acc){x}(hx:x<=L.length)(hn:¬(x=0\/x∈acc)):DU L (acc++[x]):=by
 refine⟨ng.2 ⟨h.1,by simp,fun a ha b hb=>?_⟩,fun y hy=>?_⟩
 ·simp at hb;subst hb;rintro rfl;exact hn (.inr ha)
 rcases ay.1 hy with hy|hy
 ·exact h.2 y hy
 simp at hy;subst hy;exact⟨Nat.pos_of_ne_zero fun e=>hn (.inl e),hx⟩
structure ZG where
 k:Nat
 acc:List Nat
 p:Option Addr
 c:Nat
 ps:Option Addr
 cs:Nat
structure Uh where
 st:List (Nat×Bool)
 acc:List Nat
 p:Option Addr
 c:Nat
 ps:Option Addr
 cs:Nat
structure ZF where
 j:Nat
 ps:Option Addr
 cs:Nat
end
section
variable {E:Bp}{Es:List Bj}{pp tb s most m bm:Nat}{f:Int->Option Value}
def wQ (hE:BP E){g c bs}(hn:bs.length<=1099511627776):Ct E 40 [.slice (BM g) bs.length c] [ro g (Bd bs)] (fun v Q=>∃g' c',v= .slice (BM g') (eY bs).length c'/\Q=[ro g (Bd bs),sl (BM g') c' 5 1 (eY bs).length (Bd (eY bs))]):=by
 have hF:=gM (n:=bs.length) oO;have hp:=jG bs.length;have hA:=fK bs;have hG:(eY bs).length=(BS bs.length).length+bs.length:=aa;have hB:((BS bs.length).length+(Bd bs).length)*1<=140737488355328:=oO;have hC:(BS bs.length).length+(Bd bs).length<=maxLen:=by unfold maxLen;omega
 refine bO (hE.fn Tryz.func40) O O O (fun R=>?_);simp only[dS,uV,uW];refine Bc ?_;refine uX (nG (n:=bs.length) hE oO) O ?_;rintro _ _⟨g2,c2,rfl,rfl⟩;simp only[uV,uW];refine Bv ?_;refine uU (jF (us:=Bd bs) (q:=ro g (Bd bs)) (hE.t O) (hE.t O) O O O hA.symm (fun _=>⟨g,0,O,Ll⟩) uK uK (gG bs) hB hC (fun p1 c1 m1 x1 hH hD=>?_));obtain rfl:m1=(eY bs).length:=by omega
 obtain rfl:x1=Bd (eY bs):=hD.trans (fM _ _).symm;refine lQ (p:=sl p1 c1 5 1 (eY bs).length (Bd (eY bs))) uK (fun _ h=>eG h oO) ?_;rintro⟨g',rfl⟩;refine Bz ?_;exact uZ O (.tmp O .nil) ⟨g',c1,O,O⟩
def Yh {ids:List Nat}{k x:Nat}(h:ids[k]?=some x)(hn:ids.Nodup):DD (Dw (ids.take k)) (x:Nat) (.int .i64 ((k+1:Nat):Int))=Dw (ids.take (k+1)):=by
 have hk:=(ae.1 h).1;have e:(ids.take k).length=k:=by simp;omega
 have hA:ids.take (k+1)=ids.take k++[x]:=by rw[ed,h];rfl
 have hx:x∉ids.take k:=fun hm=>by
  have:(ids.take k++[x]).Nodup:=hA▸hn.sublist (List.take_sublist _ _);exact(ng.1 this).2.2 x hm x BF O
 have:=Oh hx;rw[e]at this;rw[this,hA]
def qHj (I:List Nat)(r:Rl):(gP I r).kind=r.kind:=by cases r<;>rfl
def qHi (I:List Nat)(r:Rl):(gP I r).byte=r.byte:=by cases r<;>rfl
def rX (I:List Nat)(r:Rl):(gP I r).times=r.times:=by cases r<;>rfl
def qHk {I}(h:0∉I)(r:Rl):(gP I r).left=Bh I r.left:=by cases r<;>first |rfl|exact(gH.2 h).symm
def Zn {I}(h:0∉I)(r:Rl):(gP I r).right=Bh I r.right:=by cases r<;>first |rfl|exact(gH.2 h).symm
def Xn {I A x n r}(hI:I=A++[x])(ho:r.ok n)(hk:∀k∈BZ r,k∈A):(gP I r).ok (A.length+1)/\∀B,gP (I++B) r=gP I r:=by
 subst hI
 have key:∀k∈A,1<=Bh (A++[x]) k/\Bh (A++[x]) k<=A.length:=fun k hk=>by
  rw[rV hk];have:=qG A k;have:Bh A k≠0:=fun e=>gH.1 e hk
  omega
 have app:∀B,∀k∈A,Bh (A++[x]++B) k=Bh (A++[x]) k:=fun B k hk=>rV (by simp[hk])
 cases r with
 |letter b=>exact⟨trivial,fun _=>rfl⟩
 |pair a b=>
  have h1:=key a (hk a (by simp[BZ]))
  have h2:=key b (hk b (by simp[BZ]))
  refine⟨⟨h1.1,oO,h2.1,oO⟩,fun B=>?_⟩
  simp only[gP,app B a (hk a (by simp[BZ])),app B b (hk b (by simp[BZ]))]
 |power a k=>
  have h1:=key a (hk a (by simp[BZ]))
  simp only[Rl.ok]at ho
  refine⟨⟨h1.1,oO,ho.2.2⟩,fun B=>?_⟩
  simp only[gP,app B a (hk a (by simp[BZ]))]
def Xt (i:Nat)(hi:i<=1099511627776)(r:Rl)(ht:r.times<=1152921504606846976):0<(Co i r).length/\(Co i r).length<=21:=by
 cases r with
 |letter b=>simp[Co]
 |pair a b=>
  have h1:=gM (n:=i-a) oO
  have h2:=gM (n:=i-b) oO
  simp only[Co,az,aa];omega
 |power a k=>
  simp only[Rl.times]at ht
  have h1:=gM (n:=i-a) oO
  have h2:=gM (n:=k-2) oO
  simp only[Co,az,aa];omega
def Gy (l:List (List UInt8×Int))(ys:List Nat):List (List UInt8×Nat):=(l.map (·.1)).zip ys
def qXw (ids:List Nat)(A:List (List UInt8×Nat))(p:List UInt8×Nat):Hr ids (A++[p])=Hr ids A++eY p.1++BS (Bh ids p.2):=by simp[Hr,eY]
def LQ {l ys k y p}(hp:l[k]?=some p)(hy:ys[k]?=some y):(Gy l ys).take (k+1)=(Gy l ys).take k++[(p.1,y)]:=by
 have:(Gy l ys)[k]?=some (p.1,y):=by
  unfold Gy;rw[zz];exact⟨by rw[bn,hp];rfl,hy⟩
 rw[ed,this];rfl
end
section
variable {E:Bp}{Es:List Bj}{pp tb s most m bm:Nat}{f:Int->Option Value}
structure Ue where
 k:Nat
 done:List UInt8
 g:Nat
 c:Nat
end
end Go.Proofs.YtnicahfnolhgbaaGreatDoor
namespace Sl
open Go Go.RowKit
variable {E:Bp}{n:Nat}{L:Fr}{S S':List HP}{ty:TypeId}{pos:String}{af:Array Edge}{d:Option Nat}{gd:Option (Nat×Bool)}
def xO {x}{src dst e:TypeId}{a bs c s by_ sz sz1 sz2 zs zs1 zs2 q}(hx:ev L x=some (.slice a bs.length c))(hs:E.tab src=some ⟨.slice e s by_,sz,zs⟩)(he:E.tab e=some ⟨.int .u8,sz1,zs1⟩)(hd:E.tab dst=some ⟨.string,sz2,zs2⟩)
  (hq:Cv E.w0 a (bs.map fun b=>Value.int .u8 (b.toNat:Nat)) q) (hm:CO q S S'):Yl E n L S ⟨d,.convert src dst x,ty,pos,af,gd⟩ (BN bs):=fun A w g st=>by
 obtain⟨i',z,_,_,_,_,hA⟩:=fC hd;simp only[TK.holds]at hA
 have hu:E.P.underlying dst=some .string:=by
  split at hA
  ·assumption
  cases hA
 obtain⟨hB,_⟩:=fD hs
 have hr:(convert src dst (.slice a bs.length c)).run E.P w= .ok (BN bs) w:=by
  cases bs with
  |nil=>
   cases a with
   |none=>
    rw[run_convert_bytes_string w src dst e none _ c hB (nJ he) hu]
    rfl
   |some a=>exact run_convert_bytes_back w src dst e a c [] hB (nJ he) hu (fun j hj=>by simp at hj)
  |cons b bs=>
   obtain⟨g',o,rfl,hC⟩:=hq BF
   refine run_convert_bytes_back w src dst e ⟨g',o,none⟩ c (b::bs) hB (nJ he) hu (fun j hj=>?_)
   rw[addr_add]
   exact Tt hC (st.take hm) (i:=j) (by rw[bn,ag hj];rfl)
 simp[execOp,g.ev hx,hr]
end Sl
namespace Go.Proofs.YtnicahfnolhgbaaGreatDoor
open Go Go.RowKit Sl Eg
set_option maxRecDepth 10000
variable {E:Bp}
def qQr (hE:BP E){a b c d xs bs q r}(hq:Cv E.w0 a (Bd xs) q)(hr:Cv E.w0 b (Bd bs) r):Ct E 19 [.slice a xs.length c,.slice b bs.length d] [q,r] (fun v Q=>v= .bool (decide (xs=bs))/\Q=[q,r]):=by
 refine bO (hE.fn Tryz.func19) O O O (fun R=>?_);simp only[dS,uV,uW];refine Br ?_;refine uB (xO (q:=q) O (hE.t O) (hE.t O) (hE.t O) hq uK) ?_;refine Bv ?_;refine uB (xO (q:=r) O (hE.t O) (hE.t O) (hE.t O) hr uK) ?_;refine Bw ?_;exact uZ O (.tmp O .nil) ⟨O,O⟩
end Go.Proofs.YtnicahfnolhgbaaGreatDoor
namespace Sl
open Go Go.RowKit
def VG {w0 g vs us}{t:TypeId}(h:∀(i:Nat)(v:Value),vs[i]?=some v->us[i]?=some v):∀k,cells g us t k->FN w0 g 0 vs k:=fun k hk i v hv=> .inr ⟨⟨us⟩,t,(0,0),hk,by rw[jh];simpa using h i v hv⟩
end Sl
namespace Go.Proofs.YtnicahfnolhgbaaGreatDoor
open Go Go.RowKit Sl Eg
set_option maxRecDepth 10000
variable {E:Bp}{Es:List Bj}{pp tb s most m bm:Nat}{f:Int->Option Value}
def MX {L}(hw:Wf L){ys x}(hx:x<=L.length)(ht:txt L x=[120,120])(hB:ys.length=1)(hs:EJ L [x] ys):Gn L (dD L ys []) (Gy [([97],(x:Int))] ys)=[2,1,120,3,1,0,1,1,97,2]:=by
 obtain⟨y,rfl⟩:=oZ.1 hB;have h:=hs 0 x y O O;obtain⟨n,m,rfl,g1,g2⟩:=UL hw (by rw[h.2.1];exact ht) h.2.2.1.2;have ho:=hw.ok n _ g1;simp only[Rl.ok]at ho
 have v0:dD L [m+1] []=[m+1]:=by
  rw[iZ,jD hw g2 BF];rfl
 have v1:dD L [n+1] []=[m+1,n+1]:=by
  rw[iZ,jD hw g1 BF];show dD L [m+1] []++[n+1]=_;rw[v0];rfl
 have hC:¬m+1=n+1:=oO;have hA:¬m=n:=oO;rw[v1,Gn]
 have e1:Gj L [m+1,n+1] [m+1,n+1].length=[1,120]++[3,1,0]:=by
  show Gj L [m+1,n+1] (0+1+1)=_;rw[yH (i:=0+1) (n:=n) rfl g1,yH (i:=0) (n:=m) rfl g2];have:Bh [m+1,n+1] (m+1)=1:=by simp[Bh]
  simp only[gP,this,Co,Gj,jw];rw[jU oO,jU oO];rfl
 have e2:Bh [m+1,n+1] (n+1)=2:=by simp[Bh,hA]
 rw[e1];have e3:Gy [([97],(x:Int))] [n+1]=[([97],n+1)]:=rfl;rw[e3];simp only[Hr,qz,List.flatMap_nil,e2,az,iw];rw[jU oO,jU oO];rfl
def PL {n x}(hx:x<=n):TJ n [([97],(x:Int))]:=by
 refine⟨fun p hp=>?_,fun i p q h _ _=>by simp at h,fun p hp=>?_⟩
 ·obtain rfl:=bg.1 hp;show Ff [97];decide
 obtain rfl:=bg.1 hp;exact⟨by simp,by simp;omega⟩
def Uk.not {n l e}(h:Uk n l e)(ho:TJ n l):False:=by
 rcases h with⟨_,h⟩|⟨_,_,h⟩|⟨_,_,_,h⟩
 ·exact h ho.1
 ·exact h ho.2.1
 exact h ho.2.2
end Go.Proofs.YtnicahfnolhgbaaGreatDoor
namespace Sl
open Go Go.RowKit
variable {E:Bp}{n:Nat}{L:Fr}{S H:List HP}{Q:Exit->Act->World->Prop}
end Sl
namespace Go.Proofs.YtnicahfnolhgbaaGreatDoor
open Go Go.RowKit Sl Eg
set_option maxRecDepth 10000
section
variable {E:Bp}
structure Im where
 name:List UInt8
 a:Option Addr
 bs:List UInt8
 c:Nat
end
section
variable {E:Bp}{Es:List Bj}{pp tb s most m bm:Nat}
def sK {w0 p c n}{t:TypeId}{vs}(hn:vs.length=n)(h:0<n->∃g,p=some ⟨g,0,none⟩):Cv w0 p vs (sl p c t 1 n vs):=fun hA=>by
 obtain⟨g,rfl⟩:=h (by
  rcases jo n with e| e
  ·exact absurd (dw oO) hA
  exact e)
 exact⟨g,0,O,Rj (fun _ _ h=>h)⟩
def QP {bs}(h:bs≠[]):Bd bs≠[]:=fun e=>h (by
 have:=fK bs;rw[e]at this;exact dw this.symm)
def LJ (l:List Im)(ids:List Nat):List (List UInt8×Int):=(l.zip ids).map fun p=>(p.1.name,(p.2:Int))
def WU:∀(a b:List (List UInt8×Int)),FY (a++b)=FY a++FY b
 |[],b=>rfl
 |p::a,b=>by simp[FY,WU a b]
def Txs (L:List Rl)(l:List Im)(ids:List Nat):Prop:=∀(i:Nat)(x:Im)(id:Nat),l[i]?=some x->ids[i]?=some id->id<=L.length/\txt L id=x.bs
end
