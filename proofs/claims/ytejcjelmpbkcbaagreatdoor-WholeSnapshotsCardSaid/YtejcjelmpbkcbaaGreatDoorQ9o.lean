import Derived.Test.YtejcjelmpbkcbaaGreatDoorQ9i
import Derived.Test.YtejcjelmpbkcbaaGreatDoorQ9n
set_option linter.all false
set_option maxHeartbeats 1000000
namespace Go.Proofs.YtejcjelmpbkcbaaGreatDoor
set_option maxRecDepth 10000
section
open Go Go.RowKit Sl Eg Pm
variable {E:Env}
def vs0:(fun _=>none:List UInt8→Option Value)=vsF (fun _=>none):=rfl
def ct_boxes (hE:Seat E):Ct E 7 [] [] (fun v Q=>v= .bool true∧Q=[]):=by
 refine bO (hE.fn Tryz.func7) O O O (fun R=>?_);simp only[dX,uV,uW];refine gg8 ?_;refine uU ?_;refine aU (hE.t O) (hE.t O) O O O (fun b11=>?_);refine qAh (cK (p:=cells b11 [.string ⟨⟨[97]⟩⟩,.int .i64 1] 105) (p':=sl (some ⟨b11,0,none⟩) 1 105 2 1 (nlC (nmI [([97],1)]))) uK (iK O (by unfold maxLen;omega))) ?_;refine uX (qVe (l:=[([97],1)]) (c:=1) hE (by decide) (by decide) (by decide)) O ?_;rintro _ _⟨b,mb,A,q,rfl,hq,rfl⟩;rw[vs0];simp only[uV,uW];have hrep:=qXe [([97],1)] (by decide);have hf:fnd (mkT [([97],1)]) [97]=some 1:=by rw[hrep.fnd];rfl
 have hsz:=mkT_sz [([97],1)];have hsz':sz (mkT [([97],1)])≤1:=hsz;generalize mkT [([97],1)]=T at*;have hl0:∀(k:Ky)(v:Nat),(fun _=>none:Ky→Option Nat) k=some v→v≤0:=fun k v h=>by cases h
 have hf0:∀k,(fun _=>none:List UInt8→Option Value) k≠none→k=[97]:=fun k h=>absurd O h
 have hd0:false=true→fnd T [97]=none→drop T [97]=T:=fun h=>by cases h
 refine gg20 ?_;refine uX (xA hE) O ?_;rintro _ _⟨t1,mr1,mc1,rfl,rfl⟩;simp only[uV,uW];refine gg1 ?_;refine uX (xA hE) O ?_;rintro _ _⟨t2,mr2,mc2,rfl,rfl⟩;simp only[uV,uW];refine gg8 ?_;refine uX (qVf (t:=t2) (mc:=mc2) (x:=[97]) (id:=2) hE (by decide) (by decide)) O ?_;rintro _ _⟨rfl,rfl⟩;simp only[uV,uW];refine gg9 ?_;refine uX (yV (t:=t2) (mr:=mr2) (mc:=mc2) (x:=[97]) (id:=2) (dp:=false) (n:=0) hE hq oO (by decide) hl0 hf0 hd0) O ?_;rintro _ _⟨B,q2,rfl,hq2,rfl⟩;simp only[uV,uW];refine gg10 ?_;refine uX (qVd (t:=t1) (mr:=mr1) (mc:=mc1) (x:=[97]) (Fc:=fun _=>none) hE (hq.more B) O (by decide) (by decide)) O ?_;rw[hf];rintro _ _⟨⟨w,hw,rfl⟩|⟨hw,rfl⟩,rfl⟩
 ·cases hw
  simp only[uV,uW];refine gg33 ?_;exact uZ O (.tmp O .nil) ⟨O,O⟩
 cases hw
end
section
open Go Go.RowKit Sl Eg
variable {E:Env}{Es:List Ent}{pp tb s m bm:Nat}{f:Int→Option Value}
def EncP (P:List (List UInt8×List UInt8))(B:List UInt8):Prop:=∃(L:List Rl)(l:List Im)(ids y:List Nat),EqL L l ids y∧imP l=P∧B=encB L (dD L y []) (nmY (mkN l ids) y)
def EncP.fn {P:List (List UInt8×List UInt8)}{B B':List UInt8}(h:EncP P B)(h':EncP P B'):B=B':=by
 obtain⟨L,l,ids,y,h1,e1,rfl⟩:=h;obtain⟨L',l',ids',y',h2,e2,rfl⟩:=h';exact h1.same h2 (e1.trans e2.symm)
def imA (tf:Nat→List UInt8)(A:List (List UInt8×Nat)):List Im:=A.map fun p=>⟨p.1,none,tf p.2,0⟩
def mkN_imA (tf:Nat→List UInt8)(A:List (List UInt8×Nat)):mkN (imA tf A) (A.map (·.2))=nmI A:=by
 unfold mkN imA nmI;rw[List.zip_map',mi];rfl
def eql_A {L:List Rl}{tf:Nat→List UInt8}{A:List (List UInt8×Nat)}{ys:List Nat}(hw:Wf L)(h:∀p∈A,Be L p.2 (tf p.2)) (hyl:ys.length=A.length) (hs:SigL L (rawN (nmI A)) ys):EqL L (imA tf A) (A.map (·.2)) ys:=by
 refine⟨hw,by simp[imA],by simp[imA,hyl],fun i x id hx hid=>?_,?_⟩
 ·unfold imA at hx;rw[bq]at hx hid;cases e:A[i]? with
  |none=>rw[e]at hx;cases hx
  |some p=>
   rw[e]at hx hid
   obtain rfl:=lm hx
   obtain rfl:=lm hid
   have:=h p (ay e)
   exact⟨this.ev.le,this.tx⟩
 have e:rawN (nmI A)=A.map (·.2):=by
  unfold rawN nmI;rw[mi];refine oD fun p _=>?_
  simp
 rwa [e]at hs
def qFh (hE:Seat E)(hB:Base E.w0){U:List Nat}{tf:Nat→List UInt8}{A:List (List UInt8×Nat)}{p:Option Addr}{c:Nat}(hM:MemS U Es f)(hk:A.length≤26)(hok:SgO Es.length (nmI A))(hX:∀q∈A,q.2∈U) (hb:∀q∈A,Be (rls Es) q.2 (tf q.2)):
  Ct E 14 [uPt m,.slice p (nmI A).length c] [cells pp [uPt s,uPt tb] 117,tabP tb s (rls Es),bR s 1048576 Es,cells m [uPt pp,.map (some bm)] 113,mapF bm .i64 f,sl p c 105 2 (nmI A).length (nlC (nmI A))]
   (fun v Q=>∃(M:List Ent)(f':Int→Option Value)(g d:Nat)(B:List UInt8),v= .tuple #[.slice (some ⟨g,0,none⟩) B.length d,.nilIface]∧EncP (A.map fun q=>(q.1,tf q.2)) B∧MemS U (Es++M) f'∧Q=[cells pp [uPt s,uPt tb] 117,tabP tb s (rls (Es++M)),bR s 1048576 (Es++M),cells m [uPt pp,.map (some bm)] 113,mapF bm .i64 f',sl p c 105 2 (nmI A).length (nlC (nmI A)),sl (some ⟨g,0,none⟩) d 5 1 B.length (byC B)]):=by
 refine eU (p:=sl p c 105 2 (nmI A).length (nlC (nmI A))) uK (fun _ h=>fun hpos=>fA h hpos) (fun hp=>?_);refine eU (p:=bR s 1048576 Es) uK (fun _ h=>(dS h).1) (fun hw=>?_);have hll:=jO A;have hLl:=bQ Es
 have hq:Rdb E.w0 p (nlC (nmI A)) (sl p c 105 2 (nmI A).length (nlC (nmI A))):=fun hne=>by
  obtain⟨g,rfl⟩:=hp (by
   rcases jr (nmI A).length with e| e
   ·exact absurd (bf nlC (dh e)) hne
   exact e)
  exact⟨g,0,O,qGj (fun _ _ h=>h)⟩
 have hlU:∀p∈nmI A,0≤p.2→p.2≤Es.length→p.2.toNat∈U:=fun p hp _ _=>by
  obtain⟨q,hq,rfl⟩:=fq.1 hp;exact hX q hq
 have key:=qFi (U:=U) (Es:=Es) (s:=s) (tb:=tb) (pp:=pp) (most:=1048576) (m:=m) (bm:=bm) (f:=f) (l:=nmI A) (a:=p) (ca:=c) hE hB hq oO hlU hM.ev hM.room hM.kn;refine fun R w hs=>(key R w hs).mono fun e w'⟨v,Qs,h1,h2,h3⟩=>⟨v,Qs,h1,?_,h3⟩
 rcases h2 with⟨e,he,rfl,rfl⟩|⟨M,f',y,g,d,B,ho,rfl,hB1,hM1, -,hk1,hy1,hs1,rfl⟩
 ·exact(he.not hok).elim
 have hw2:Wf (rls (Es++M)):=by
  have h4:=h3.take (p:=bR s 1048576 (Es++M)) uK;obtain⟨k1,k2,_,_,hp,_⟩:=h4.hp;exact(dS hp).1
 have he:=dA Es M;have hq2:=eql_A (tf:=tf) (A:=A) hw2 (fun q hq=>(hb q hq).more M) oO hs1;refine⟨M,f',g,d,B,O,⟨rls (Es++M),imA tf A,A.map (·.2),y,hq2,by unfold imP imA;rw[mi];rfl,by rw[mkN_imA];exact hB1⟩,⟨fun u hu=>?_,?_,hk1⟩,rfl⟩
 ·obtain⟨e1,e2⟩:=hM.ev u hu;rw[he];exact⟨e1.ext _,by rw[mI _ e1.le];exact e2⟩
 have:=hM.room;rw[he,pot_ext hw _ (fun u hu=>(hM.ev u hu).1),aa];omega
end
section
open Go Go.RowKit Sl Eg Pm
variable {E:Env}
def seL (F:Ky→Option Nat)(k:Nat):List (Ky×Nat):=(List.range k).filterMap fun i=>(F (nmW i)).map fun v=>(nmW i,v)
def rZ (F:Ky→Option Nat)(k:Nat):seL F (k+1)=seL F k++(match F (nmW k)with |none=>[]|some v=>[(nmW k,v)]):=by
 unfold seL;rw[wy,List.filterMap_append];cases e:F (nmW k)<;>simp[e]
def zM (F:Ky→Option Nat)(k:Nat):(seL F k).length≤k:=by
 unfold seL;have:=List.length_filterMap_le (fun i=>(F (nmW i)).map fun v=>(nmW i,v)) (List.range k);simpa using this
def qDz {F:Ky→Option Nat}{k:Nat}{x:Ky}{v:Nat}:(x,v)∈seL F k↔∃i,i<k∧x=nmW i∧F x=some v:=by
 unfold seL;rw[List.mem_filterMap];constructor
 ·rintro⟨i,hi,e⟩;cases h:F (nmW i)with
  |none=>rw[h]at e;cases e
  |some w=>
   rw[h]at e
   cases e
   exact⟨i,oQ.1 hi,O,h⟩
 rintro⟨i,hi,rfl,e⟩;exact⟨i,oQ.2 hi,by rw[e];rfl⟩
def qQi {i j:Nat}(h:i<j)(hj:j<26):cmpT (nmW i) (nmW j)<0:=by
 have key:∀j,j<26→∀i,i<j→cmpT (nmW i) (nmW j)<0:=by decide +kernel
 exact key j hj i h
def qOr (F:Ky→Option Nat):∀{k:Nat},k≤26→Srt (seL F k)
 |0,_=>List.Pairwise.nil
 |k+1,h=>by
  rw[rZ];refine qj.2 ⟨qOr F oO,?_,fun p hp q hq=>?_⟩
  ·cases F (nmW k)<;>simp
  obtain⟨i,hi,e,_⟩:=qDz.1 (show(p.1,p.2)∈seL F k from hp);cases e2:F (nmW k)with
  |none=>rw[e2]at hq;cases hq
  |some v=>
   rw[e2]at hq
   simp at hq
   subst hq
   rw[e]
   exact qQi hi oO
def qWm {T:Tre}{F:Ky→Option Nat}(h:Rep T F)(hF:∀x,F x≠none→∃i,i<26∧x=nmW i):io T=seL F 26:=srt_uniq h.srt (qOr F (ai _)) fun x w=>by
 rw[h.mem,qDz];constructor
 ·intro e;obtain⟨i,hi,rfl⟩:=hF x (by rw[e];simp);exact⟨i,hi,O,e⟩
 rintro⟨_,_,_,e⟩;exact e
structure SnG where
 i:Nat
 p:Option Addr
 c:Nat
 Fr:List UInt8→Option Value
def nmC_get {l:List (List UInt8)}{i:Nat}{x:List UInt8}(h:l[i]?=some x)(o:Nat)(ho:o=i):(nmC l)[o]?=some (.string ⟨⟨x⟩⟩):=by
 subst ho;simp[nmC,h]
def qSz:List (List UInt8):=(List.range 26).map nmW
def ct_seen (hE:Seat E)(hB:Base E.w0){Es:List Ent}{pp tb s m bm:Nat}{f:Int→Option Value}{U:List Nat}{tf:Nat→List UInt8}{A:Ar}{T:Tre}{F:Ky→Option Nat}{q:Option Nat}{b t n mr mc gn cn:Nat}(hat:At A T q)(hrep:Rep T F)(hM:MemS U Es f)
  (hok:SgO Es.length (nmI (seL F 26))) (hX:∀z∈seL F 26,z.2∈U) (hb:∀z∈seL F 26,Be (rls Es) z.2 (tf z.2)):
  Ct E 22 [uPt m,uPt t,.slice (some ⟨gn,0,none⟩) 26 cn] [cells pp [uPt s,uPt tb] 117,tabP tb s (rls Es),bR s 1048576 Es,cells m [uPt pp,.map (some bm)] 113,mapF bm .i64 f,cells t [uPt b,.int .i64 (n:Nat),pv q,.map (some mr),.map (some mc),.bool false] 156,fJ mr (fun _=>none),fJ mc (fun _=>none),ar A,sl (some ⟨gn,0,none⟩) cn 9 1 26 (nmC qSz)]
   (fun v Q=>∃(M:List Ent)(f':Int→Option Value)(g d:Nat)(B:List UInt8)(Fr:List UInt8→Option Value),v= .tuple #[.slice (some ⟨g,0,none⟩) B.length d,.bool true]∧EncP ((seL F 26).map fun z=>(z.1,tf z.2)) B∧MemS U (Es++M) f'∧Q=[cells pp [uPt s,uPt tb] 117,tabP tb s (rls (Es++M)),bR s 1048576 (Es++M),cells m [uPt pp,.map (some bm)] 113,mapF bm .i64 f',cells t [uPt b,.int .i64 (n:Nat),pv q,.map (some mr),.map (some mc),.bool false] 156,fJ mr Fr,fJ mc (fun _=>none),ar A,sl (some ⟨gn,0,none⟩) cn 9 1 26 (nmC qSz),sl (some ⟨g,0,none⟩) d 5 1 B.length (byC B)]):=by
 refine bO (hE.fn Tryz.func22) O O O (fun R=>?_);simp only[dX,uV,uW];refine gg18 ?_;refine iY (gU (t:=105) (sz:=2)) ?_;refine eQ (fun x:SnG=>[(0,uPt m),(1,uPt t),(2,.slice (some ⟨gn,0,none⟩) 26 cn),(8,.slice x.p (nmI (seL F x.i)).length x.c),(9,.int .i64 (x.i:Nat))]) (fun x=>[cells pp [uPt s,uPt tb] 117,tabP tb s (rls Es),bR s 1048576 Es,cells m [uPt pp,.map (some bm)] 113,mapF bm .i64 f,cells t [uPt b,.int .i64 (n:Nat),pv q,.map (some mr),.map (some mc),.bool false] 156,fJ mr x.Fr,fJ mc (fun _=>none),ar A,sl (some ⟨gn,0,none⟩) cn 9 1 26 (nmC qSz),sl x.p x.c 105 2 (nmI (seL F x.i)).length (nlC (nmI (seL F x.i))),R]) (fun x=>26-x.i) (fun x=>x.i≤26) ⟨0,none,0,fun _=>none⟩ (au _) ⟨O,O,O,O,O,trivial⟩ uI ?_;rintro⟨i,p',c',Fr⟩hi;simp only at hi ⊢;refine gg9 ?_;refine bE O (fun h1=>?_) (fun h1=>?_)
 ·have hi26:i<26:=oO;have hnm:qSz[i]?=some (nmW i):=by unfold qSz;rw[bq,mh hi26];rfl
  have f0:=nmC_get hnm (((i:Nat):Int).toNat) oO
  obtain⟨hv1,hv2⟩:1≤(nmW i).length∧(nmW i).length≤32:=by
   have:=xV ⟨i,hi26⟩;exact⟨this.1,this.2.1⟩
  have hfe:=hrep.fnd (nmW i);have hsl:=zM F i;have hnl:=jO (seL F i);refine gg11 ?_;refine uX (qVd (x:=nmW i) (Fr:=Fr) (Fc:=fun _=>none) hE hat O hv1 hv2) O ?_;rintro _ _⟨⟨w,hw,rfl⟩|⟨hw,rfl⟩,rfl⟩
  ·rw[hfe]at hw
   have hse:nlC (nmI (seL F (i+1)))=nlC (nmI (seL F i))++[.string ⟨⟨nmW i⟩⟩,.int .i64 (w:Nat)]:=by
    rw[rZ,hw];unfold nmI;rw[fw,qW];rfl
   have hsn:(nmI (seL F (i+1))).length=(nmI (seL F i)).length+1:=by rw[jO,jO,rZ,hw,aa];rfl
   simp only[uV,uW];refine gg11 ?_;refine uX (ct_Is_no hE (by decide)) O ?_;rintro _ _⟨rfl,rfl⟩;simp only[uV,uW];refine gg23 ?_;refine uU ?_;refine aU (hE.t O) (hE.t O) O O O (fun b40=>?_);refine uU ?_;apply bU (hE.t O) (hE.t O) O O O
   ·exact uK
   ·exact uK
   ·rfl
   ·rfl
   ·omega
   ·omega
   ·(unfold maxLen;omega)
   intro g41 c41 n41 x41 hn41 hx41;refine gg9 ?_;obtain rfl:n41=(nmI (seL F (i+1))).length:=by rw[hn41,hsn]
   obtain rfl:x41=nlC (nmI (seL F (i+1))):=by rw[hx41,hse];rfl
   refine bS (ι:=SnG) (j:=⟨i+1,some ⟨g41,0,none⟩,c41,_⟩) (by simp only;omega) (by simp only;omega) ⟨O,O,O,O,bf some (bW (by simp only;omega)),trivial⟩ (by
    simp only;(apply ent;(repeat constructor);done))
  rw[hfe]at hw;have hse:seL F (i+1)=seL F i:=by rw[rZ,hw];simp
  simp only[uV,uW];refine gg11 ?_;refine uX (ct_Is hE (by decide)) O ?_;rintro _ _⟨rfl,rfl⟩;simp only[uV,uW];refine gg12 ?_
  refine bS (ι:=SnG) (j:=⟨i+1,p',c',_⟩) (by simp only;omega) (by simp only;omega) ⟨O,O,O,by rw[hse];rfl,bf some (bW (by simp only;omega)),trivial⟩ (by
   simp only;rw[hse];(apply ent;(repeat constructor);done))
 obtain rfl:i=26:=by omega
 have hsl:=zM F 26;refine gg9 ?_;refine uX (qFh (U:=U) (tf:=tf) (A:=seL F 26) (p:=p') (c:=c') (Es:=Es) (s:=s) (pp:=pp) (tb:=tb) (m:=m) (bm:=bm) (f:=f) hE hB hM hsl hok hX hb) O ?_;rintro _ _⟨M,f',g,d,B,rfl,hEP,hM2,rfl⟩;simp only[uV,uW];refine gg17 ?_;exact uZ O (.tmp O (.tmp O .nil)) ⟨M,f',g,d,B,Fr,O,hEP,hM2,O⟩
end
section
open Go Go.RowKit Sl Eg
def underNm:Tryz.prog.underlying 105=some (.struct (Tryz.prog.fieldsOf 105)):=by kernel_rfl
def heldNm:Tryz.prog.stoodInHeld 105=false:=by kernel_rfl
def nmV (p:List UInt8×Nat):Value:= .agg #[.string ⟨⟨p.1⟩⟩,.int .i64 (p.2:Nat)]
def nm_equal (p:List UInt8×Nat)(w:World):(Op.equal 105 (nmV p) (nmV p)).run Tryz.prog w= .ok true w:=by
 obtain⟨a1,a2⟩:=p;have fieldsNm : ∃ x y, (Tryz.prog.fieldsOf 105).toList = [⟨"Name", 9, 0, false, x, y, 0⟩, ⟨"Text", 56, 1, false, x, y, 16⟩] := ⟨"", "", by kernel_rfl⟩;obtain⟨x,y,hf⟩:=fieldsNm;unfold Op.equal Op.maxDepth nmV;rw[show(10000:Nat)=9999+1 from rfl,run_equalIn_struct _ _ _ _ _ underNm heldNm,hf];simp only[Op.eqFields];simp[go_sem]
variable {E:Env}
def y_ne_nm (hE:Seat E){n:Nat}{L:Fr}{S:List HP}{ty:TypeId}{pos:String}{af:Array Edge}{d:Option Nat}{gd:Option (Nat×Bool)}{x y:Operand}{yt:TypeId}{p:List UInt8×Nat}(hx:ev L x=some (nmV p))(hy:ev L y=some (nmV p)):
  Yl E n L S ⟨d,.binOp .neq 105 x y yt,ty,pos,af,gd⟩ (.bool false):=fun ac w g _=>by
 have h1:(eqGuard .neq 105 x y (nmV p) (nmV p)).run E.P w= .ok () w:=by
  have hg:E.P.eqGuardType E.P.depth 105=false:=by rw[hE.P];kernel_rfl
  unfold eqGuard nmV;simp[program,Sem.run,hg]
 have h2:binOp .neq 105 (nmV p) (nmV p)=(do pure (.bool (!(←Op.equal 105 (nmV p) (nmV p))))):=rfl;have h3:=nm_equal p w;rw[←hE.P]at h3;simp[execOp,h1,h2,h3,g.ev hx,g.ev hy]
end
section
open Go Go.RowKit Sl Eg Pm
variable {E:Env}
def nowC (F:Ky→Option Nat):List Value:=(List.range 26).map fun i=>match F (nmW i)with |none=> .int .i64 (-1)|some v=> .int .i64 (v:Nat)
def mQ (F:Ky→Option Nat):(nowC F).length=26:=by simp[nowC]
def qDm (F:Ky→Option Nat){i:Nat}(h:i<26):(nowC F)[i]?=some (match F (nmW i)with |none=> .int .i64 (-1)|some v=> .int .i64 (v:Nat)):=by
 unfold nowC;rw[bq,mh h];rfl
def qDk {i j:Nat}(hi:i<26)(hj:j<26)(h:nmW i=nmW j):i=j:=by
 rcases ql i j with hl|hl|hl
 ·exact absurd h (pI (qQi hl hj))
 ·exact hl
 exact absurd h.symm (pI (qQi hl hi))
def qQk (F:Ky→Option Nat){i v:Nat}(h:i<26):(nowC F).set i (.int .i64 (v:Nat))=nowC (pu F (nmW i) v):=by
 apply nu;intro j;rcases ed j 26 with hj|hj
 ·rw[qDm _ hj,List.getElem?_set,qDm _ hj];by_cases e:i=j
  ·subst e;simp[pu,mQ,h]
  have:nmW j≠nmW i:=fun e2=>e (qDk h hj e2.symm)
  simp[pu,e,this]
 rw[ig (by simp[mQ];omega),ig (by simp[mQ];omega)]
def qXk (F:Ky→Option Nat){i:Nat}(h:i<26):(nowC F).set i (.int .i64 (-1))=nowC (dr F (nmW i)):=by
 apply nu;intro j;rcases ed j 26 with hj|hj
 ·rw[qDm _ hj,List.getElem?_set,qDm _ hj];by_cases e:i=j
  ·subst e;simp[dr,mQ,h]
  have:nmW j≠nmW i:=fun e2=>e (qDk h hj e2.symm)
  simp[dr,e,this]
 rw[ig (by simp[mQ];omega),ig (by simp[mQ];omega)]
def now_fill {k:Nat}(h:k<26):(List.replicate k (Value.int .i64 (-1))++List.replicate (26-k) (Value.int .i64 0)).set k (.int .i64 (-1))=List.replicate (k+1) (.int .i64 (-1))++List.replicate (26-(k+1)) (Value.int .i64 0):=by
 rw[List.set_append_right _ _ (by simp),ng,oW,show 26-k=(26-(k+1))+1 by omega,cu,List.set_cons_zero,lg];simp
def now_none:List.replicate 26 (Value.int .i64 (-1))=nowC (fun _=>none):=by
 unfold nowC;rfl
end
section
open Go Go.RowKit Sl Eg Pm
def wpC:List (Int×Int)→List Value
 |[]=>[]
 |p::l=> .int .i64 p.1:: .int .i64 p.2::wpC l
def zY:∀l,(wpC l).length=l.length*2
 |[]=>rfl
 |p::l=>by simp[wpC,zY l];omega
def qZr {l:List (Int×Int)}{i:Nat}{p:Int×Int}(h:l[i]?=some p)(o:Nat)(ho:o=i*2):(wpC l)[o]?=some (.int .i64 p.1)∧(wpC l)[o+1]?=some (.int .i64 p.2):=by
 subst ho;induction l generalizing i with
 |nil=>simp at h
 |cons x r ih=>
  cases i with
  |zero=>obtain rfl:x=p:=by simpa using h
         exact⟨O,O⟩
  |succ i=>
   obtain⟨h1,h2⟩:=ih (i:=i) (by simpa using h)
   exact⟨by rw[show(i+1)*2=i*2+1+1 by omega];simpa[wpC]using h1,by rw[show(i+1)*2+1=i*2+1+1+1 by omega];simpa[wpC]using h2⟩
def wpC_ne {l:List (Int×Int)}(h:0<l.length):wpC l≠[]:=fun e=>by
 have:=bf List.length e;rw[zY]at this;simp at this;omega
def lsFW (ids:List Nat):Nat→Ky→Option Nat
 |0=>fun _=>none
 |i+1=>pu (lsFW ids i) (nmW i) (idW ids i)
def stW (ids:List Nat)(F:Ky→Option Nat)(w:Int×Int):Ky→Option Nat:=if w.2<0 then dr F (nmW (pick w.1 26))else pu F (nmW (pick w.1 26)) (idW ids (w.2.toNat%ids.length))
def ruW (ids:List Nat)(F:Ky→Option Nat)(ws:List (Int×Int)):Ky→Option Nat:=ws.foldl (stW ids) F
def qQw {ids:List Nat}{F:Ky→Option Nat}{ws:List (Int×Int)}{i:Nat}{w:Int×Int}(h:ws[i]?=some w):ruW ids F (ws.take (i+1))=stW ids (ruW ids F (ws.take i)) w:=by
 unfold ruW;rw[ic,h,oo];rfl
def qQx (ids:List Nat)(F:Ky→Option Nat)(ws:List (Int×Int)):ruW ids F (ws.take 0)=F:=by
 rw[nk];rfl
def Fok (ids:List Nat)(F:Ky→Option Nat):Prop:=∀x v,F x=some v→(∃i,i<26∧x=nmW i)∧v∈ids
def Fok.nil (ids:List Nat):Fok ids (fun _=>none):=fun _ _ h=>by cases h
def Fok.pu {ids:List Nat}{F:Ky→Option Nat}(h:Fok ids F){i v:Nat}(hi:i<26)(hv:v∈ids):Fok ids (pu F (nmW i) v):=fun x w e=>by
 unfold Pm.pu at e;split at e
 ·rename_i hx
  cases e
  exact⟨⟨i,hi,hx⟩,hv⟩
 exact h x w e
def Fok.dr {ids:List Nat}{F:Ky→Option Nat}(h:Fok ids F)(k:Ky):Fok ids (dr F k):=fun x w e=>by
 unfold Pm.dr at e;split at e
 ·cases e
 exact h x w e
def qWk {ids:List Nat}{i:Nat}(h:i<ids.length):idW ids i∈ids:=by
 rw[qAg (ag h)];exact List.getElem_mem h
def Fok.ls {ids:List Nat}:∀{i:Nat},i≤ids.length→i≤26→Fok ids (lsFW ids i)
 |0,_,_=>Fok.nil ids
 |i+1,h,h2=>(Fok.ls (i:=i) oO oO).pu oO (qWk oO)
def qXr (k:Int):pick k 26<26:=lG _ oO
def Fok.st {ids:List Nat}{F:Ky→Option Nat}(h:Fok ids F)(hn:1≤ids.length)(w:Int×Int):Fok ids (stW ids F w):=by
 unfold stW;split
 ·exact h.dr _
 exact h.pu (qXr _) (qWk (pm _ oO))
def Fok.ru {ids:List Nat}(hn:1≤ids.length):∀(ws:List (Int×Int)){F:Ky→Option Nat},Fok ids F→Fok ids (ruW ids F ws)
 |[],_,h=>h
 |w::ws,_,h=>Fok.ru hn ws (h.st hn w)
def Fok.dom {ids:List Nat}{F:Ky→Option Nat}(h:Fok ids F):∀x,F x≠none→∃i,i<26∧x=nmW i:=fun x hx=>by
 cases e:F x with
 |none=>exact absurd e hx
 |some v=>exact(h x v e).1
def lsN (ids:List Nat)(m:Nat):List (Ky×Nat):=(List.range m).map fun i=>(nmW i,idW ids i)
def lsN_len (ids:List Nat)(m:Nat):(lsN ids m).length=m:=by simp[lsN]
def qQf (ids:List Nat)(m:Nat):lsN ids (m+1)=lsN ids m++[(nmW m,idW ids m)]:=by
 unfold lsN;rw[wy,fw];rfl
def lsN_I (ids:List Nat)(m:Nat):nmI (lsN ids m)=lsW ids m:=by
 unfold nmI lsN lsW;rw[mi];rfl
def qWv {ids:List Nat}{m:Nat}{p:Ky×Nat}(h:p∈lsN ids m):∃i,i<m∧p=(nmW i,idW ids i):=by
 obtain⟨i,hi,e⟩:=fq.1 h;exact⟨i,oQ.1 hi,e.symm⟩
def qWx {ids:List Nat}{m:Nat}(hm:m≤26):∀p∈lsN ids m,1≤p.1.length∧p.1.length≤32:=fun p hp=>by
 obtain⟨i,hi,rfl⟩:=qWv hp;have:=xV ⟨i,oO⟩;exact⟨this.1,this.2.1⟩
def qLk (ids:List Nat):∀{m:Nat},m≤26→((lsN ids m).map (·.1)).Nodup
 |0,_=>List.nodup_nil
 |m+1,h=>by
  rw[qQf,fw];refine oH.2 ⟨qLk ids oO,by simp,fun a ha b hb e=>?_⟩;obtain⟨p,hp,rfl⟩:=fq.1 ha;obtain⟨i,hi,rfl⟩:=qWv hp;simp at hb;subst hb;exact absurd (qDk oO oO e) oO
def qWw (ids:List Nat):∀m,Pm.Rep (mkT (lsN ids m)) (lsFW ids m)
 |0=>Pm.Rep.nil
 |m+1=>by
  rw[qQf,qIb];exact(qWw ids m).put _ _
def qXi {i j:Nat}(h:i<j)(hj:j<26):Op.bytesLess (nmW i) (nmW j)=true:=by
 have key:∀j,j<26→∀i,i<j→Op.bytesLess (nmW i) (nmW j)=true:=by decide +kernel
 exact key j hj i h
def seL_ok {ids:List Nat}{F:Ky→Option Nat}{n:Nat}(h:Fok ids F)(hn:∀u∈ids,u≤n):SgO n (nmI (seL F 26)):=by
 have hm:∀p∈nmI (seL F 26),∃i v,i<26∧v∈ids∧p=(nmW i,((v:Nat):Int)):=fun p hp=>by
  obtain⟨⟨x,v⟩,hq,rfl⟩:=fq.1 hp;obtain⟨i,hi,rfl,e⟩:=qDz.1 hq;exact⟨i,v,hi,(h _ _ e).2,O⟩
 refine⟨fun p hp=>?_,fun i p q hi h1 h2=>?_,fun p hp=>?_⟩
 ·obtain⟨i,v,hi,_,rfl⟩:=hm p hp;exact xV ⟨i,hi⟩
 ·obtain⟨a,v,ha,_,rfl⟩:=hm p (ay h1);obtain⟨b,w,hb,_,rfl⟩:=hm q (ay h2);have hs:=qOr F (ai 26);unfold nmI at h1 h2;rw[bq]at h1 h2;cases e1:(seL F 26)[i]? with
  |none=>rw[e1]at h1;cases h1
  |some p1=>
   cases e2:(seL F 26)[i+1]? with
   |none=>rw[e2]at h2;cases h2
   |some p2=>
    rw[e1]at h1
    rw[e2]at h2
    have g1:=lm h1
    have g2:=lm h2
    have n1:p1.1=nmW a:=bf Prod.fst g1
    have n2:p2.1=nmW b:=bf Prod.fst g2
    have hlt:cmpT (nmW a) (nmW b)<0:=by
     rw[←n1,←n2];obtain⟨k1,q1⟩:=ae.1 e1;obtain⟨k2,q2⟩:=ae.1 e2;have:=rq.1 hs i (i+1) k1 k2 oO;rw[q1,q2]at this;exact this
    refine qXi (zg fun hba=>?_) hb
    rcases ed b a with hba2|hab
    ·exact absurd (qHz hlt (qQi hba2 ha)) (fun e=>pI e O)
    obtain rfl:a=b:=by omega
    exact pI hlt O
 obtain⟨i,v,_,hv,rfl⟩:=hm p hp;have:=hn v hv;simp only;omega
def qUd {T:Tre}{F:Ky→Option Nat}(h:Pm.Rep T F)(x:Ky)(id:Nat)(dp:Bool):Pm.Rep (chT T x id dp) (if dp=true then dr F x else pu F x id):=by
 unfold chT;split
 ·exact h.drop x
 exact h.put x id
def dr_none {F:Ky→Option Nat}{k:Ky}(h:F k=none):dr F k=F:=by
 funext x;unfold dr;split
 ·rename_i e;rw[e,h]
 rfl
def szW {T:Tre}{ids:List Nat}{F:Ky→Option Nat}(h:Pm.Rep T F)(hF:Fok ids F):sz T≤26:=by
 have h1:=vV T;rw[qWm h hF.dom]at h1;have:=zM F 26;omega
end
