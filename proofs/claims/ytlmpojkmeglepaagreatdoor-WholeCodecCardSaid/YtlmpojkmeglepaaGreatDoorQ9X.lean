import Derived.Test.YtlmpojkmeglepaaGreatDoorQ9W
import Derived.Test.YtlmpojkmeglepaaGreatDoorQ9Y
set_option linter.all false
set_option maxHeartbeats 1000000
namespace Go.Proofs.YtlmpojkmeglepaaGreatDoor
section
open Go Go.RowKit Sl Eg
set_option maxRecDepth 10000
variable {E:Env}
def Bes.cons {L:List Rl}{ids:List Nat}{ts:List (List UInt8)}(h:Bes L ids ts){id:Nat}{t:List UInt8}(hb:Be L id t):Bes L (id::ids) (t::ts):=by
 refine⟨by simp[h.1],fun i id' t' h1 h2=>?_⟩;cases i with
 |zero=>
  simp at h1 h2
  subst h1 h2
  exact hb
 |succ i=>
  simp at h1 h2
  exact h.2 i id' t' h1 h2
def Bes.at3 {L:List Rl}{ids:List Nat}{ts:List (List UInt8)}(h:Bes L ids ts){u:Nat}(hu:u∈ids):∃t,t∈ts∧Be L u t:=by
 obtain⟨i,hi⟩:=jy hu;have hl:=(ae.1 hi).1;obtain⟨t,ht⟩:∃t,ts[i]?=some t:=⟨_,ag (by rw[←h.1];exact hl)⟩;exact⟨t,ak ht,h.2 i u t hi ht⟩
structure WcG where
 k:Nat
 N:List Ent
 os:List Nat
 p:Option Addr
 c:Nat
def qEm (hE:Seat E)(hB:Base E.w0){l:List TMk}{a:Option Addr}{c:Nat}{q:HP}(hq:Rdb E.w0 a (mkVs l) q)(hl:l.length≤9223372036854775807)(hx:∀x∈l,x.ok):
  Ct E 3 [.slice a l.length c] [q] (fun v Q=>v= .bool true∧Q=[q]):=by
 refine bO (hE.fn Tryz.func3) O O O (fun R=>?_);simp only[dR,uV,uW];refine gg8 ?_;refine uX (qTx hE) O ?_;rintro _ _⟨rfl,rfl⟩;simp only[uV,uW];refine gg3 ?_;refine uX (qRd hE hB) O ?_;rintro _ _⟨rfl,rfl⟩;simp only[uV,uW];refine gg11 ?_;refine uX (qOe hE hq hl hx) O ?_;rintro _ _⟨s,M,ids,p1,p2,c1,c2,rfl,hM,hbes,rfl⟩
 have hn30:(plns [] (l.take 30)).length≤30:=by
  have:=qBi (l.take 30) [];rw[ig,fw]at this;omega
 have hsh:∀t∈plns [] (l.take 30),t.length≤400:=vQ _ _ (fun t h=>by cases h);generalize plns [] (l.take 30)=ts at*;obtain⟨n,hn⟩:∃n,ts.length=n:=⟨_,rfl⟩;rw[hn]at hn30 ⊢;have hil:ids.length=n:=by rw[hbes.1,hn]
 simp only[uV,uW];refine gg24 ?_;refine uX (qFg (Es:=M) (s:=s) (most:=1048576) hE) O ?_;rintro _ _⟨pp,tb,rfl,rfl⟩;simp only[uV,uW];refine uX (qJr hE) O ?_;rintro _ _⟨mm,bm,rfl,rfl⟩;simp only[uV,uW];refine gg1 ?_;refine uX (qCd hE hil) O ?_;rintro _ _⟨p3,c3,rfl,rfl⟩;obtain⟨m,hm⟩:∃m,min n 26=m:=⟨_,rfl⟩;rw[hm];have hm26:m≤26:=oO;have hmn:m≤n:=oO;have hll:=wK ids m;simp only[uV,uW];refine mX (p:=sl p3 c3 53 2 (lsW ids m).length (nlC (lsW ids m))) uK (fun _ h=>fun hpos=>eF h hpos) ?_;intro hp3;refine mX (p:=bR s 1048576 M) uK (fun _ h=>(dP h).1) (fun hw=>?_)
 have hU:∀u∈ids,Ev (rls M) u∧len (rls M) u≤400:=fun u hu=>by
  obtain⟨t,ht,hb⟩:=hbes.at3 hu;exact⟨hb.ev,by unfold len;rw[hb.tx];exact hsh t ht⟩
 have hin:∀i,i<m→idW ids i∈ids:=fun i hi=>by
  rw[xO (ag (by omega:i<ids.length))];exact zb _
 have hidM:∀i,i<m→idW ids i≤M.length:=fun i hi=>by
  have:=(hU _ (hin i hi)).1.le;rwa [bQ]at this
 have hbeM:∀i,i<m→Be (rls M) (idW ids i) (ts.getD i []):=fun i hi=>by
  obtain⟨t,ht⟩:∃t,ts[i]?=some t:=⟨_,ag oO⟩;obtain⟨id,hid,hb⟩:=hbes.at ht;rw[xO hid,iq,ht];exact hb
 have hpot:=qPo hw (f:=fun _=>none) ids hU;rw[hil]at hpot;have hroom:M.length+pot' (rls M) (fun _=>none) ids≤1048576:=oO
 have hql:Rdb E.w0 p3 (nlC (lsW ids m)) (sl p3 c3 53 2 (lsW ids m).length (nlC (lsW ids m))):=fun hne=>by
  obtain⟨g,rfl⟩:=hp3 (by
   rcases fe (lsW ids m).length with e| e
   ·exact absurd (bg nlC (az e)) hne
   exact e)
  exact⟨g,0,O,qV (fun _ _ h=>h)⟩
 have hlU:∀p∈lsW ids m,0≤p.2→p.2≤M.length→p.2.toNat∈ids:=fun p hp _ _=>by
  obtain⟨i,hi,rfl⟩:=qHq hp;exact hin i hi
 refine uX (yO (U:=ids) (Es:=M) (s:=s) (tb:=tb) (pp:=pp) (most:=1048576) (m:=mm) (bm:=bm) (f:=fun _=>none) (l:=lsW ids m) (a:=p3) (ca:=c3) (q:=sl p3 c3 53 2 (lsW ids m).length (nlC (lsW ids m))) hE hB hql oO hlU hU hroom (Kn.nil _)) O ?_;rintro _ _(⟨e,he,rfl,rfl⟩|⟨M1,f1,y1,g1,d1,B1,ho,rfl,hB1,hM1, -,hk1,hy1,hs1,rfl⟩)
 ·exact(he.not (lsW_ok hm26 hidM)).elim
 simp only[uV,uW];refine mX (p:=bR s 1048576 (M++M1)) uK (fun _ h=>(dP h).1) (fun hw1=>?_);rw[hll]at hy1;have hE1:rls (M++M1)=rls M++rls M1:=dB _ _;have q1:EqL (rls (M++M1)) (itW ts m) (idT ids m) y1:=eql_W hw1 hy1 (fun i hi=>(hbeM i hi).more M1) hs1;have hB1':B1=encB (rls (M++M1)) (dD (rls (M++M1)) y1 []) (nmY (mkN (itW ts m) (idT ids m)) y1):=by rw[hB1,enc_W]
 refine gg9 ?_;refine uX (qOk hE) O ?_;rintro _ _⟨m2,bm2,pp2,s2,tb2,rfl,rfl⟩;simp only[uV,uW];refine gg3 ?_;refine uU (dA (hE.t O) (fun b9=>?_));refine gg35 ?_;refine gP (p:=sl p2 c2 9 1 n (tsC ts)) uK (fun _ h=>fun hpos=>eF h hpos) ?_;intro hp2;refine iB (gW (t:=44) (sz:=1)) ?_;refine dW (fun x:WcG=>[(4,.slice p1 n c1),(5,.slice p2 n c2),(7,.slice (some ⟨g1,0,none⟩) B1.length d1),(9,uPt b9),(10,.slice x.p x.os.length x.c),(11,.int .i64 ((x.k:Int)-1))]) (fun x=>[cells pp2 [uPt s2,uPt tb2] 97,tabP tb2 s2 (rls x.N),bR s2 1048576 x.N,cells m2 [uPt pp2,.map (some bm2)] 93,mapF bm2 .i64 (fun _=>none),cells b9 [uPt s2,uPt m2] 41,sl p1 c1 44 1 n (idC ids),sl p2 c2 9 1 n (tsC ts),sl (some ⟨g1,0,none⟩) d1 5 1 B1.length (byC B1),sl x.p x.c 44 1 x.os.length (idC x.os),q,R]) (fun x=>x.k) (fun x=>x.k≤n∧x.N.length≤800*(n-x.k)∧Bes (rls x.N) x.os (ts.drop x.k)) ⟨n,[],[],none,0⟩ ⟨ai _,av _,by rw[←hn,oo];exact⟨rfl,fun i id t h=>by simp at h⟩⟩ ⟨rfl,rfl,rfl,rfl,rfl,rfl,trivial⟩ uI ?_;rintro⟨k,N,os,po,co⟩⟨hk,hN,hos⟩;simp only at hk hN hos ⊢;refine gP (p:=sl po co 44 1 os.length (idC os)) uK (fun _ h=>fun hpos=>eF h hpos) ?_;intro hpo;refine gg7 ?_;refine bE O (fun h1=>?_) (fun h1=>?_)
 ·obtain⟨t,ht⟩:∃t,ts[k-1]?=some t:=⟨_,ag oO⟩;have ht4:=hsh t (ak ht);obtain⟨gt,rfl⟩:=hp2 oO;have f0:=wQ ht (0+((k:Int)-1).toNat) oO;have f1':=wQ ht (((k:Int)-1).toNat) oO;refine gg5 ?_;refine uH ([cells b9 [uPt s2,uPt m2] 41,sl (some ⟨gt,0,none⟩) c2 9 1 n (tsC ts)]) ?_;apply bG 0 O
  ·(first |(apply bV rfl (hE.t rfl) rfl;(repeat(first |rfl|assumption|constructor));done)|(apply y_load_agg_old rfl (hE.t rfl) rfl;assumption))
  ·with_reducible (repeat(first |exact aF|apply aG|apply aH))
  ·kernel_rfl
  ·rfl
  refine gg4 ?_;apply dH 5 O oK O;refine uC (ct_tId (Es:=N) (s:=s2) (most:=1048576) (m:=m2) (t:=t) hE oO oO) O ?_;rintro _ _⟨N1,id,rfl,hN1,hid,rfl⟩;simp only[uV,uW];refine uE ?_;refine gg17 ?_;refine iB (cO (p:=tabP tb2 s2 (rls N)) (p':=tabP tb2 s2 (rls (N++N1))) uK (fun _ h=>by rw[dB];exact lT (rls N1) h)) ?_;refine gg2 ?_;refine uU ?_;refine aU (hE.t O) (hE.t O) O O O (fun b75=>?_);refine gg1 ?_;refine qO (cO (p:=cells b75 [.int .i64 (id:Nat)] 44) (p':=sl (some ⟨b75,0,none⟩) 1 44 1 1 (idC [id])) uK (eG O (by unfold maxLen;omega))) ?_;have hol:os.length=n-k:=by have:=hos.1;rw[iw]at this;omega
  have hro:Rdb E.w0 po (idC os) (sl po co 44 1 os.length (idC os)):=qVt (by simp[idC]) hpo;have hoc:os.length=(idC os).length:=by simp[idC]
  have hon:∀u∈idC os,u.oneCell'=true:=fun u h=>by obtain⟨x,_,rfl⟩:=jg.1 h;rfl
  have hb5:(1+(idC os).length)*8≤140737488355328:=oO;have hb6:1+(idC os).length≤maxLen:=by unfold maxLen;omega
  refine uU ?_;refine xR (us:=idC os) (q:=sl po co 44 1 os.length (idC os)) (hE.t O) (hE.t O) O O O hoc hro uK uK hon hb5 hb6 (fun pt ct m9 x9 hm9 hx9=>?_);obtain rfl:m9=(id::os).length:=by rw[ax];omega
  obtain rfl:x9=idC (id::os):=hx9;refine gg9 ?_
  have hdr:ts.drop (k-1)=t::ts.drop k:=by
   rw[List.drop_eq_getElem?_toList_append,ht,show k-1+1=k by omega];rfl
  refine bS (ι:=WcG) (j:=⟨k-1,N++N1,id::os,pt,ct⟩) ⟨by simp only;omega,by simp only[aa];omega,by simp only;rw[hdr];exact(hos.more N1).cons hid⟩ (by simp only;omega) ⟨rfl,rfl,rfl,rfl,rfl,bg some (bW (by simp only;omega)),trivial⟩ uI
 obtain rfl:k=0:=by omega
 rw[oN]at hos;have hosl:os.length=n:=by rw[hos.1,hn]
 have hN2:N.length≤24000:=oO;have hll2:=wK os m;refine gg6 ?_;refine uH ([cells b9 [uPt s2,uPt m2] 41]) ?_;refine gg3 ?_;apply dH 3 O oK O;refine uC (qCd (q:=po) (cq:=co) (ids:=os) hE O) O ?_;rintro _ _⟨p4,c4,rfl,rfl⟩;rw[hosl,hm];simp only[uV,uW];refine uE ?_;apply dH 4 O oK O;refine ld_say (p:=sl p4 c4 53 2 (lsW os m).length (nlC (lsW os m))) uK (fun _ h=>fun hpos=>eF h hpos) (fun hp4=>?_);refine ld_say (p:=bR s2 1048576 N) uK (fun _ h=>(dP h).1) (fun hwN=>?_)
 have hU2:∀u∈os,Ev (rls N) u∧len (rls N) u≤400:=fun u hu=>by
  obtain⟨t,ht,hb⟩:=hos.at3 hu;exact⟨hb.ev,by unfold len;rw[hb.tx];exact hsh t ht⟩
 have hin2:∀i,i<m→idW os i∈os:=fun i hi=>by
  rw[xO (ag (by omega:i<os.length))];exact zb _
 have hidM2:∀i,i<m→idW os i≤N.length:=fun i hi=>by
  have:=(hU2 _ (hin2 i hi)).1.le;rwa [bQ]at this
 have hbeM2:∀i,i<m→Be (rls N) (idW os i) (ts.getD i []):=fun i hi=>by
  obtain⟨t,ht⟩:∃t,ts[i]?=some t:=⟨_,ag oO⟩;obtain⟨id,hid,hb⟩:=hos.at ht;rw[xO hid,iq,ht];exact hb
 have hpot2:=qPo hwN (f:=fun _=>none) os hU2;rw[hosl]at hpot2;have hroom2:N.length+pot' (rls N) (fun _=>none) os≤1048576:=oO
 have hql2:Rdb E.w0 p4 (nlC (lsW os m)) (sl p4 c4 53 2 (lsW os m).length (nlC (lsW os m))):=fun hne=>by
  obtain⟨g,rfl⟩:=hp4 (by
   rcases fe (lsW os m).length with e| e
   ·exact absurd (bg nlC (az e)) hne
   exact e)
  exact⟨g,0,O,qV (fun _ _ h=>h)⟩
 have hlU2:∀p∈lsW os m,0≤p.2→p.2≤N.length→p.2.toNat∈os:=fun p hp _ _=>by
  obtain⟨i,hi,rfl⟩:=qHq hp;exact hin2 i hi
 refine uC (yO (U:=os) (Es:=N) (s:=s2) (tb:=tb2) (pp:=pp2) (most:=1048576) (m:=m2) (bm:=bm2) (f:=fun _=>none) (l:=lsW os m) (a:=p4) (ca:=c4) (q:=sl p4 c4 53 2 (lsW os m).length (nlC (lsW os m))) hE hB hql2 oO hlU2 hU2 hroom2 (Kn.nil _)) O ?_;rintro _ _(⟨e,he,rfl,rfl⟩|⟨M2,f2,y2,g2,d2,B2,ho2,rfl,hB2,hM2, -,hk2,hy2,hs2,rfl⟩)
 ·exact(he.not (lsW_ok hm26 hidM2)).elim
 simp only[uV,uW];refine uE ?_;refine gg7 ?_;refine gP (p:=bR s2 1048576 (N++M2)) uK (fun _ h=>(dP h).1) ?_;intro hw2;refine gP (p:=sl (some ⟨g1,0,none⟩) d1 5 1 B1.length (byC B1)) uK (fun _ h=>(lS h).1) ?_;intro hc1;rw[hll2]at hy2;have q2:EqL (rls (N++M2)) (itW ts m) (idT os m) y2:=eql_W hw2 hy2 (fun i hi=>(hbeM2 i hi).more M2) hs2;have hB2':B2=B1:=by rw[hB2,enc_W,hB1',q2.same q1 rfl]
 subst hB2';obtain⟨hP,hG8,hti,hlv⟩:=prop_W q1 hm26 hsh;have hAm:=len_W q1
 have hB3:B2=encA (gram (rls (M++M1)) (dD (rls (M++M1)) y1 [])) (nmA (itW ts m) (y1.map (numb (dD (rls (M++M1)) y1 [])))):=by
  rw[hB1',q1.enc];rfl
 have hsame:∀{G:List Rl}{A:List (List UInt8×Nat)}{L:List Rl}{Z:List Nat},Prop50 G A→Wf L→DcI G L G.length Z→(imP (gotL L Z A)=imP (itW ts m)↔encA G A=B2):=fun h1 h2 h3=>by
  rw[hB1'];exact h1.same h2 h3 q1
 generalize nmA (itW ts m) (y1.map (numb (dD (rls (M++M1)) y1 [])))=A0 at*;generalize gram (rls (M++M1)) (dD (rls (M++M1)) y1 [])=G0 at*
 have hBl:B2.length≤1099511627776:=by
  have h1:=qOs G0 0 hti oO
  have h2:=qOu A0 (fun p hp=>by
   have:=hP.names p hp;have:=this.1.2.1;omega)
  have h3:=fG (n:=G0.length) oO;have h4:=fG (n:=A0.length) oO;rw[hB3];simp only[encA,aa];omega
 have hNM:(N++M2).length=N.length+M2.length:=aa;have hqB:Rdb E.w0 (some ⟨g1,0,none⟩) (byC B2) (sl (some ⟨g1,0,none⟩) d1 5 1 B2.length (byC B2)):=fun _=>⟨g1,0,O,qV (fun _ _ h=>h)⟩
 have hqB2:Rdb E.w0 (some ⟨g2,0,none⟩) (byC B2) (sl (some ⟨g2,0,none⟩) d2 5 1 B2.length (byC B2)):=fun _=>⟨g2,0,O,qV (fun _ _ h=>h)⟩
 refine gg5 ?_;refine uX (qQs (Es:=N++M2) (s:=s2) (most:=1048576) (tb:=tb2) (pp:=pp2) (m:=m2) (bm:=bm2) (G:=G0) (A:=A0) (Bs:=B2) (c:=d1) hE hB hP.wf hP.ok oO hti hP.names hP.ord oO (fun p hp=>(hP.names p hp).2) (fun j h1 h2=>⟨hlv j h1 h2,(hP.sig j h1 h2).2⟩) (fun j h1 h2=>(hP.sig j h1 h2).1) hP.vis hB3 hqB hc1 hBl oO) O ?_;rintro _ _⟨M3,Z,p6,c6,rfl,hM3,hD,rfl⟩;simp only[uV,uW];refine gg24 ?_;refine uX (qGu (c:=d1) (d:=d2) hE hqB hqB2) O ?_;rintro _ _⟨rfl,rfl⟩;rw[mr (show B2=B2 from rfl)];simp only[uV,uW];refine gg11 ?_;refine uX (qCd (q:=p1) (cq:=c1) (ids:=ids) hE hil) O ?_;rintro _ _⟨p5,c5,rfl,rfl⟩;rw[hm];simp only[uV,uW];refine gg7 ?_;refine bE O (fun h2=>?_) (fun h2=>?_)
 ·exfalso;omega
 refine gP (p:=bR s2 1048576 (N++M2++M3)) uK (fun _ h=>(dP h).1) ?_;intro hw3;have himp:=(hsame hP hw3 hD).2 hB3.symm;have heq:=hP.eql hw3 hD;have hsgl:=hP.sgl hw3 hD;have hsgo:=hP.sgo hw3 hD;have hWl:(N++M2++M3).length≤420000:=by rw[aa];omega
 have hk3:Kn (rls (N++M2++M3)) f2:=by rw[dB (N++M2)];exact hk2.ext _
 have hitem:∀i,i<m→∃x:Nat,(nmI (A0.map fun p=>(p.1,zat Z p.2)))[i]?=some (nmW i,(x:Int))∧x≤(N++M2++M3).length∧txt (rls (N++M2++M3)) x=ts.getD i []:=fun i hi=>by
  obtain⟨p,hp,e1,e2⟩:=got_W himp hi;refine⟨zat Z p.2,?_,?_,e2⟩
  ·unfold nmI;rw[lw,bi,hp,←e1];rfl
  have h1:(gotL (rls (N++M2++M3)) Z A0)[i]?=some ⟨p.1,none,txt (rls (N++M2++M3)) (zat Z p.2),0⟩:=by unfold gotL;rw[bi,hp];rfl
  have h2:(gotI Z A0)[i]?=some (zat Z p.2):=by unfold gotI;rw[bi,hp];rfl
  have:=(heq.tx i _ _ h1 h2).1;rwa [bQ]at this
 have hfin:∀(M4:List Ent),Wf (rls (N++M2++M3++M4))→encB (rls (N++M2++M3++M4)) (dD (rls (N++M2++M3++M4)) (rawN (nmI (A0.map fun p=>(p.1,zat Z p.2)))) []) (nmY (nmI (A0.map fun p=>(p.1,zat Z p.2))) (rawN (nmI (A0.map fun p=>(p.1,zat Z p.2)))))=B2:=fun M4 hw4=>by
  have hD2:=hD.ext (rls M4);rw[dB (N++M2++M3)]at hw4 ⊢;rw[rawN_zat,qVh,qQj hP hw4 hD2,←hB3]
 rw[nmK_zat];have hLA:(nmI (A0.map fun p=>(p.1,zat Z p.2))).length=A0.length:=by unfold nmI;rw[gz,gz]
 rw[bQ]at hsgl hsgo;generalize nmI (A0.map fun p=>(p.1,zat Z p.2))=Lst at*;rw[←hLA];have hLm:Lst.length=m:=oO;clear hD hsame himp heq;generalize N++M2++M3=W at*;refine gP (p:=sl p6 c6 53 2 Lst.length (nlC Lst)) uK (fun _ h=>fun hpos=>eF h hpos) ?_;intro hp6;refine gP (p:=sl p2 c2 9 1 n (tsC ts)) uK (fun _ h=>fun hpos=>eF h hpos) ?_;intro hp7;refine gg9 ?_;refine dW (fun i:Nat=>[(5,.slice p2 n c2),(7,.slice (some ⟨g1,0,none⟩) B2.length d1),(9,uPt b9),(16,.slice p6 Lst.length c6),(18,.int .i64 (i:Nat))]) (fun i=>[cells pp2 [uPt s2,uPt tb2] 97,tabP tb2 s2 (rls W),bR s2 1048576 W,cells m2 [uPt pp2,.map (some bm2)] 93,mapF bm2 .i64 f2,cells b9 [uPt s2,uPt m2] 41,sl p2 c2 9 1 n (tsC ts),sl (some ⟨g1,0,none⟩) d1 5 1 B2.length (byC B2),sl p6 c6 53 2 Lst.length (nlC Lst),q,R]) (fun i=>Lst.length-i) (fun i=>i≤Lst.length) 0 (av _) ⟨O,O,O,O,O,trivial⟩ uI ?_;rintro i hi;refine gg9 ?_;refine bE O (fun h3=>?_) (fun h3=>?_)
 ·obtain⟨x,hx1,hx2,hx3⟩:=hitem i oO;obtain⟨t,ht⟩:∃t,ts[i]?=some t:=⟨_,ag oO⟩;have ht4:=hsh t (ak ht);have hgt:ts.getD i []=t:=by rw[iq,ht];rfl
  rw[hgt]at hx3;obtain⟨g6,rfl⟩:=hp6 oO;obtain⟨gt,rfl⟩:=hp7 oO;obtain⟨f3,f4⟩:=qVg hx1 (0+((i:Nat):Int).toNat*2) oO;have f5:=wQ ht (0+((i:Nat):Int).toNat) oO;have f6:=wQ ht (((i:Nat):Int).toNat) oO;refine gg5 ?_;refine uH ([cells b9 [uPt s2,uPt m2] 41,sl (some ⟨g6,0,none⟩) c6 53 2 Lst.length (nlC Lst)]) ?_;apply bG 0 O
  ·(first |(apply bV rfl (hE.t rfl) rfl;(repeat(first |rfl|assumption|constructor));done)|(apply y_load_agg_old rfl (hE.t rfl) rfl;assumption))
  ·with_reducible (repeat(first |exact aF|apply aG|apply aH))
  ·kernel_rfl
  ·rfl
  refine gg5 ?_;apply dH 6 O oK O;refine uC (ct_tText (Es:=W) (s:=s2) (most:=1048576) (m:=m2) (x:=x) (t:=t) hE hx2 hx3 oO) O ?_;rintro _ _⟨rfl,rfl⟩;simp only[uV,uW];refine uE ?_;refine gg8 ?_;refine uH ([sl (some ⟨gt,0,none⟩) c2 9 1 n (tsC ts),sl (some ⟨g6,0,none⟩) c6 53 2 Lst.length (nlC Lst)]) ?_;refine gg11 ?_;refine d_eq 139 (.bool false) O (by simp) ?_;refine uO 11 O O O (aB O) ?_;refine gg5 ?_;apply sN 17 O O O oK O;refine uC (qOl hE (i:=i) oO) O ?_;rintro _ _⟨rfl,rfl⟩;simp only[uV,uW];refine uE ?_;refine gg4 ?_;refine bE O (fun g4=>?_) (fun g4=>?_)
  ·exact absurd O g4
  refine gg8 ?_;refine bS (ι:=Nat) (j:=i+1) oO oO ⟨O,O,O,O,bg some (bW oO),trivial⟩ uI
 have hqL:Rdb E.w0 p6 (nlC Lst) (sl p6 c6 53 2 Lst.length (nlC Lst)):=fun hne=>by
  obtain⟨g,rfl⟩:=hp6 (by
   rcases fe Lst.length with e| e
   ·exact absurd (bg nlC (az e)) hne
   exact e)
  exact⟨g,0,O,qV (fun _ _ h=>h)⟩
 have hun:unk f2 W.length≤W.length:=qXe _ _;refine gg10 ?_;refine uX (qQu (Es:=W) (s:=s2) (most:=1048576) (tb:=tb2) (pp:=pp2) (m:=m2) (bm:=bm2) (f:=f2) (N:=W.length) (l:=Lst) (a:=p6) (ca:=c6) (q:=sl p6 c6 53 2 Lst.length (nlC Lst)) hE hB hqL oO hsgl (ai _) oO hk3) O ?_;rintro _ _(⟨e,he,rfl,rfl⟩|⟨M4,f4,g8,c8,B8,ho8,rfl,hB8,hM4,hk4,rfl⟩)
 ·exact(he.not hsgo).elim
 simp only[uV,uW];refine mX (p:=bR s2 1048576 (W++M4)) uK (fun _ h=>(dP h).1) (fun hw4=>?_);obtain rfl:B8=B2:=hB8.trans (hfin M4 hw4);refine gg17 ?_;have hq8:Rdb E.w0 (some ⟨g8,0,none⟩) (byC B8) (sl (some ⟨g8,0,none⟩) c8 5 1 B8.length (byC B8)):=fun _=>⟨g8,0,O,qV (fun _ _ h=>h)⟩
 refine uX (qGu (c:=c8) (d:=d1) hE hq8 hqB) O ?_;rintro _ _⟨rfl,rfl⟩;simp only[uV,uW];refine gg5 ?_;exact uZ O (.tmp O .nil) ⟨by simp[one],rfl⟩
end
section
open Go Go.ChangeShapes Go.WideShapes Go.ChangeAt Go.WideMaps Go.WideElems Go.RowKit Go.ChangeMaps Sl Eg
instance:Inhabited TMk:=⟨⟨0,0,0,0,0,[]⟩⟩
def fldT {fs:Array Field}{i o:Nat}{t:TypeId}(h:fs[i]?.map (fun f=>(f.offset,f.type))=some (o,t)):∃f,fs[i]?=some f∧f.offset=o∧f.type=t:=by
 cases e:fs[i]? with
 |none=>rw[e]at h;cases h
 |some f=>rw[e]at h;simp at h;exact⟨f,rfl,h.1,h.2⟩
def xZ {H:Type}{enc:TypeId×Value→H}{P:Program}{w:World}{base n o:Nat}{spare:Nat→Bool}{held:Bool}{t:TypeId}{k:IntKind}{cs:List Value}{f:Field}{x:Option (DataW H×List MemPlace)}(hx:x≠none)(ho:f.offset=o)(ht:f.type=t)(hi:P.underlying t=some (.int k))(hc:P.cellsOf t=1)
  (h:DataW.trod enc P w base spare held n f.type ((cs.drop f.offset).take (P.cellsOf f.type))=x):∃z,cs[o]?=some (.int k z)∧(Lit.int k z).wf=true:=by
 cases x with
 |none=>exact absurd rfl hx
 |some x=>
  rw[ho,ht,hc]at h
  obtain⟨z,e,_,hw⟩:=DataW.trod_int hi h
  exact⟨z,qPm e,hw⟩
def tH {z:Int}(h:(Lit.int .i64 z).wf=true): -9223372036854775808≤z∧z≤9223372036854775807:=by
 simp only[Lit.wf,ic,decide_eq_true_eq]at h;have h1:(IntKind.i64.min:Int)= -9223372036854775808:=by rfl
 have h2:(IntKind.i64.max:Int)=9223372036854775807:=by rfl
 omega
def one_strT {H:Type}{enc:TypeId×Value→H}{P:Program}{w:World}{base n o:Nat}{spare:Nat→Bool}{held:Bool}{t:TypeId}{cs:List Value}{f:Field}{x:Option (DataW H×List MemPlace)}(hx:x≠none)(ho:f.offset=o)(ht:f.type=t)(hi:P.underlying t=some .string)(hc:P.cellsOf t=1)
  (h:DataW.trod enc P w base spare held n f.type ((cs.drop f.offset).take (P.cellsOf f.type))=x):∃u:List UInt8,cs[o]?=some (.string ⟨⟨u⟩⟩):=by
 cases x with
 |none=>exact absurd rfl hx
 |some x=>
  rw[ho,ht,hc]at h
  obtain⟨⟨⟨u⟩⟩,e,_⟩:=DataW.trod_string hi h
  exact⟨u,qPm e⟩
set_option maxRecDepth 100000 in
def qVk {H:Type}{enc:TypeId×Value→H}{w:World}{base fuel:Nat}{spare:Nat→Bool}{held:Bool}{cs:List Value}{x:DataW H×List MemPlace}(h:DataW.trod enc Tryz.prog w base spare held fuel 69 cs=some x):∃m:TMk,cs=mkV m∧m.ok:=by
 obtain⟨xs,n,_,_,hcl,hxl,hall⟩:=DataW.trod_struct (fs:=Tryz.prog.fieldsOf 69) oK h;have hsz:(Tryz.prog.fieldsOf 69).size=6:=by kernel_rfl
 have hc:Tryz.prog.cellsOf 69=6:=by kernel_rfl
 have ui:Tryz.prog.underlying 3=some (.int .i64):=by kernel_rfl
 have us:Tryz.prog.underlying 9=some .string:=by kernel_rfl
 have ci:Tryz.prog.cellsOf 3=1:=by kernel_rfl
 have cs':Tryz.prog.cellsOf 9=1:=by kernel_rfl
 obtain⟨f0,a0,o0,t0⟩:=fldT (fs:=Tryz.prog.fieldsOf 69) (i:=0) (o:=0) (t:=3) oK;obtain⟨f1,a1,o1,t1⟩:=fldT (fs:=Tryz.prog.fieldsOf 69) (i:=1) (o:=1) (t:=3) oK;obtain⟨f2,a2,o2,t2⟩:=fldT (fs:=Tryz.prog.fieldsOf 69) (i:=2) (o:=2) (t:=3) oK;obtain⟨f3,a3,o3,t3⟩:=fldT (fs:=Tryz.prog.fieldsOf 69) (i:=3) (o:=3) (t:=3) oK;obtain⟨f4,a4,o4,t4⟩:=fldT (fs:=Tryz.prog.fieldsOf 69) (i:=4) (o:=4) (t:=3) oK;obtain⟨f5,a5,o5,t5⟩:=fldT (fs:=Tryz.prog.fieldsOf 69) (i:=5) (o:=5) (t:=9) oK;rw[hsz]at hxl;have hne:∀i,i<6→xs[i]?≠none:=fun i hi=>by rw[ag oO];simp
 obtain⟨z0,e0,w0⟩:=xZ (hne 0 oO) o0 t0 ui ci (hall 0 f0 a0);obtain⟨z1,e1,w1⟩:=xZ (hne 1 oO) o1 t1 ui ci (hall 1 f1 a1);obtain⟨z2,e2,w2⟩:=xZ (hne 2 oO) o2 t2 ui ci (hall 2 f2 a2);obtain⟨z3,e3,w3⟩:=xZ (hne 3 oO) o3 t3 ui ci (hall 3 f3 a3);obtain⟨z4,e4,w4⟩:=xZ (hne 4 oO) o4 t4 ui ci (hall 4 f4 a4);obtain⟨u,e5⟩:=one_strT (hne 5 oO) o5 t5 us cs' (hall 5 f5 a5);rw[hc]at hcl;refine⟨⟨z0,z1,z2,z3,z4,u⟩,?_,⟨tH w0,tH w1,tH w2,tH w3,tH w4⟩⟩;match cs,hcl with
 |[c0,c1,c2,c3,c4,c5],_=>
  simp at e0 e1 e2 e3 e4 e5
  subst e0 e1 e2 e3 e4 e5
  rfl
set_option maxRecDepth 100000 in
def qSd {H:Type}{enc:TypeId×Value→H}{w:World}{base b0:Nat}{r:Reach}{held:Bool}{v:Value}{d:DataW H}{ps:List MemPlace}
  (hv:Value.okWide Tryz.prog w r b0 22 v) (hd:DataW.Trod enc Tryz.prog w base (fun _=>true) held 22 v d ps):
  ∃(A:Option Addr)(ms:List TMk)(C:Nat),v= .slice A ms.length C∧Rdb w A (mkVs ms) old∧(∀m∈ms,m.ok)∧ms.length≤maxLen:=by
 have hc:Tryz.prog.cellsOf 69=6:=by kernel_rfl
 have hu:Tryz.prog.underlying 22=some (.slice 69):=by kernel_rfl
 obtain⟨a,len,cap,rfl⟩:=okWide_slice hu hv;obtain⟨fuel,hf⟩:=hd;simp only[Value.cells]at hf;rcases Go.Deep.open_slice hu hf with⟨h1,h2⟩|⟨a',len',cap',m,n,D,Pl,h1,hb,hl,hm,hmm,hx,hcell⟩
 ·simp at h1;obtain⟨rfl,rfl,rfl⟩:=h1;exact⟨none,[],0,O,fun h=>absurd O h,(by simp),av _⟩
 simp at h1;obtain⟨rfl,rfl,rfl⟩:=h1;have hml:len≤m:=by rw[hmm];split <;>omega
 obtain⟨M,hM⟩:=Go.Deep.choose_lt (n:=len) (p:=fun i(k:TMk)=>k.ok∧∀j u,(mkV k)[j]?=some u→w.cell? (a'.add (i*6+j))=some u) (fun i hi=>by
  obtain⟨cs',g1,g2⟩:=hcell i oO;obtain⟨k,rfl,hk⟩:=qVk g2;rw[hc]at g1;obtain⟨_,_,g3⟩:=World.cells?_some g1;refine⟨k,hk,fun j u hj=>?_⟩;have hj6:j<6:=(ae.1 hj).1;rw[←Go.Deep.add_add,g3 j hj6,hj])
 have hlen:((List.range len).map M).length=len:=by simp
 have hget:∀i,i<len→((List.range len).map M)[i]?=some (M i):=fun i hi=>by simp[hi]
 refine⟨some a',(List.range len).map M,cap,by rw[hlen],fun hne=>?_,fun t ht=>?_,by rw[hlen];omega⟩
 ·have h0:0<len:=by
   rcases fe len with h| h
   ·subst h;simp[mkVs]at hne
   exact h
  have hc0:=(hM 0 h0).2 0 _ O;rw[show a'.add (0*6+0)=a' by simp[Addr.add]]at hc0;have e:=qWj hc0;refine⟨a'.block,a'.off,by rw[←e],rd_old fun i v hv=>?_⟩
  have hi:i<len*6:=by
   have:=(ae.1 hv).1;rwa [wL,hlen]at this
  have hk:i/6<len:=oO;have hj:i%6<6:=oO;have hu:(mkV (M (i/6)))[i%6]?=some ((mkV (M (i/6)))[i%6]'hj):=ag hj;have hat:=qVe (hget _ hk) _ _ hu;have hci:=(hM _ hk).2 _ _ hu;rw[show i/6*6+i%6=i by omega]at hat hci;rw[hat]at hv;rw[e,Sl.addr_add]at hci;rw[hci,hv]
 obtain⟨i,hi,rfl⟩:=jg.1 ht;exact(hM i (qp.1 hi)).1
def qTz {E:Env}{f:FuncId}{args:List Value}{u:Value}(h:Ct E f args [old] (fun v Q=>v=u∧Q=[old])):Ct E f args [] (fun v Q=>v=u∧Q=[]):=fun R w s=>(h R w (s.imp fun _ x=>ent_old _ x)).mono fun e w'⟨v,Qs,h1,⟨h2,h3⟩,h4⟩=>⟨v,[],h1,⟨h2,rfl⟩,by
 subst h3;exact h4.imp (by show ∀k,dV [old,R] k→dV [R] k;(apply ent;(repeat constructor);done))⟩
def qGv {E:Env}(hE:Seat E)(hB:Base E.w0){l:List TMk}{a:Option Addr}{c:Nat}(hq:Rdb E.w0 a (mkVs l) old)(hl:l.length≤maxLen)(hx:∀x∈l,x.ok):
  Ct E 3 [.slice a l.length c] [] (fun v Q=>v= .bool true∧Q=[]):=qTz (qEm hE hB hq (by unfold maxLen at hl;omega) hx)
end
