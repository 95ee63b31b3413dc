import Derived.Test.YtejcjelmpbkcbaaGreatDoorQ22
set_option linter.all false
set_option maxHeartbeats 1000000
namespace Go.Proofs.YtejcjelmpbkcbaaGreatDoor
section
open Go Go.RowKit Eg
set_option maxRecDepth 100000
variable {w w':World}{tb s:Nat}{rv:Value}{L:List Rl}{K:List Bool}

def rc (L:List Rl)(i:Nat)(b:Bool):List Value:=if b then[.int .u64 (key L i:Nat),.int .i64 (lvl L i),.bool true]else[.int .u64 0,.int .i64 0,.bool false]
def xY (L:List Rl)(i:Nat)(b:Bool):(rc L i b).length=3:=by unfold rc;split <;>rfl
def jA (L:List Rl):List Bool→Nat→List Value
 |[],_=>[]
 |b::K,i=>rc L i b++jA L K (i+1)
def qLt (L:List Rl)(K M:List Bool)(i:Nat):jA L (K++M) i=jA L K i++jA L M (i+K.length):=by
 induction K generalizing i with
 |nil=>simp[jA]
 |cons b K ih=>rw[jq,jA,jA,ih,ai,bf,show i+1+K.length=i+(K.length+1) by omega]
def qXz {j:Nat}{b:Bool}(h:K[j]?=some b)(i m:Nat)(hm:m<3):(jA L K i)[j*3+m]?=(rc L (i+j) b)[m]?:=by
 induction K generalizing i j with
 |nil=>simp at h
 |cons a K ih=>
  rw[jA]
  cases j with
  |zero=>
   obtain rfl:a=b:=by simpa using h
   rw[ax (by rw[xY];omega),yn,kg,ry]
  |succ j=>
   rw[bq (by rw[xY];omega),xY,show(j+1)*3+m-3=j*3+m by omega,ih (by simpa using h),show i+1+j=i+(j+1) by omega]
def qXy {M:List Rl}{i:Nat}(h:i+K.length≤L.length+1):jA (L++M) K i=jA L K i:=by
 induction K generalizing i with
 |nil=>rfl
 |cons b K ih=>
  rw[bf]at h
  rw[jA,jA,ih oO]
  congr 1
  unfold rc
  rw[fF M oO,kT M oO]
def qOm (L:List Rl)(k i:Nat):jA L (List.replicate k false) i=(Builtin.zeroCells #[.int .u64 0,.int .i64 0,.bool false] k).toList:=by
 induction k generalizing i with
 |zero=>simp[jA,Builtin.zeroCells]
 |succ k ih=>
  rw[cu,jA,ih]
  have:(Builtin.zeroCells #[.int .u64 0,.int .i64 0,.bool false] (k+1)).toList=[.int .u64 0,.int .i64 0,.bool false]++(Builtin.zeroCells #[.int .u64 0,.int .i64 0,.bool false] k).toList:=by
   apply kz;intro j;simp only[Builtin.zeroCells,zw,Array.toList_range,bu];by_cases hj:j<3
   ·rw[ax (by simpa using hj),lu (by simp;omega)];have:j=0∨j=1∨j=2:=oO;rcases this with rfl|rfl|rfl<;>rfl
   rw[bq (by simp;omega)];by_cases hj2:j<(k+1)*3
   ·rw[lu (by simpa using hj2)];simp only[bf,dz,bu];rw[lu (by simp;omega)];simp only[ru];congr 2;simp;omega
   rw[fq (by simp;omega)];simp only[bf,dz,bu];rw[fq (by simp;omega)]
  rw[this]
  rfl
def qYa {j:Nat}(h:j<K.length)(i:Nat):jA L (K.set j true) i=(((jA L K i).set (j*3) (.int .u64 (key L (i+j):Nat))).set (j*3+1) (.int .i64 (lvl L (i+j)))).set (j*3+2) (.bool true):=by
 induction K generalizing i j with
 |nil=>simp at h
 |cons a K ih=>
  cases j with
  |zero=>
   rw[List.set_cons_zero,jA,jA]
   have:∃x y z,rc L i a=[x,y,z]:=by unfold rc;split <;>exact⟨_,_,_,rfl⟩
   obtain⟨x,y,z,e⟩:=this
   rw[e,ry]
   rfl
  |succ j=>
   rw[List.set_cons_succ,jA,jA,ih (by simpa using h)]
   have e:∀(n:Nat)(v:Value)(l:List Value),(rc L i a++l).set (n+3) v=rc L i a++l.set n v:=by
    intro n v l;have:∃x y z,rc L i a=[x,y,z]:=by unfold rc;split <;>exact⟨_,_,_,rfl⟩
    obtain⟨x,y,z,e⟩:=this;rw[e];rfl
   rw[show(j+1)*3=j*3+3 by omega,e,show j*3+3+1=(j*3+1)+3 by omega,e,show j*3+3+2=(j*3+2)+3 by omega,e,show i+(j+1)=i+1+j by omega]

structure TableAt (w:World)(tb s:Nat)(rv:Value)(L:List Rl)(K:List Bool):Prop where
 top:Blk w tb [.pointer (some ⟨s,0,none⟩),rv] 201
 row:w.ownsRow 0 379 3 rv K.length (jA L K 0)
 klen:K.length≤L.length+1
 k0:K[0]?≠some true
def TFoot (tb:Nat)(rv:Value)(k:Nat):Prop:=k=tb∨rv.ownBlock=some k
def TableAt.slice (h:TableAt w tb s rv L K):∃a c,rv= .slice a K.length c∧K.length≤c:=by
 rcases h.row.2 with⟨rfl,h0⟩|⟨g,cap,cur,rfl,_,_,hc,_⟩
 ·exact⟨none,0,by rw[h0],oO⟩
 exact⟨_,_,O,hc⟩
def TableAt.below (h:TableAt w tb s rv L K)(hb:Below w.heap.size w w'):TableAt w' tb s rv L K:=
 ⟨h.top.below hb h.top.lt,h.row.kept (row:=none) ⟨hb.os,hb.tape,hb.output,hb.size,fun k hk _=>hb.block k hk⟩ (by cases hv:rv.ownBlock<;>simp),h.klen,h.k0⟩
end
section
open Go Go.RowKit Eg
set_option maxRecDepth 100000
variable {w w' w1:World}{tb s:Nat}{rv:Value}{L:List Rl}{K:List Bool}

def Upd.trans {F:Nat→Prop}(h:Upd F w w1)(k:Upd F w1 w'):Upd F w w':=
 ⟨k.os.trans h.os,k.tape.trans h.tape,k.output.trans h.output,iw h.size k.size,fun i hi hF=>(k.block i (lc hi h.size) hF).trans (h.block i hi hF)⟩
def Upd.mono {F G:Nat→Prop}(h:Upd F w w')(hFG:∀k,k<w.heap.size→F k→G k):Upd G w w':=
 ⟨h.os,h.tape,h.output,h.size,fun k hk hG=>h.block k hk (fun hF=>hG (hFG k hk hF))⟩
def Upd.next {F G:Nat→Prop}(h:Upd F w w1)(k:Upd G w1 w')(hGF:∀i,i<w.heap.size→G i→F i):Upd F w w':=
 ⟨k.os.trans h.os,k.tape.trans h.tape,k.output.trans h.output,iw h.size k.size,fun i hi hF=>(k.block i (lc hi h.size) (fun hG=>hF (hGF i hi hG))).trans (h.block i hi hF)⟩
def qMm (F:Nat→Prop)(h:Below w.heap.size w w'):Upd F w w':=⟨h.os,h.tape,h.output,h.size,fun k hk _=>h.block k hk⟩
def qOh {F:Nat→Prop}{base:Nat}{e:TypeId}{size:Nat}{v:Value}{n:Nat}{xs:List Value}(h:w.ownsRow base e size v n xs)(hu:Upd F w w')(hF:∀g,v.ownBlock=some g→¬F g):w'.ownsRow base e size v n xs:=by
 refine⟨h.1,?_⟩;rcases h.2 with h0|⟨g,cap,cur,h0,hb,hg,r⟩
 ·exact .inl h0
 refine .inr ⟨g,cap,cur,h0,hb,?_,r⟩;rw[hu.block g (gz.1 hg).1 (hF g (by rw[h0];rfl))];exact hg
def addr_add (g k:Nat):(⟨g,0,none⟩:Addr).add k=⟨g,k,none⟩:=by
 unfold Addr.add;by_cases h:k=0
 ·rw[if_pos h,h]
 rw[if_neg h];simp
def qSb {T:List Nat}{n:Nat}(h:T.Pairwise (· > ·))(h1:∀x∈T,1≤x∧x≤n):T.length≤n:=by
 induction T generalizing n with
 |nil=>simp
 |cons a T ih=>
  rw[List.pairwise_cons]at h
  have ha:=h1 a (by simp)
  have:=ih (n:=a-1) h.2 (fun x hx=>⟨(h1 x (by simp[hx])).1,by have:=h.1 x hx;omega⟩)
  simp;omega
def cntF:List Bool→Nat
 |[]=>0
 |b::K=>(if b then 0 else 1)+cntF K
def qAu {K:List Bool}{j:Nat}(h:K[j]?=some false):cntF (K.set j true)+1=cntF K:=by
 induction K generalizing j with
 |nil=>simp at h
 |cons b K ih=>
  cases j with
  |zero=>
   obtain rfl:b=false:=by simpa using h
   simp[cntF];omega
  |succ j=>
   have:=ih (j:=j) (by simpa using h)
   simp only[List.set_cons_succ,cntF];omega

structure RowSt (wB:World)(tb s:Nat)(rv:Value)(L:List Rl)(i N R:Nat)(T:List Nat)(K:List Bool)(v:Value)(wr:World):Prop where
 own:wr.ownsRow 0 56 1 v T.length (T.map fun x=> .int .i64 (x:Nat))
 tab:TableAt wr tb s rv L K
 klen:K.length=N
 dec:T.Pairwise (· > ·)
 unk:∀x∈T,K[x]?=some false∧1≤x∧x≤i+1
 top:(T=[]∧K[i+1]?=some true)∨T.head?=some (i+1)
 res:Blk wr R [.int .u64 0,.int .i64 0,.bool false] 379
 upd:Upd (TFoot tb rv) wB wr
 fresh:∀k,v.ownBlock=some k→wB.heap.size≤k
def RowSt.below {wB wr:World}{i N R:Nat}{T:List Nat}{v:Value}(h:RowSt wB tb s rv L i N R T K v wr)(hb:Below wr.heap.size wr w1):RowSt wB tb s rv L i N R T K v w1:=
 ⟨qOh h.own (qMm (fun _=>False) hb) (fun _ _ h=>h),h.tab.below hb,h.klen,h.dec,h.unk,h.top,h.res.below hb h.res.lt,h.upd.next (qMm (fun _=>False) hb) (fun _ _ h=>h.elim),h.fresh⟩

end
end Go.Proofs.YtejcjelmpbkcbaaGreatDoor
namespace Eg
def zA {L:List Rl}{i:Nat}{b:UInt8}(h:L[i]?=some (.letter b)):len L (i+1)=1:=by rw[len,fC h];rfl
def qBc {L:List Rl}{i l r:Nat}(h:L[i]?=some (.pair l r))(hk:(Rl.pair l r).ok (i+1)):len L (i+1)=len L l+len L r:=by rw[len,iC h hk];simp[len]
def nW {L:List Rl}{i x k:Nat}(h:L[i]?=some (.power x k))(hk:(Rl.power x k).ok (i+1)):len L (i+1)=k*len L x:=by
 rw[len,iG h hk];simp[len,List.length_flatten]
def qOb {L:List Rl}(h:Wf L):∀i,1≤i→i≤L.length→1≤len L i:=by
 intro i;induction i using Nat.strongRecOn with
 |ind i ih=>
  intro h1 h2
  obtain⟨j,rfl⟩:∃j,i=j+1:=⟨i-1,oO⟩
  have hj:L[j]?=some (L[j]'oO):=ah _
  generalize L[j]'oO=r at hj
  have hok:=h.ok j r hj
  cases r with
  |letter b=>rw[zA hj];omega
  |pair l r=>
   rw[qBc hj hok]
   obtain⟨a,b,_,_⟩:=hok
   have:=ih l oO a oO
   omega
  |power x k=>
   rw[nW hj hok]
   obtain⟨a,b,c⟩:=hok
   have:=ih x oO a oO
   exact iw oO (yw (by omega:1≤k) this)
def power_le {L:List Rl}(h:Wf L){i x k:Nat}(hi:L[i]?=some (.power x k)):k≤dC:=by
 have hok:=h.ok i _ hi;have h1:=nW hi hok;obtain⟨a,b,c⟩:=hok;have hlt:=(ag.1 hi).1;have h2:=qOb h x a oO;have h3:=h.short (i+1);rw[h1]at h3;exact iw (by simpa using pu k h2) h3
end Eg
namespace Go.Proofs.YtejcjelmpbkcbaaGreatDoor
open Go Go.RowKit Sl Eg
variable {E:Env}{L:List Rl}{K:List Bool}{tb s g c:Nat}
def tabP (tb s:Nat)(L:List Rl):HP:=fun h=>∃K p c,K.length≤L.length+1∧K[0]?≠some true∧
 dS [cells tb [uPt s,.slice p K.length c] 201,sl p c 379 3 K.length (jA L K 0)] h
def rT (M:List Rl){h:PH}(ht:tabP tb s L h):tabP tb s (L++M) h:=by
 obtain⟨K,p,c,h1,h2,h3⟩:=ht;refine⟨K,p,c,by simp;omega,h2,?_⟩;rw[qXy oO];exact h3
def qDt {j:Nat}{b:Bool}(h:K[j]?=some b)(m:Nat)(hm:m<3):(jA L K 0)[j*3+m]?=(rc L j b)[m]?:=by
 have:=qXz (L:=L) h 0 m hm;rwa [kg]at this
def qGo {H H':List HP}{p:Option Addr}{N:Nat}(hs:Sub [cells tb [uPt s,.slice p N c] 201,sl p c 379 3 N (jA L K 0)] H H')(hN:K.length=N)(hK:N≤L.length+1)(h0:K[0]?≠some true):∀k,dS H k→dS (tabP tb s L::H') k:=by
 subst hN;exact fH hs (fun _ h=>⟨K,p,c,hK,h0,h⟩)
structure Base (w:World):Prop where
 tab:TabAt w
 pos:0<w.heap.size

def qRr (hE:Seat E)(hB:Base E.w0)(hwf:Wf L){m:Nat}{r:Rl}(hr:L[m]?=some r)(hk0:K[0]?=some false)(hl:r.left=0∨K[r.left]?=some true)(hrr:r.right=0∨K[r.right]?=some true)(hK:K.length≤L.length+1):
  Ct E 276 [uPt tb,.agg #[.int .i64 (Rl.kind (r):Nat),.int .u8 (Rl.byte (r):Nat),.int .i64 (Rl.left (r):Nat),.int .i64 (Rl.right (r):Nat),.int .i64 (Rl.times (r):Nat)]]
   [cells tb [uPt s,.slice (some ⟨g,0,none⟩) K.length c] 201,sl (some ⟨g,0,none⟩) c 379 3 K.length (jA L K 0)]
   (fun v Q=>v= .agg #[.int .u64 (key L (m+1):Nat),.int .i64 (lvl L (m+1)),.bool true]∧Q=[cells tb [uPt s,.slice (some ⟨g,0,none⟩) K.length c] 201,sl (some ⟨g,0,none⟩) c 379 3 K.length (jA L K 0)]):=fun R w hs=>by
 have hm:=(ag.1 hr).1;have hlen:=hwf.room;have hok:=hwf.ok m r hr;have hKl:0<K.length:=(ag.1 hk0).1;have s1:=hs;have s2:Sat E.w0 w (sl (some ⟨g,0,none⟩) c 379 3 K.length (jA L K 0)::[R]):=hs.tail;obtain⟨cur,s3,hc1,_⟩:=s2.slice;have hg:=s3.ptr;have htb:=s1.ptr;have hgl:g<w.heap.size:=(gz.1 hg.1).1;have htl:tb<w.heap.size:=(gz.1 htb.1).1;have t1:=s1.cell 1 O;have hT:TabAt w:=fun j hj=>hs.old_cell (hB.tab j hj)
 have cell:∀j b,K[j]?=some b→∀k v,(rc L j b)[k]?=some v→w.cell? ⟨g,j*3+k,none⟩=some v:=fun j b hj k v hv=>by
  have hk3:k<3:=by have:=(ag.1 hv).1;rwa [xY]at this
  exact HasC.cell (HasC.slice (by rw[qDt hj k hk3];exact hv)) s2
 have hn:0<K.length∧K.length≤c∧K.length≤1048577:=⟨hKl,hc1,by unfold fE at hlen;omega⟩
 have fin:∀v,Calls Tryz.prog 276 #[uPt tb,.agg #[.int .i64 (Rl.kind (r):Nat),.int .u8 (Rl.byte (r):Nat),.int .i64 (Rl.left (r):Nat),.int .i64 (Rl.right (r):Nat),.int .i64 (Rl.times (r):Nat)]] w (fun e w'=>e= .returned v∧Below w.heap.size w w')→v= .agg #[.int .u64 (key L (m+1):Nat),.int .i64 (lvl L (m+1)),.bool true]→
   Calls E.P 276 ⟨[uPt tb,.agg #[.int .i64 (Rl.kind (r):Nat),.int .u8 (Rl.byte (r):Nat),.int .i64 (Rl.left (r):Nat),.int .i64 (Rl.right (r):Nat),.int .i64 (Rl.times (r):Nat)]]⟩ w (fun e w'=>∃v Qs,e= .returned v∧(v= .agg #[.int .u64 (key L (m+1):Nat),.int .i64 (lvl L (m+1)),.bool true]∧Qs=[cells tb [uPt s,.slice (some ⟨g,0,none⟩) K.length c] 201,sl (some ⟨g,0,none⟩) c 379 3 K.length (jA L K 0)])∧Sat E.w0 w' (Qs++[R])):=by
  intro v hv he;rw[hE.P];exact hv.mono fun e w'⟨h1,h2⟩=>⟨v,_,h1,⟨he,O⟩,hs.grow h2⟩
 have z0:=cell 0 false hk0 0 _ O;have z1:=cell 0 false hk0 1 _ O;have z2:=cell 0 false hk0 2 _ O;simp only[yn,kg]at z0 z1 z2;cases r with
 |letter b=>
  have hkl:=jB hr
  exact fin _ (qEr w tb g K.length c b t1 hgl htl hn z0 z1 z2) (by rw[hkl.1,hkl.2])
 |pair l r'=>
  have hkl:=mK hr hok
  obtain⟨o1,o2,o3,o4⟩:=hok
  have kl:K[l]?=some true:=hl.resolve_left (by simp only[Rl.left];omega)
  have kr:K[r']?=some true:=hrr.resolve_left (by simp only[Rl.right];omega)
  have ll:=(ag.1 kl).1
  have lr:=(ag.1 kr).1
  have b1:=qDd hwf l oO
  have b2:=qDd hwf r' oO
  unfold fE at hlen
  by_cases hgood:l≠r'∧0≤lvl L l∧0≤lvl L r'
  ·obtain⟨v1,e1⟩:=zy hgood.2.1
   obtain⟨v2,e2⟩:=zy hgood.2.2
   have c1:=cell l true kl 1 _ O
   have c2:=cell r' true kr 1 _ O
   rw[e1]at c1
   rw[e2]at c2
   refine fin _ (qJz w tb g K.length c l r' (key L l) (key L r') v1 v2 (max v1 v2) O hT ll lr (jV hwf l) (jV hwf r') oO oO hgood.1 t1 hgl htl hn (cell l true kl 0 _ O) c1 (cell l true kl 2 _ O) (cell r' true kr 0 _ O) c2 (cell r' true kr 2 _ O)) ?_
   rw[hkl.1,hkl.2,if_pos hgood,e1,e2];rfl
  have hbad:l=r'∨lvl L l<0∨lvl L r'<0:=by
   by_cases h1:l=r'
   ·exact .inl h1
   by_cases h2:0≤lvl L l
   ·by_cases h3:0≤lvl L r'
    ·exact absurd ⟨h1,h2,h3⟩ hgood
    exact .inr (.inr oO)
   exact .inr (.inl oO)
  refine fin _ (qBu w tb g K.length c l r' (key L l) (key L r') (lvl L l) (lvl L r') ll lr (jV hwf l) (jV hwf r') hbad t1 hgl htl hn (cell l true kl 0 _ O) (cell l true kl 1 _ O) (cell l true kl 2 _ O) (cell r' true kr 0 _ O) (cell r' true kr 1 _ O) (cell r' true kr 2 _ O)) ?_
  rw[hkl.1,hkl.2,if_neg hgood]
 |power x k=>
  have hkl:=lI hr hok
  obtain⟨o1,o2,o3⟩:=hok
  have kl:K[x]?=some true:=hl.resolve_left (by simp only[Rl.left];omega)
  have ll:=(ag.1 kl).1
  have b1:=qDd hwf x oO
  have hkk:k<9223372036854775808:=by have:=power_le hwf hr;unfold dC at this;omega
  unfold fE at hlen
  refine fin _ (qHa w tb g K.length c x (key L x) k (lvl L x) _ O ll (jV hwf x) hkk oO t1 hgl htl hn (cell x true kl 0 _ O) (cell x true kl 1 _ O) (cell x true kl 2 _ O) z0 z1 z2) ?_
  rw[hkl.1,hkl.2]
def qV (hE:Seat E)(hB:Base E.w0)(hwf:Wf L){m N:Nat}{r:Rl}(hN:K.length=N)(hr:L[m]?=some r)(hk0:K[0]?=some false)(hl:r.left=0∨K[r.left]?=some true)(hrr:r.right=0∨K[r.right]?=some true)(hK:K.length≤L.length+1):
  Ct E 276 [uPt tb,.agg #[.int .i64 (Rl.kind (r):Nat),.int .u8 (Rl.byte (r):Nat),.int .i64 (Rl.left (r):Nat),.int .i64 (Rl.right (r):Nat),.int .i64 (Rl.times (r):Nat)]]
   [cells tb [uPt s,.slice (some ⟨g,0,none⟩) N c] 201,sl (some ⟨g,0,none⟩) c 379 3 N (jA L K 0)]
   (fun v Q=>v= .agg #[.int .u64 (key L (m+1):Nat),.int .i64 (lvl L (m+1)),.bool true]∧Q=[cells tb [uPt s,.slice (some ⟨g,0,none⟩) N c] 201,sl (some ⟨g,0,none⟩) c 379 3 N (jA L K 0)]):=by
 subst hN;exact qRr hE hB hwf hr hk0 hl hrr hK
