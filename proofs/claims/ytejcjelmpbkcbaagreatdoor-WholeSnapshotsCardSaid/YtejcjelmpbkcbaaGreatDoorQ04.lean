import Derived.Test.YtejcjelmpbkcbaaGreatDoorQ22
set_option linter.all false
set_option maxHeartbeats 1000000
namespace Go.Proofs.YtejcjelmpbkcbaaGreatDoor
section
open Go Go.RowKit Eg
set_option maxRecDepth 100000
variable {w w':World}{tb s:Nat}{rv:Value}{L:List Rl}{K:List Bool}

def rc (L:List Rl)(i:Nat)(b:Bool):List Value:=if b then[.int .u64 (key L i:Nat),.int .i64 (lvl L i),.bool true]else[.int .u64 0,.int .i64 0,.bool false]
def xZ (L:List Rl)(i:Nat)(b:Bool):(rc L i b).length=3:=by unfold rc;split <;>rfl
def iT (L:List Rl):List Bool→Nat→List Value
 |[],_=>[]
 |b::K,i=>rc L i b++iT L K (i+1)
def qMd (L:List Rl)(K M:List Bool)(i:Nat):iT L (K++M) i=iT L K i++iT L M (i+K.length):=by
 induction K generalizing i with
 |nil=>simp[iT]
 |cons b K ih=>rw[ik,iT,iT,ih,ah,av,show i+1+K.length=i+(K.length+1) by omega]
def qYf {j:Nat}{b:Bool}(h:K[j]?=some b)(i m:Nat)(hm:m<3):(iT L K i)[j*3+m]?=(rc L (i+j) b)[m]?:=by
 induction K generalizing i j with
 |nil=>simp at h
 |cons a K ih=>
  rw[iT]
  cases j with
  |zero=>
   obtain rfl:a=b:=by simpa using h
   rw[ak (by rw[xZ];omega),xq,jg,um]
  |succ j=>
   rw[ax (by rw[xZ];omega),xZ,show(j+1)*3+m-3=j*3+m by omega,ih (by simpa using h),show i+1+j=i+(j+1) by omega]
def qYe {M:List Rl}{i:Nat}(h:i+K.length≤L.length+1):iT (L++M) K i=iT L K i:=by
 induction K generalizing i with
 |nil=>rfl
 |cons b K ih=>
  rw[av]at h
  rw[iT,iT,ih oO]
  congr 1
  unfold rc
  rw[fM M oO,lF M oO]
def qOm (L:List Rl)(k i:Nat):iT L (List.replicate k false) i=(Builtin.zeroCells #[.int .u64 0,.int .i64 0,.bool false] k).toList:=by
 induction k generalizing i with
 |zero=>simp[iT,Builtin.zeroCells]
 |succ k ih=>
  rw[cu,iT,ih]
  have:(Builtin.zeroCells #[.int .u64 0,.int .i64 0,.bool false] (k+1)).toList=[.int .u64 0,.int .i64 0,.bool false]++(Builtin.zeroCells #[.int .u64 0,.int .i64 0,.bool false] k).toList:=by
   apply nu;intro j;simp only[Builtin.zeroCells,za,Array.toList_range,bq];by_cases hj:j<3
   ·rw[ak (by simpa using hj),mh (by simp;omega)];have:j=0∨j=1∨j=2:=oO;rcases this with rfl|rfl|rfl<;>rfl
   rw[ax (by simp;omega)];by_cases hj2:j<(k+1)*3
   ·rw[mh (by simpa using hj2)];simp only[av,di,bq];rw[mh (by simp;omega)];simp only[xe];congr 2;simp;omega
   rw[ig (by simp;omega)];simp only[av,di,bq];rw[ig (by simp;omega)]
  rw[this]
  rfl
def qYg {j:Nat}(h:j<K.length)(i:Nat):iT L (K.set j true) i=(((iT L K i).set (j*3) (.int .u64 (key L (i+j):Nat))).set (j*3+1) (.int .i64 (lvl L (i+j)))).set (j*3+2) (.bool true):=by
 induction K generalizing i j with
 |nil=>simp at h
 |cons a K ih=>
  cases j with
  |zero=>
   rw[List.set_cons_zero,iT,iT]
   have:∃x y z,rc L i a=[x,y,z]:=by unfold rc;split <;>exact⟨_,_,_,rfl⟩
   obtain⟨x,y,z,e⟩:=this
   rw[e,um]
   rfl
  |succ j=>
   rw[List.set_cons_succ,iT,iT,ih (by simpa using h)]
   have e:∀(n:Nat)(v:Value)(l:List Value),(rc L i a++l).set (n+3) v=rc L i a++l.set n v:=by
    intro n v l;have:∃x y z,rc L i a=[x,y,z]:=by unfold rc;split <;>exact⟨_,_,_,rfl⟩
    obtain⟨x,y,z,e⟩:=this;rw[e];rfl
   rw[show(j+1)*3=j*3+3 by omega,e,show j*3+3+1=(j*3+1)+3 by omega,e,show j*3+3+2=(j*3+2)+3 by omega,e,show i+(j+1)=i+1+j by omega]

structure TableAt (w:World)(tb s:Nat)(rv:Value)(L:List Rl)(K:List Bool):Prop where
 top:Blk w tb [.pointer (some ⟨s,0,none⟩),rv] 201
 row:w.ownsRow 0 379 3 rv K.length (iT L K 0)
 klen:K.length≤L.length+1
 k0:K[0]?≠some true
def TableAt.slice (h:TableAt w tb s rv L K):∃a c,rv= .slice a K.length c∧K.length≤c:=by
 rcases h.row.2 with⟨rfl,h0⟩|⟨g,cap,cur,rfl,_,_,hc,_⟩
 ·exact⟨none,0,by rw[h0],oO⟩
 exact⟨_,_,O,hc⟩
end
section
open Go Go.RowKit Eg
set_option maxRecDepth 100000
variable {w w' w1:World}{tb s:Nat}{rv:Value}{L:List Rl}{K:List Bool}

def Upd.trans {F:Nat→Prop}(h:Upd F w w1)(k:Upd F w1 w'):Upd F w w':=
 ⟨k.os.trans h.os,k.tape.trans h.tape,k.output.trans h.output,jh h.size k.size,fun i hi hF=>(k.block i (kv hi h.size) hF).trans (h.block i hi hF)⟩
def Upd.mono {F G:Nat→Prop}(h:Upd F w w')(hFG:∀k,k<w.heap.size→F k→G k):Upd G w w':=
 ⟨h.os,h.tape,h.output,h.size,fun k hk hG=>h.block k hk (fun hF=>hG (hFG k hk hF))⟩
def addr_add (g k:Nat):(⟨g,0,none⟩:Addr).add k=⟨g,k,none⟩:=by
 unfold Addr.add;by_cases h:k=0
 ·rw[if_pos h,h]
 rw[if_neg h];simp
def qSk {T:List Nat}{n:Nat}(h:T.Pairwise (· > ·))(h1:∀x∈T,1≤x∧x≤n):T.length≤n:=by
 induction T generalizing n with
 |nil=>simp
 |cons a T ih=>
  rw[yh]at h
  have ha:=h1 a (by simp)
  have:=ih (n:=a-1) h.2 (fun x hx=>⟨(h1 x (by simp[hx])).1,by have:=h.1 x hx;omega⟩)
  simp;omega
def cntF:List Bool→Nat
 |[]=>0
 |b::K=>(if b then 0 else 1)+cntF K
def qAu {K:List Bool}{j:Nat}(h:K[j]?=some false):cntF (K.set j true)+1=cntF K:=by
 induction K generalizing j with
 |nil=>simp at h
 |cons b K ih=>
  cases j with
  |zero=>
   obtain rfl:b=false:=by simpa using h
   simp[cntF];omega
  |succ j=>
   have:=ih (j:=j) (by simpa using h)
   simp only[List.set_cons_succ,cntF];omega

end
end Go.Proofs.YtejcjelmpbkcbaaGreatDoor
namespace Eg
def qSv {L:List Rl}{i:Nat}{b:UInt8}(h:L[i]?=some (.letter b)):len L (i+1)=1:=by rw[len,gN h];rfl
def len_pair {L:List Rl}{i l r:Nat}(h:L[i]?=some (.pair l r))(hk:(Rl.pair l r).ok (i+1)):len L (i+1)=len L l+len L r:=by rw[len,jU h hk];simp[len]
def xR {L:List Rl}{i x k:Nat}(h:L[i]?=some (.power x k))(hk:(Rl.power x k).ok (i+1)):len L (i+1)=k*len L x:=by
 rw[len,kW h hk];simp[len,List.length_flatten]
def qOb {L:List Rl}(h:Wf L):∀i,1≤i→i≤L.length→1≤len L i:=by
 intro i;induction i using Nat.strongRecOn with
 |ind i ih=>
  intro h1 h2
  obtain⟨j,rfl⟩:∃j,i=j+1:=⟨i-1,oO⟩
  have hj:L[j]?=some (L[j]'oO):=ag _
  generalize L[j]'oO=r at hj
  have hok:=h.ok j r hj
  cases r with
  |letter b=>rw[qSv hj];omega
  |pair l r=>
   rw[len_pair hj hok]
   obtain⟨a,b,_,_⟩:=hok
   have:=ih l oO a oO
   omega
  |power x k=>
   rw[xR hj hok]
   obtain⟨a,b,c⟩:=hok
   have:=ih x oO a oO
   exact jh oO (xx (by omega:1≤k) this)
def power_le {L:List Rl}(h:Wf L){i x k:Nat}(hi:L[i]?=some (.power x k)):k≤dC:=by
 have hok:=h.ok i _ hi;have h1:=xR hi hok;obtain⟨a,b,c⟩:=hok;have hlt:=(ae.1 hi).1;have h2:=qOb h x a oO;have h3:=h.short (i+1);rw[h1]at h3;exact jh (by simpa using qp k h2) h3
end Eg
namespace Go.Proofs.YtejcjelmpbkcbaaGreatDoor
open Go Go.RowKit Sl Eg
variable {E:Env}{L:List Rl}{K:List Bool}{tb s g c:Nat}
def tabP (tb s:Nat)(L:List Rl):HP:=fun h=>∃K p c,K.length≤L.length+1∧K[0]?≠some true∧
 dU [cells tb [uPt s,.slice p K.length c] 201,sl p c 379 3 K.length (iT L K 0)] h
def sD (M:List Rl){h:PH}(ht:tabP tb s L h):tabP tb s (L++M) h:=by
 obtain⟨K,p,c,h1,h2,h3⟩:=ht;refine⟨K,p,c,by simp;omega,h2,?_⟩;rw[qYe oO];exact h3
def qDw {j:Nat}{b:Bool}(h:K[j]?=some b)(m:Nat)(hm:m<3):(iT L K 0)[j*3+m]?=(rc L j b)[m]?:=by
 have:=qYf (L:=L) h 0 m hm;rwa [jg]at this
def qGo {H H':List HP}{p:Option Addr}{N:Nat}(hs:Sub [cells tb [uPt s,.slice p N c] 201,sl p c 379 3 N (iT L K 0)] H H')(hN:K.length=N)(hK:N≤L.length+1)(h0:K[0]?≠some true):∀k,dU H k→dU (tabP tb s L::H') k:=by
 subst hN;exact pW hs (fun _ h=>⟨K,p,c,hK,h0,h⟩)
structure Base (w:World):Prop where
 tab:TabAt w
 pos:0<w.heap.size

def qRy (hE:Seat E)(hB:Base E.w0)(hwf:Wf L){m:Nat}{r:Rl}(hr:L[m]?=some r)(hk0:K[0]?=some false)(hl:r.left=0∨K[r.left]?=some true)(hrr:r.right=0∨K[r.right]?=some true)(hK:K.length≤L.length+1):
  Ct E 276 [uPt tb,.agg #[.int .i64 (Rl.kind (r):Nat),.int .u8 (Rl.byte (r):Nat),.int .i64 (Rl.left (r):Nat),.int .i64 (Rl.right (r):Nat),.int .i64 (Rl.times (r):Nat)]]
   [cells tb [uPt s,.slice (some ⟨g,0,none⟩) K.length c] 201,sl (some ⟨g,0,none⟩) c 379 3 K.length (iT L K 0)]
   (fun v Q=>v= .agg #[.int .u64 (key L (m+1):Nat),.int .i64 (lvl L (m+1)),.bool true]∧Q=[cells tb [uPt s,.slice (some ⟨g,0,none⟩) K.length c] 201,sl (some ⟨g,0,none⟩) c 379 3 K.length (iT L K 0)]):=fun R w hs=>by
 have hm:=(ae.1 hr).1;have hlen:=hwf.room;have hok:=hwf.ok m r hr;have hKl:0<K.length:=(ae.1 hk0).1;have s1:=hs;have s2:Sat E.w0 w (sl (some ⟨g,0,none⟩) c 379 3 K.length (iT L K 0)::[R]):=hs.tail;obtain⟨cur,s3,hc1,_⟩:=s2.slice;have hg:=s3.ptr;have htb:=s1.ptr;have hgl:g<w.heap.size:=(cz.1 hg.1).1;have htl:tb<w.heap.size:=(cz.1 htb.1).1;have t1:=s1.cell 1 O;have hT:TabAt w:=fun j hj=>hs.old_cell (hB.tab j hj)
 have cell:∀j b,K[j]?=some b→∀k v,(rc L j b)[k]?=some v→w.cell? ⟨g,j*3+k,none⟩=some v:=fun j b hj k v hv=>by
  have hk3:k<3:=by have:=(ae.1 hv).1;rwa [xZ]at this
  exact HasC.cell (HasC.slice (by rw[qDw hj k hk3];exact hv)) s2
 have hn:0<K.length∧K.length≤c∧K.length≤1048577:=⟨hKl,hc1,by unfold fP at hlen;omega⟩
 have fin:∀v,Calls Tryz.prog 276 #[uPt tb,.agg #[.int .i64 (Rl.kind (r):Nat),.int .u8 (Rl.byte (r):Nat),.int .i64 (Rl.left (r):Nat),.int .i64 (Rl.right (r):Nat),.int .i64 (Rl.times (r):Nat)]] w (fun e w'=>e= .returned v∧Below w.heap.size w w')→v= .agg #[.int .u64 (key L (m+1):Nat),.int .i64 (lvl L (m+1)),.bool true]→
   Calls E.P 276 ⟨[uPt tb,.agg #[.int .i64 (Rl.kind (r):Nat),.int .u8 (Rl.byte (r):Nat),.int .i64 (Rl.left (r):Nat),.int .i64 (Rl.right (r):Nat),.int .i64 (Rl.times (r):Nat)]]⟩ w (fun e w'=>∃v Qs,e= .returned v∧(v= .agg #[.int .u64 (key L (m+1):Nat),.int .i64 (lvl L (m+1)),.bool true]∧Qs=[cells tb [uPt s,.slice (some ⟨g,0,none⟩) K.length c] 201,sl (some ⟨g,0,none⟩) c 379 3 K.length (iT L K 0)])∧Sat E.w0 w' (Qs++[R])):=by
  intro v hv he;rw[hE.P];exact hv.mono fun e w'⟨h1,h2⟩=>⟨v,_,h1,⟨he,O⟩,hs.grow h2⟩
 have z0:=cell 0 false hk0 0 _ O;have z1:=cell 0 false hk0 1 _ O;have z2:=cell 0 false hk0 2 _ O;simp only[xq,jg]at z0 z1 z2;cases r with
 |letter b=>
  have hkl:=jD hr
  exact fin _ (qEu w tb g K.length c b t1 hgl htl hn z0 z1 z2) (by rw[hkl.1,hkl.2])
 |pair l r'=>
  have hkl:=nI hr hok
  obtain⟨o1,o2,o3,o4⟩:=hok
  have kl:K[l]?=some true:=hl.resolve_left (by simp only[Rl.left];omega)
  have kr:K[r']?=some true:=hrr.resolve_left (by simp only[Rl.right];omega)
  have ll:=(ae.1 kl).1
  have lr:=(ae.1 kr).1
  have b1:=qDh hwf l oO
  have b2:=qDh hwf r' oO
  unfold fP at hlen
  by_cases hgood:l≠r'∧0≤lvl L l∧0≤lvl L r'
  ·obtain⟨v1,e1⟩:=zh hgood.2.1
   obtain⟨v2,e2⟩:=zh hgood.2.2
   have c1:=cell l true kl 1 _ O
   have c2:=cell r' true kr 1 _ O
   rw[e1]at c1
   rw[e2]at c2
   refine fin _ (qKc w tb g K.length c l r' (key L l) (key L r') v1 v2 (max v1 v2) O hT ll lr (jY hwf l) (jY hwf r') oO oO hgood.1 t1 hgl htl hn (cell l true kl 0 _ O) c1 (cell l true kl 2 _ O) (cell r' true kr 0 _ O) c2 (cell r' true kr 2 _ O)) ?_
   rw[hkl.1,hkl.2,if_pos hgood,e1,e2];rfl
  have hbad:l=r'∨lvl L l<0∨lvl L r'<0:=by
   by_cases h1:l=r'
   ·exact .inl h1
   by_cases h2:0≤lvl L l
   ·by_cases h3:0≤lvl L r'
    ·exact absurd ⟨h1,h2,h3⟩ hgood
    exact .inr (.inr oO)
   exact .inr (.inl oO)
  refine fin _ (qBs w tb g K.length c l r' (key L l) (key L r') (lvl L l) (lvl L r') ll lr (jY hwf l) (jY hwf r') hbad t1 hgl htl hn (cell l true kl 0 _ O) (cell l true kl 1 _ O) (cell l true kl 2 _ O) (cell r' true kr 0 _ O) (cell r' true kr 1 _ O) (cell r' true kr 2 _ O)) ?_
  rw[hkl.1,hkl.2,if_neg hgood]
 |power x k=>
  have hkl:=mY hr hok
  obtain⟨o1,o2,o3⟩:=hok
  have kl:K[x]?=some true:=hl.resolve_left (by simp only[Rl.left];omega)
  have ll:=(ae.1 kl).1
  have b1:=qDh hwf x oO
  have hkk:k<9223372036854775808:=by have:=power_le hwf hr;unfold dC at this;omega
  unfold fP at hlen
  refine fin _ (qGz w tb g K.length c x (key L x) k (lvl L x) _ O ll (jY hwf x) hkk oO t1 hgl htl hn (cell x true kl 0 _ O) (cell x true kl 1 _ O) (cell x true kl 2 _ O) z0 z1 z2) ?_
  rw[hkl.1,hkl.2]
def rF (hE:Seat E)(hB:Base E.w0)(hwf:Wf L){m N:Nat}{r:Rl}(hN:K.length=N)(hr:L[m]?=some r)(hk0:K[0]?=some false)(hl:r.left=0∨K[r.left]?=some true)(hrr:r.right=0∨K[r.right]?=some true)(hK:K.length≤L.length+1):
  Ct E 276 [uPt tb,.agg #[.int .i64 (Rl.kind (r):Nat),.int .u8 (Rl.byte (r):Nat),.int .i64 (Rl.left (r):Nat),.int .i64 (Rl.right (r):Nat),.int .i64 (Rl.times (r):Nat)]]
   [cells tb [uPt s,.slice (some ⟨g,0,none⟩) N c] 201,sl (some ⟨g,0,none⟩) c 379 3 N (iT L K 0)]
   (fun v Q=>v= .agg #[.int .u64 (key L (m+1):Nat),.int .i64 (lvl L (m+1)),.bool true]∧Q=[cells tb [uPt s,.slice (some ⟨g,0,none⟩) N c] 201,sl (some ⟨g,0,none⟩) c 379 3 N (iT L K 0)]):=by
 subst hN;exact qRy hE hB hwf hr hk0 hl hrr hK
