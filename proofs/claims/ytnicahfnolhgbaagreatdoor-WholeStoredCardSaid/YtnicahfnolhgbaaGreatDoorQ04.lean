import Derived.Test.YtnicahfnolhgbaaGreatDoorQ22
set_option linter.all false
set_option maxHeartbeats 1000000
namespace Go.Proofs.YtnicahfnolhgbaaGreatDoor
section
open Go Go.RowKit Eg
set_option maxRecDepth 100000
variable {w w':World}{tb s:Nat}{rv:Value}{L:List Rl}{K:List Bool}

def rc (L:List Rl)(i:Nat)(b:Bool):List Value:=if b then[.int .u64 (key L i:Nat),.int .i64 (Bt L i),.bool true]else[.int .u64 0,.int .i64 0,.bool false]
def yX (L:List Rl)(i:Nat)(b:Bool):(rc L i b).length=3:=by unfold rc;split <;>rfl
def jC (L:List Rl):List Bool->Nat->List Value
 |[],_=>[]
 |b::K,i=>rc L i b++jC L K (i+1)
def qNn (L:List Rl)(K M:List Bool)(i:Nat):jC L (K++M) i=jC L K i++jC L M (i+K.length):=by
 induction K generalizing i with
 |nil=>simp[jC]
 |cons b K ih=>rw[jq,jC,jC,ih,ah,az,show i+1+K.length=i+(K.length+1) by omega]
def zAe {j b}(h:K[j]?=some b)(i m:Nat)(hm:m<3):(jC L K i)[j*3+m]?=(rc L (i+j) b)[m]?:=by
 induction K generalizing i j with
 |nil=>simp at h
 |cons a K ih=>
  rw[jC]
  cases j with
  |zero=>
   obtain rfl:a=b:=by simpa using h
   rw[aj (by rw[yX];omega),zi,jh,xh]
  |succ j=>
   rw[bi (by rw[yX];omega),yX,show(j+1)*3+m-3=j*3+m by omega,ih (by simpa using h),show i+1+j=i+(j+1) by omega]
def zAd {M i}(h:i+K.length<=L.length+1):jC (L++M) K i=jC L K i:=by
 induction K generalizing i with
 |nil=>rfl
 |cons b K ih=>
  rw[az]at h
  rw[jC,jC,ih oO]
  congr 1
  unfold rc
  rw[fO M oO,kY M oO]
def qPy (L:List Rl)(k i:Nat):jC L (List.replicate k false) i=(Builtin.zeroCells #[.int .u64 0,.int .i64 0,.bool false] k).toList:=by
 induction k generalizing i with
 |zero=>simp[jC,Builtin.zeroCells]
 |succ k ih=>
  rw[dz,jC,ih]
  have:(Builtin.zeroCells #[.int .u64 0,.int .i64 0,.bool false] (k+1)).toList=[.int .u64 0,.int .i64 0,.bool false]++(Builtin.zeroCells #[.int .u64 0,.int .i64 0,.bool false] k).toList:=by
   apply mh;intro j;simp only[Builtin.zeroCells,AX,Array.toList_range,bn];by_cases hj:j<3
   ·rw[aj (by simpa using hj),lu (by simp;omega)];have:j=0\/j=1\/j=2:=oO;rcases this with rfl|rfl|rfl<;>rfl
   rw[bi (by simp;omega)];by_cases hA:j<(k+1)*3
   ·rw[lu (by simpa using hA)];simp only[az,iw,bn];rw[lu (by simp;omega)];simp only[ut];congr 2;simp;omega
   rw[ku (by simp;omega)];simp only[az,iw,bn];rw[ku (by simp;omega)]
  rw[this]
  rfl
def zAf {j:Nat}(h:j<K.length)(i:Nat):jC L (K.set j true) i=(((jC L K i).set (j*3) (.int .u64 (key L (i+j):Nat))).set (j*3+1) (.int .i64 (Bt L (i+j)))).set (j*3+2) (.bool true):=by
 induction K generalizing i j with
 |nil=>simp at h
 |cons a K ih=>
  cases j with
  |zero=>
   rw[List.set_cons_zero,jC,jC]
   have:∃x y z,rc L i a=[x,y,z]:=by unfold rc;split <;>exact⟨_,_,_,rfl⟩
   obtain⟨x,y,z,e⟩:=this
   rw[e,xh]
   rfl
  |succ j=>
   rw[List.set_cons_succ,jC,jC,ih (by simpa using h)]
   have e:∀(n:Nat)(v:Value)(l:List Value),(rc L i a++l).set (n+3) v=rc L i a++l.set n v:=by
    intro n v l;have:∃x y z,rc L i a=[x,y,z]:=by unfold rc;split <;>exact⟨_,_,_,rfl⟩
    obtain⟨x,y,z,e⟩:=this;rw[e];rfl
   rw[show(j+1)*3=j*3+3 by omega,e,show j*3+3+1=(j*3+1)+3 by omega,e,show j*3+3+2=(j*3+2)+3 by omega,e,show i+(j+1)=i+1+j by omega]

structure IX (w:World)(tb s:Nat)(rv:Value)(L:List Rl)(K:List Bool):Prop where
 top:CQ w tb [.pointer (some ⟨s,0,none⟩),rv] 177
 row:w.ownsRow 0 322 3 rv K.length (jC L K 0)
 klen:K.length<=L.length+1
 k0:K[0]?≠some true
def IX.slice (h:IX w tb s rv L K):∃a c,rv= .slice a K.length c/\K.length<=c:=by
 rcases h.row.2 with⟨rfl,h0⟩|⟨g,cap,cur,rfl,_,_,hc,_⟩
 ·exact⟨none,0,by rw[h0],oO⟩
 exact⟨_,_,O,hc⟩
end
section
open Go Go.RowKit Eg
set_option maxRecDepth 100000
variable {w w' w1:World}{tb s:Nat}{rv:Value}{L:List Rl}{K:List Bool}

def Gm.trans {F:Nat->Prop}(h:Gm F w w1)(k:Gm F w1 w'):Gm F w w':=
 ⟨k.os.trans h.os,k.tape.trans h.tape,k.output.trans h.output,jv h.size k.size,fun i hi hF=>(k.block i (mi hi h.size) hF).trans (h.block i hi hF)⟩
def Gm.mono {F G:Nat->Prop}(h:Gm F w w')(hA:∀k,k<w.heap.size->F k->G k):Gm G w w':=
 ⟨h.os,h.tape,h.output,h.size,fun k hk hG=>h.block k hk (fun hF=>hG (hA k hk hF))⟩
def addr_add (g k:Nat):(⟨g,0,none⟩:Addr).add k=⟨g,k,none⟩:=by
 unfold Addr.add;by_cases h:k=0
 ·rw[if_pos h,h]
 rw[if_neg h];simp
def qTv {T:List Nat}{n:Nat}(h:T.Pairwise (· > ·))(h1:∀x∈T,1<=x/\x<=n):T.length<=n:=by
 induction T generalizing n with
 |nil=>simp
 |cons a T ih=>
  rw[List.pairwise_cons]at h
  have ha:=h1 a BF
  have:=ih (n:=a-1) h.2 (fun x hx=>⟨(h1 x (by simp[hx])).1,by have:=h.1 x hx;omega⟩)
  simp;omega
def Ii:List Bool->Nat
 |[]=>0
 |b::K=>(if b then 0 else 1)+Ii K
def Ut {K j}(h:K[j]?=some false):Ii (K.set j true)+1=Ii K:=by
 induction K generalizing j with
 |nil=>simp at h
 |cons b K ih=>
  cases j with
  |zero=>
   obtain rfl:b=false:=by simpa using h
   simp[Ii];omega
  |succ j=>
   have:=ih (j:=j) (by simpa using h)
   simp only[List.set_cons_succ,Ii];omega

end
end Go.Proofs.YtnicahfnolhgbaaGreatDoor
namespace Eg
def qGy {L i b}(h:L[i]?=some (.letter b)):len L (i+1)=1:=by rw[len,fP h];rfl
def Xg {L i l r}(h:L[i]?=some (.pair l r))(hk:(Rl.pair l r).ok (i+1)):len L (i+1)=len L l+len L r:=by rw[len,iK h hk];simp[len]
def pM {L i x k}(h:L[i]?=some (.power x k))(hk:(Rl.power x k).ok (i+1)):len L (i+1)=k*len L x:=by
 rw[len,iY h hk];simp[len,List.length_flatten]
def YM {L}(h:Wf L):∀i,1<=i->i<=L.length->1<=len L i:=by
 intro i;induction i using Nat.strongRecOn with
 |ind i ih=>
  intro h1 h2
  obtain⟨j,rfl⟩:∃j,i=j+1:=⟨i-1,oO⟩
  have hj:L[j]?=some (L[j]'oO):=ag _
  generalize L[j]'oO=r at hj
  have hA:=h.ok j r hj
  cases r with
  |letter b=>rw[qGy hj];omega
  |pair l r=>
   rw[Xg hj hA]
   obtain⟨a,b,_,_⟩:=hA
   have:=ih l oO a oO
   omega
  |power x k=>
   rw[pM hj hA]
   obtain⟨a,b,c⟩:=hA
   have:=ih x oO a oO
   exact jv oO (zl (by omega:1<=k) this)
def Lg {L:List Rl}(h:Wf L){i x k:Nat}(hi:L[i]?=some (.power x k)):k<=dC:=by
 have hA:=h.ok i _ hi;have h1:=pM hi hA;obtain⟨a,b,c⟩:=hA;have hB:=(ae.1 hi).1;have h2:=YM h x a oO;have h3:=h.short (i+1);rw[h1]at h3;exact jv (by simpa using pu k h2) h3
end Eg
namespace Go.Proofs.YtnicahfnolhgbaaGreatDoor
open Go Go.RowKit Sl Eg
variable {E:Bp}{L:List Rl}{K:List Bool}{tb s g c:Nat}
def BV (tb s:Nat)(L:List Rl):HP:=fun h=>∃K p c,K.length<=L.length+1/\K[0]?≠some true/\
 dW [cells tb [uPt s,.slice p K.length c] 177,sl p c 322 3 K.length (jC L K 0)] h
def sG (M:List Rl){h}(ht:BV tb s L h):BV tb s (L++M) h:=by
 obtain⟨K,p,c,h1,h2,h3⟩:=ht;refine⟨K,p,c,by simp;omega,h2,?_⟩;rw[zAd oO];exact h3
def Tu {j b}(h:K[j]?=some b)(m:Nat)(hm:m<3):(jC L K 0)[j*3+m]?=(rc L j b)[m]?:=by
 have:=zAe (L:=L) h 0 m hm;rwa [jh]at this
def qHp {H H' p N}(hs:IW [cells tb [uPt s,.slice p N c] 177,sl p c 322 3 N (jC L K 0)] H H')(hN:K.length=N)(hK:N<=L.length+1)(h0:K[0]?≠some true):∀k,dW H k->dW (BV tb s L::H') k:=by
 subst hN;exact fZ hs (fun _ h=>⟨K,p,c,hK,h0,h⟩)
structure Ca (w:World):Prop where
 tab:Fw w
 pos:0<w.heap.size

def qTf (hE:BP E)(hB:Ca E.w0)(hC:Wf L){m:Nat}{r:Rl}(hr:L[m]?=some r)(hG:K[0]?=some false)(hl:r.left=0\/K[r.left]?=some true)(hM:r.right=0\/K[r.right]?=some true)(hK:K.length<=L.length+1):
  Ct E 221 [uPt tb,.agg #[.int .i64 (Rl.kind (r):Nat),.int .u8 (Rl.byte (r):Nat),.int .i64 (Rl.left (r):Nat),.int .i64 (Rl.right (r):Nat),.int .i64 (Rl.times (r):Nat)]]
   [cells tb [uPt s,.slice (some ⟨g,0,none⟩) K.length c] 177,sl (some ⟨g,0,none⟩) c 322 3 K.length (jC L K 0)]
   (fun v Q=>v= .agg #[.int .u64 (key L (m+1):Nat),.int .i64 (Bt L (m+1)),.bool true]/\Q=[cells tb [uPt s,.slice (some ⟨g,0,none⟩) K.length c] 177,sl (some ⟨g,0,none⟩) c 322 3 K.length (jC L K 0)]):=fun R w hs=>by
 have hm:=(ae.1 hr).1;have hF:=hC.room;have hH:=hC.ok m r hr;have hN:0<K.length:=(ae.1 hG).1;have s1:=hs;have s2:CR E.w0 w (sl (some ⟨g,0,none⟩) c 322 3 K.length (jC L K 0)::[R]):=hs.tail;obtain⟨cur,s3,hO,_⟩:=s2.slice;have hg:=s3.ptr;have hP:=s1.ptr;have hI:g<w.heap.size:=(ic.1 hg.1).1;have hJ:tb<w.heap.size:=(ic.1 hP.1).1;have t1:=s1.cell 1 O;have hT:Fw w:=fun j hj=>hs.old_cell (hB.tab j hj)
 have cell:∀j b,K[j]?=some b->∀k v,(rc L j b)[k]?=some v->w.cell? ⟨g,j*3+k,none⟩=some v:=fun j b hj k v hv=>by
  have hQ:k<3:=by have:=(ae.1 hv).1;rwa [yX]at this
  exact Ew.cell (Ew.slice (by rw[Tu hj k hQ];exact hv)) s2
 have hn:0<K.length/\K.length<=c/\K.length<=1048577:=⟨hN,hO,by unfold fJ at hF;omega⟩
 have fin:∀v,Calls Tryz.prog 221 #[uPt tb,.agg #[.int .i64 (Rl.kind (r):Nat),.int .u8 (Rl.byte (r):Nat),.int .i64 (Rl.left (r):Nat),.int .i64 (Rl.right (r):Nat),.int .i64 (Rl.times (r):Nat)]] w (fun e w'=>e= .returned v/\Below w.heap.size w w')->v= .agg #[.int .u64 (key L (m+1):Nat),.int .i64 (Bt L (m+1)),.bool true]->
   Calls E.P 221 ⟨[uPt tb,.agg #[.int .i64 (Rl.kind (r):Nat),.int .u8 (Rl.byte (r):Nat),.int .i64 (Rl.left (r):Nat),.int .i64 (Rl.right (r):Nat),.int .i64 (Rl.times (r):Nat)]]⟩ w (fun e w'=>∃v Qs,e= .returned v/\(v= .agg #[.int .u64 (key L (m+1):Nat),.int .i64 (Bt L (m+1)),.bool true]/\Qs=[cells tb [uPt s,.slice (some ⟨g,0,none⟩) K.length c] 177,sl (some ⟨g,0,none⟩) c 322 3 K.length (jC L K 0)])/\CR E.w0 w' (Qs++[R])):=by
  intro v hv he;rw[hE.P];exact hv.mono fun e w'⟨h1,h2⟩=>⟨v,_,h1,⟨he,O⟩,hs.grow h2⟩
 have z0:=cell 0 false hG 0 _ O;have z1:=cell 0 false hG 1 _ O;have z2:=cell 0 false hG 2 _ O;simp only[zi,jh]at z0 z1 z2;cases r with
 |letter b=>
  have hD:=jL hr
  exact fin _ (qFo w tb g K.length c b t1 hI hJ hn z0 z1 z2) (by rw[hD.1,hD.2])
 |pair l r'=>
  have hD:=nM hr hH
  obtain⟨o1,o2,o3,o4⟩:=hH
  have kl:K[l]?=some true:=hl.resolve_left (by simp only[Rl.left];omega)
  have kr:K[r']?=some true:=hM.resolve_left (by simp only[Rl.right];omega)
  have ll:=(ae.1 kl).1
  have lr:=(ae.1 kr).1
  have b1:=XG hC l oO
  have b2:=XG hC r' oO
  unfold fJ at hF
  by_cases hA:l≠r'/\0<=Bt L l/\0<=Bt L r'
  ·obtain⟨v1,e1⟩:=AY hA.2.1
   obtain⟨v2,e2⟩:=AY hA.2.2
   have c1:=cell l true kl 1 _ O
   have c2:=cell r' true kr 1 _ O
   rw[e1]at c1
   rw[e2]at c2
   refine fin _ (qLd w tb g K.length c l r' (key L l) (key L r') v1 v2 (max v1 v2) O hT ll lr (kG hC l) (kG hC r') oO oO hA.1 t1 hI hJ hn (cell l true kl 0 _ O) c1 (cell l true kl 2 _ O) (cell r' true kr 0 _ O) c2 (cell r' true kr 2 _ O)) ?_
   rw[hD.1,hD.2,if_pos hA,e1,e2];rfl
  have hL:l=r'\/Bt L l<0\/Bt L r'<0:=by
   by_cases h1:l=r'
   ·exact .inl h1
   by_cases h2:0<=Bt L l
   ·by_cases h3:0<=Bt L r'
    ·exact absurd ⟨h1,h2,h3⟩ hA
    exact .inr (.inr oO)
   exact .inr (.inl oO)
  refine fin _ (qCp w tb g K.length c l r' (key L l) (key L r') (Bt L l) (Bt L r') ll lr (kG hC l) (kG hC r') hL t1 hI hJ hn (cell l true kl 0 _ O) (cell l true kl 1 _ O) (cell l true kl 2 _ O) (cell r' true kr 0 _ O) (cell r' true kr 1 _ O) (cell r' true kr 2 _ O)) ?_
  rw[hD.1,hD.2,if_neg hA]
 |power x k=>
  have hD:=nA hr hH
  obtain⟨o1,o2,o3⟩:=hH
  have kl:K[x]?=some true:=hl.resolve_left (by simp only[Rl.left];omega)
  have ll:=(ae.1 kl).1
  have b1:=XG hC x oO
  have hR:k<9223372036854775808:=by have:=Lg hC hr;unfold dC at this;omega
  unfold fJ at hF
  refine fin _ (qIb w tb g K.length c x (key L x) k (Bt L x) _ O ll (kG hC x) hR oO t1 hI hJ hn (cell x true kl 0 _ O) (cell x true kl 1 _ O) (cell x true kl 2 _ O) z0 z1 z2) ?_
  rw[hD.1,hD.2]
def rE (hE:BP E)(hB:Ca E.w0)(hA:Wf L){m N:Nat}{r:Rl}(hN:K.length=N)(hr:L[m]?=some r)(hC:K[0]?=some false)(hl:r.left=0\/K[r.left]?=some true)(hD:r.right=0\/K[r.right]?=some true)(hK:K.length<=L.length+1):
  Ct E 221 [uPt tb,.agg #[BK (Rl.kind (r)),.int .u8 (Rl.byte (r):Nat),BK (Rl.left (r)),BK (Rl.right (r)),BK (Rl.times (r))]]
   [cells tb [uPt s,.slice (BM g) N c] 177,sl (BM g) c 322 3 N (jC L K 0)]
   (fun v Q=>v= .agg #[.int .u64 (key L (m+1):Nat),BL (Bt L (m+1)),.bool true]/\Q=[cells tb [uPt s,.slice (BM g) N c] 177,sl (BM g) c 322 3 N (jC L K 0)]):=by
 subst hN;exact qTf hE hB hA hr hC hl hD hK
