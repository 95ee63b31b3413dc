import Derived.Test.YtlmpojkmeglepaaGreatDoorQ22
set_option linter.all false
set_option maxHeartbeats 1000000
namespace Go.Proofs.YtlmpojkmeglepaaGreatDoor
section
open Go Go.RowKit Eg
set_option maxRecDepth 100000
variable {w w':World}{tb s:Nat}{rv:Value}{L:List Rl}{K:List Bool}

def rc (L:List Rl)(i:Nat)(b:Bool):List Value:=if b then[.int .u64 (key L i:Nat),.int .i64 (lvl L i),.bool true]else[.int .u64 0,.int .i64 0,.bool false]
theorem wT (L:List Rl)(i:Nat)(b:Bool):(rc L i b).length=3:=by unfold rc;split <;>rfl
def jA (L:List Rl):List Bool→Nat→List Value
 |[],_=>[]
 |b::K,i=>rc L i b++jA L K (i+1)
theorem qIs (L:List Rl)(K M:List Bool)(i:Nat):jA L (K++M) i=jA L K i++jA L M (i+K.length):=by
 induction K generalizing i with
 |nil=>simp[jA]
 |cons b K ih=>rw[List.cons_append,jA,jA,ih,List.append_assoc,List.length_cons,show i+1+K.length=i+(K.length+1) by omega]
theorem qTk {j:Nat}{b:Bool}(h:K[j]?=some b)(i m:Nat)(hm:m<3):(jA L K i)[j*3+m]?=(rc L (i+j) b)[m]?:=by
 induction K generalizing i j with
 |nil=>simp at h
 |cons a K ih=>
  rw[jA]
  cases j with
  |zero=>
   obtain rfl:a=b:=by simpa using h
   rw[List.getElem?_append_left (by rw[wT];omega),Nat.zero_mul,Nat.zero_add,Nat.add_zero]
  |succ j=>
   rw[List.getElem?_append_right (by rw[wT];omega),wT,show(j+1)*3+m-3=j*3+m by omega,ih (by simpa using h),show i+1+j=i+(j+1) by omega]
theorem qTj {M:List Rl}{i:Nat}(h:i+K.length≤L.length+1):jA (L++M) K i=jA L K i:=by
 induction K generalizing i with
 |nil=>rfl
 |cons b K ih=>
  rw[List.length_cons]at h
  rw[jA,jA,ih oO]
  congr 1
  unfold rc
  rw[fQ M oO,jX M oO]
theorem qKz (L:List Rl)(k i:Nat):jA L (List.replicate k false) i=(Builtin.zeroCells #[.int .u64 0,.int .i64 0,.bool false] k).toList:=by
 induction k generalizing i with
 |zero=>simp[jA,Builtin.zeroCells]
 |succ k ih=>
  rw[List.replicate_succ,jA,ih]
  have:(Builtin.zeroCells #[.int .u64 0,.int .i64 0,.bool false] (k+1)).toList=[.int .u64 0,.int .i64 0,.bool false]++(Builtin.zeroCells #[.int .u64 0,.int .i64 0,.bool false] k).toList:=by
   apply List.ext_getElem?
   intro j
   simp only[Builtin.zeroCells,Array.toList_map,Array.toList_range,List.getElem?_map]
   by_cases hj:j<3
   ·rw[List.getElem?_append_left (by simpa using hj),List.getElem?_range (by simp;omega)]
    have:j=0∨j=1∨j=2:=oO
    rcases this with rfl|rfl|rfl<;>rfl
   rw[List.getElem?_append_right (by simp;omega)]
   by_cases hj2:j<(k+1)*3
   ·rw[List.getElem?_range (by simpa using hj2)]
    simp only[List.length_cons,List.length_nil,List.getElem?_map]
    rw[List.getElem?_range (by simp;omega)]
    simp only[Option.map_some]
    congr 2
    simp
    omega
   rw[List.getElem?_eq_none (by simp;omega)]
   simp only[List.length_cons,List.length_nil,List.getElem?_map]
   rw[List.getElem?_eq_none (by simp;omega)]
  rw[this]
  rfl
theorem qTl {j:Nat}(h:j<K.length)(i:Nat):jA L (K.set j true) i=(((jA L K i).set (j*3) (.int .u64 (key L (i+j):Nat))).set (j*3+1) (.int .i64 (lvl L (i+j)))).set (j*3+2) (.bool true):=by
 induction K generalizing i j with
 |nil=>simp at h
 |cons a K ih=>
  cases j with
  |zero=>
   rw[List.set_cons_zero,jA,jA]
   have:∃x y z,rc L i a=[x,y,z]:=by unfold rc;split <;>exact⟨_,_,_,rfl⟩
   obtain⟨x,y,z,e⟩:=this
   rw[e,Nat.add_zero]
   rfl
  |succ j=>
   rw[List.set_cons_succ,jA,jA,ih (by simpa using h)]
   have e:∀(n:Nat)(v:Value)(l:List Value),(rc L i a++l).set (n+3) v=rc L i a++l.set n v:=by
    intro n v l
    have:∃x y z,rc L i a=[x,y,z]:=by unfold rc;split <;>exact⟨_,_,_,rfl⟩
    obtain⟨x,y,z,e⟩:=this
    rw[e]
    rfl
   rw[show(j+1)*3=j*3+3 by omega,e,show j*3+3+1=(j*3+1)+3 by omega,e,show j*3+3+2=(j*3+2)+3 by omega,e,show i+(j+1)=i+1+j by omega]

structure TableAt (w:World)(tb s:Nat)(rv:Value)(L:List Rl)(K:List Bool):Prop where
 top:Blk w tb [.pointer (some ⟨s,0,none⟩),rv] 139
 row:w.ownsRow 0 187 3 rv K.length (jA L K 0)
 klen:K.length≤L.length+1
 k0:K[0]?≠some true
theorem TableAt.slice (h:TableAt w tb s rv L K):∃a c,rv= .slice a K.length c∧K.length≤c:=by
 rcases h.row.2 with⟨rfl,h0⟩|⟨g,cap,cur,rfl,_,_,hc,_⟩
 ·exact⟨none,0,by rw[h0],oO⟩
 exact⟨_,_,O,hc⟩
end
section
open Go Go.RowKit Eg
set_option maxRecDepth 100000
variable {w w' w1:World}{tb s:Nat}{rv:Value}{L:List Rl}{K:List Bool}

theorem Upd.trans {F:Nat→Prop}(h:Upd F w w1)(k:Upd F w1 w'):Upd F w w':=
 ⟨k.os.trans h.os,k.tape.trans h.tape,k.output.trans h.output,Nat.le_trans h.size k.size,fun i hi hF=>(k.block i (Nat.lt_of_lt_of_le hi h.size) hF).trans (h.block i hi hF)⟩
theorem Upd.mono {F G:Nat→Prop}(h:Upd F w w')(hFG:∀k,k<w.heap.size→F k→G k):Upd G w w':=
 ⟨h.os,h.tape,h.output,h.size,fun k hk hG=>h.block k hk (fun hF=>hG (hFG k hk hF))⟩
theorem addr_add (g k:Nat):(⟨g,0,none⟩:Addr).add k=⟨g,k,none⟩:=by
 unfold Addr.add
 by_cases h:k=0
 ·rw[if_pos h,h]
 rw[if_neg h];simp
theorem qOz {T:List Nat}{n:Nat}(h:T.Pairwise (· > ·))(h1:∀x∈T,1≤x∧x≤n):T.length≤n:=by
 induction T generalizing n with
 |nil=>simp
 |cons a T ih=>
  rw[List.pairwise_cons]at h
  have ha:=h1 a (by simp)
  have:=ih (n:=a-1) h.2 (fun x hx=>⟨(h1 x (by simp[hx])).1,by have:=h.1 x hx;omega⟩)
  simp;omega
def cntF:List Bool→Nat
 |[]=>0
 |b::K=>(if b then 0 else 1)+cntF K
theorem zD {K:List Bool}{j:Nat}(h:K[j]?=some false):cntF (K.set j true)+1=cntF K:=by
 induction K generalizing j with
 |nil=>simp at h
 |cons b K ih=>
  cases j with
  |zero=>
   obtain rfl:b=false:=by simpa using h
   simp[cntF];omega
  |succ j=>
   have:=ih (j:=j) (by simpa using h)
   simp only[List.set_cons_succ,cntF];omega

end
end Go.Proofs.YtlmpojkmeglepaaGreatDoor
namespace Eg
theorem tV {L:List Rl}{i:Nat}{b:UInt8}(h:L[i]?=some (.letter b)):len L (i+1)=1:=by rw[len,iB h];rfl
theorem qW {L:List Rl}{i l r:Nat}(h:L[i]?=some (.pair l r))(hk:(Rl.pair l r).ok (i+1)):len L (i+1)=len L l+len L r:=by rw[len,jQ h hk];simp[len]
theorem kL {L:List Rl}{i x k:Nat}(h:L[i]?=some (.power x k))(hk:(Rl.power x k).ok (i+1)):len L (i+1)=k*len L x:=by
 rw[len,jI h hk];simp[len,List.length_flatten]
theorem vK {L:List Rl}(h:Wf L):∀i,1≤i→i≤L.length→1≤len L i:=by
 intro i
 induction i using Nat.strongRecOn with
 |ind i ih=>
  intro h1 h2
  obtain⟨j,rfl⟩:∃j,i=j+1:=⟨i-1,oO⟩
  have hj:L[j]?=some (L[j]'oO):=List.getElem?_eq_getElem _
  generalize L[j]'oO=r at hj
  have hok:=h.ok j r hj
  cases r with
  |letter b=>rw[tV hj];omega
  |pair l r=>
   rw[qW hj hok]
   obtain⟨a,b,_,_⟩:=hok
   have:=ih l oO a oO
   omega
  |power x k=>
   rw[kL hj hok]
   obtain⟨a,b,c⟩:=hok
   have:=ih x oO a oO
   exact Nat.le_trans oO (Nat.mul_le_mul (by omega:1≤k) this)
theorem power_le {L:List Rl}(h:Wf L){i x k:Nat}(hi:L[i]?=some (.power x k)):k≤dC:=by
 have hok:=h.ok i _ hi
 have h1:=kL hi hok
 obtain⟨a,b,c⟩:=hok
 have hlt:=(List.getElem?_eq_some_iff.1 hi).1
 have h2:=vK h x a oO
 have h3:=h.short (i+1)
 rw[h1]at h3
 exact Nat.le_trans (by simpa using Nat.mul_le_mul_left k h2) h3
end Eg
namespace Go.Proofs.YtlmpojkmeglepaaGreatDoor
open Go Go.RowKit Sl Eg
variable {E:Env}{L:List Rl}{K:List Bool}{tb s g c:Nat}
def tabP (tb s:Nat)(L:List Rl):HP:=fun h=>∃K p c,K.length≤L.length+1∧K[0]?≠some true∧
 eG [cells tb [uPt s,.slice p K.length c] 139,sl p c 187 3 K.length (jA L K 0)] h
theorem kS (M:List Rl){h:PH}(ht:tabP tb s L h):tabP tb s (L++M) h:=by
 obtain⟨K,p,c,h1,h2,h3⟩:=ht
 refine⟨K,p,c,by simp;omega,h2,?_⟩
 rw[qTj oO];exact h3
theorem qBo {j:Nat}{b:Bool}(h:K[j]?=some b)(m:Nat)(hm:m<3):(jA L K 0)[j*3+m]?=(rc L j b)[m]?:=by
 have:=qTk (L:=L) h 0 m hm
 rwa [Nat.zero_add]at this
theorem qDt {H H':List HP}{p:Option Addr}{N:Nat}(hs:Sub [cells tb [uPt s,.slice p N c] 139,sl p c 187 3 N (jA L K 0)] H H')(hN:K.length=N)(hK:N≤L.length+1)(h0:K[0]?≠some true):∀k,eG H k→eG (tabP tb s L::H') k:=by
 subst hN
 exact ent_pack hs (fun _ h=>⟨K,p,c,hK,h0,h⟩)
structure Base (w:World):Prop where
 tab:TabAt w
 pos:0<w.heap.size

theorem qOo (hE:Seat E)(hB:Base E.w0)(hwf:Wf L){m:Nat}{r:Rl}(hr:L[m]?=some r)(hk0:K[0]?=some false)(hl:r.left=0∨K[r.left]?=some true)(hrr:r.right=0∨K[r.right]?=some true)(hK:K.length≤L.length+1):
  Ct E 117 [uPt tb,.agg #[.int .i64 (Rl.kind (r):Nat),.int .u8 (Rl.byte (r):Nat),.int .i64 (Rl.left (r):Nat),.int .i64 (Rl.right (r):Nat),.int .i64 (Rl.times (r):Nat)]]
   [cells tb [uPt s,.slice (some ⟨g,0,none⟩) K.length c] 139,sl (some ⟨g,0,none⟩) c 187 3 K.length (jA L K 0)]
   (fun v Q=>v= .agg #[.int .u64 (key L (m+1):Nat),.int .i64 (lvl L (m+1)),.bool true]∧Q=[cells tb [uPt s,.slice (some ⟨g,0,none⟩) K.length c] 139,sl (some ⟨g,0,none⟩) c 187 3 K.length (jA L K 0)]):=fun R w hs=>by
 have hm:=(List.getElem?_eq_some_iff.1 hr).1
 have hlen:=hwf.room
 have hok:=hwf.ok m r hr
 have hKl:0<K.length:=(List.getElem?_eq_some_iff.1 hk0).1
 have s1:=hs
 have s2:Sat E.w0 w (sl (some ⟨g,0,none⟩) c 187 3 K.length (jA L K 0)::[R]):=hs.tail
 obtain⟨cur,s3,hc1,_⟩:=s2.slice
 have hg:=s3.ptr
 have htb:=s1.ptr
 have hgl:g<w.heap.size:=(Array.getElem?_eq_some_iff.1 hg.1).1
 have htl:tb<w.heap.size:=(Array.getElem?_eq_some_iff.1 htb.1).1
 have t1:=s1.cell 1 O
 have hT:TabAt w:=fun j hj=>hs.old_cell (hB.tab j hj)
 have cell:∀j b,K[j]?=some b→∀k v,(rc L j b)[k]?=some v→w.cell? ⟨g,j*3+k,none⟩=some v:=fun j b hj k v hv=>by
  have hk3:k<3:=by have:=(List.getElem?_eq_some_iff.1 hv).1;rwa [wT]at this
  exact HasC.cell (HasC.slice (by rw[qBo hj k hk3];exact hv)) s2
 have hn:0<K.length∧K.length≤c∧K.length≤1048577:=⟨hKl,hc1,by unfold fB at hlen;omega⟩
 have fin:∀v,Calls Tryz.prog 117 #[uPt tb,.agg #[.int .i64 (Rl.kind (r):Nat),.int .u8 (Rl.byte (r):Nat),.int .i64 (Rl.left (r):Nat),.int .i64 (Rl.right (r):Nat),.int .i64 (Rl.times (r):Nat)]] w (fun e w'=>e= .returned v∧Below w.heap.size w w')→v= .agg #[.int .u64 (key L (m+1):Nat),.int .i64 (lvl L (m+1)),.bool true]→
   Calls E.P 117 ⟨[uPt tb,.agg #[.int .i64 (Rl.kind (r):Nat),.int .u8 (Rl.byte (r):Nat),.int .i64 (Rl.left (r):Nat),.int .i64 (Rl.right (r):Nat),.int .i64 (Rl.times (r):Nat)]]⟩ w (fun e w'=>∃v Qs,e= .returned v∧(v= .agg #[.int .u64 (key L (m+1):Nat),.int .i64 (lvl L (m+1)),.bool true]∧Qs=[cells tb [uPt s,.slice (some ⟨g,0,none⟩) K.length c] 139,sl (some ⟨g,0,none⟩) c 187 3 K.length (jA L K 0)])∧Sat E.w0 w' (Qs++[R])):=by
  intro v hv he
  rw[hE.P]
  exact hv.mono fun e w'⟨h1,h2⟩=>⟨v,_,h1,⟨he,O⟩,hs.grow h2⟩
 have z0:=cell 0 false hk0 0 _ O
 have z1:=cell 0 false hk0 1 _ O
 have z2:=cell 0 false hk0 2 _ O
 simp only[Nat.zero_mul,Nat.zero_add]at z0 z1 z2
 cases r with
 |letter b=>
  have hkl:=fT hr
  exact fin _ (qCd w tb g K.length c b t1 hgl htl hn z0 z1 z2) (by rw[hkl.1,hkl.2])
 |pair l r'=>
  have hkl:=jM hr hok
  obtain⟨o1,o2,o3,o4⟩:=hok
  have kl:K[l]?=some true:=hl.resolve_left (by simp only[Rl.left];omega)
  have kr:K[r']?=some true:=hrr.resolve_left (by simp only[Rl.right];omega)
  have ll:=(List.getElem?_eq_some_iff.1 kl).1
  have lr:=(List.getElem?_eq_some_iff.1 kr).1
  have b1:=qBd hwf l oO
  have b2:=qBd hwf r' oO
  unfold fB at hlen
  by_cases hgood:l≠r'∧0≤lvl L l∧0≤lvl L r'
  ·obtain⟨v1,e1⟩:=Int.eq_ofNat_of_zero_le hgood.2.1
   obtain⟨v2,e2⟩:=Int.eq_ofNat_of_zero_le hgood.2.2
   have c1:=cell l true kl 1 _ O
   have c2:=cell r' true kr 1 _ O
   rw[e1]at c1
   rw[e2]at c2
   refine fin _ (qHa w tb g K.length c l r' (key L l) (key L r') v1 v2 (max v1 v2) O hT ll lr (gQ hwf l) (gQ hwf r') oO oO hgood.1 t1 hgl htl hn (cell l true kl 0 _ O) c1 (cell l true kl 2 _ O) (cell r' true kr 0 _ O) c2 (cell r' true kr 2 _ O)) ?_
   rw[hkl.1,hkl.2,if_pos hgood,e1,e2];rfl
  have hbad:l=r'∨lvl L l<0∨lvl L r'<0:=by
   by_cases h1:l=r'
   ·exact .inl h1
   by_cases h2:0≤lvl L l
   ·by_cases h3:0≤lvl L r'
    ·exact absurd ⟨h1,h2,h3⟩ hgood
    exact .inr (.inr oO)
   exact .inr (.inl oO)
  refine fin _ (zV w tb g K.length c l r' (key L l) (key L r') (lvl L l) (lvl L r') ll lr (gQ hwf l) (gQ hwf r') hbad t1 hgl htl hn (cell l true kl 0 _ O) (cell l true kl 1 _ O) (cell l true kl 2 _ O) (cell r' true kr 0 _ O) (cell r' true kr 1 _ O) (cell r' true kr 2 _ O)) ?_
  rw[hkl.1,hkl.2,if_neg hgood]
 |power x k=>
  have hkl:=jS hr hok
  obtain⟨o1,o2,o3⟩:=hok
  have kl:K[x]?=some true:=hl.resolve_left (by simp only[Rl.left];omega)
  have ll:=(List.getElem?_eq_some_iff.1 kl).1
  have b1:=qBd hwf x oO
  have hkk:k<9223372036854775808:=by have:=power_le hwf hr;unfold dC at this;omega
  unfold fB at hlen
  refine fin _ (qEe w tb g K.length c x (key L x) k (lvl L x) _ O ll (gQ hwf x) hkk oO t1 hgl htl hn (cell x true kl 0 _ O) (cell x true kl 1 _ O) (cell x true kl 2 _ O) z0 z1 z2) ?_
  rw[hkl.1,hkl.2]
theorem qF (hE:Seat E)(hB:Base E.w0)(hwf:Wf L){m N:Nat}{r:Rl}(hN:K.length=N)(hr:L[m]?=some r)(hk0:K[0]?=some false)(hl:r.left=0∨K[r.left]?=some true)(hrr:r.right=0∨K[r.right]?=some true)(hK:K.length≤L.length+1):
  Ct E 117 [uPt tb,.agg #[.int .i64 (Rl.kind (r):Nat),.int .u8 (Rl.byte (r):Nat),.int .i64 (Rl.left (r):Nat),.int .i64 (Rl.right (r):Nat),.int .i64 (Rl.times (r):Nat)]]
   [cells tb [uPt s,.slice (some ⟨g,0,none⟩) N c] 139,sl (some ⟨g,0,none⟩) c 187 3 N (jA L K 0)]
   (fun v Q=>v= .agg #[.int .u64 (key L (m+1):Nat),.int .i64 (lvl L (m+1)),.bool true]∧Q=[cells tb [uPt s,.slice (some ⟨g,0,none⟩) N c] 139,sl (some ⟨g,0,none⟩) c 187 3 N (jA L K 0)]):=by
 subst hN
 exact qOo hE hB hwf hr hk0 hl hrr hK
end Go.Proofs.YtlmpojkmeglepaaGreatDoor
