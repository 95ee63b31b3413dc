import Derived.Test.YtlmpojkmeglepaaGreatDoorQ67
set_option linter.all false
set_option maxHeartbeats 1000000
namespace Go.Proofs.YtlmpojkmeglepaaGreatDoor
open Go Go.RowKit Sl Eg
section
theorem wS {a b:Nat}(ha:a<256)(hb:b<256)(h:UInt8.ofNat a=UInt8.ofNat b):a=b:=by
 have:=congrArg UInt8.toNat h
 rw[UInt8.toNat_ofNat',UInt8.toNat_ofNat']at this
 simp at this
 omega
theorem mF:∀(n:Nat){m:Nat}{s t:List UInt8},vput n++s=vput m++t→n=m∧s=t:=by
 intro n
 induction n using Nat.strongRecOn with
 |ind n ih=>
  intro m s t h
  by_cases hn:n<128<;>by_cases hm:m<128
  ·rw[gW hn,gW hm]at h
   simp only[List.cons_append,List.nil_append,List.cons.injEq]at h
   exact⟨wS oO oO h.1,h.2⟩
  ·rw[gW hn,kN hm]at h
   simp only[List.cons_append,List.nil_append,List.cons.injEq]at h
   have:=wS oO oO h.1
   omega
  ·rw[kN hn,gW hm]at h
   simp only[List.cons_append,List.nil_append,List.cons.injEq]at h
   have:=wS oO oO h.1
   omega
  rw[kN hn,kN hm]at h
  simp only[List.cons_append,List.cons.injEq]at h
  have h1:=wS oO oO h.1
  obtain⟨h2,h3⟩:=ih (n/128) oO h.2
  exact⟨oO,h3⟩
theorem rulB_inj {i:Nat}{r r':Rl}(h:r.ok i)(h':r'.ok i){s t:List UInt8}(e:rulB i r++s=rulB i r'++t):r=r'∧s=t:=by
 cases r<;>cases r'<;>simp only[rulB,List.cons_append,List.nil_append,List.cons.injEq,List.append_assoc]at e
 ·exact⟨by rw[e.2.1],e.2.2⟩
 ·exact absurd e.1 (by decide)
 ·exact absurd e.1 (by decide)
 ·exact absurd e.1 (by decide)
 ·obtain⟨e1,e2⟩:=mF _ e.2
  obtain⟨e3,e4⟩:=mF _ e2
  simp only[Rl.ok]at h h'
  refine⟨?_,e4⟩
  congr 1<;>omega
 ·exact absurd e.1 (by decide)
 ·exact absurd e.1 (by decide)
 ·exact absurd e.1 (by decide)
 obtain⟨e1,e2⟩:=mF _ e.2
 obtain⟨e3,e4⟩:=mF _ e2
 simp only[Rl.ok]at h h'
 refine⟨?_,e4⟩
 congr 1<;>omega
def encG:Nat→List Rl→List UInt8
 |_,[]=>[]
 |k,r::G=>rulB (k+1) r++encG (k+1) G
def GOk (k:Nat)(G:List Rl):Prop:=∀(i:Nat)(r:Rl),G[i]?=some r→r.ok (k+i+1)
theorem GOk.tail {k:Nat}{r:Rl}{G:List Rl}(h:GOk k (r::G)):r.ok (k+1)∧GOk (k+1) G:=⟨h 0 r rfl,fun i r' hr=>by
 have:=h (i+1) r' (by simpa using hr)
 rwa [show k+(i+1)+1=k+1+i+1 by omega]at this⟩
theorem qEw:∀{G G':List Rl}{k:Nat}{s t:List UInt8},G.length=G'.length→GOk k G→GOk k G'→encG k G++s=encG k G'++t→G=G'∧s=t
 |[],[],_,_,_,_,_,_,h=>⟨rfl,h⟩
 |[],_::_,_,_,_,h,_,_,_=>by simp at h
 |_::_,[],_,_,_,h,_,_,_=>by simp at h
 |r::G,r'::G',k,s,t,hl,h1,h2,h=>by
  simp only[encG,List.append_assoc]at h
  obtain⟨rfl,h3⟩:=rulB_inj h1.tail.1 h2.tail.1 h
  obtain⟨rfl,h4⟩:=qEw (by simpa using hl) h1.tail.2 h2.tail.2 h3
  exact⟨O,h4⟩
theorem vF:∀(A B:List Rl)(k:Nat),encG k (A++B)=encG k A++encG (k+A.length) B
 |[],B,k=>rfl
 |r::A,B,k=>by
  simp only[List.cons_append,encG,List.append_assoc,vF A B (k+1),List.length_cons]
  rw[show k+1+A.length=k+(A.length+1) by omega]
def encM (l:List (List UInt8×Nat)):List UInt8:=l.flatMap fun p=>fZ p.1++vput p.2
theorem qEx:∀{A B:List (List UInt8×Nat)}{s t:List UInt8},A.length=B.length→encM A++s=encM B++t→A=B∧s=t
 |[],[],_,_,_,h=>⟨rfl,h⟩
 |[],_::_,_,_,h,_=>by simp at h
 |_::_,[],_,_,h,_=>by simp at h
 |(a,n)::A,(b,m)::B,s,t,hl,h=>by
  simp only[encM,List.flatMap_cons,fZ,List.append_assoc]at h
  obtain⟨h1,h2⟩:=mF _ h
  obtain⟨rfl,h3⟩:=List.append_inj h2 h1
  obtain⟨rfl,h4⟩:=mF _ h3
  have h4':encM A++s=encM B++t:=by
   unfold encM fZ
   simpa only[List.append_assoc]using h4
  obtain⟨rfl,h5⟩:=qEx (A:=A) (B:=B) (by simpa using hl) h4'
  exact⟨O,h5⟩
def encA (G:List Rl)(A:List (List UInt8×Nat)):List UInt8:=vput G.length++encG 0 G++vput A.length++encM A
theorem encA_inj {G G':List Rl}{A A':List (List UInt8×Nat)}(h1:GOk 0 G)(h2:GOk 0 G')(h:encA G A=encA G' A'):G=G'∧A=A':=by
 simp only[encA,List.append_assoc]at h
 obtain⟨e1,h3⟩:=mF _ h
 obtain⟨rfl,h4⟩:=qEw e1 h1 h2 h3
 obtain⟨e2,h5⟩:=mF _ h4
 have h':encM A++[]=encM A'++[]:=by rw[List.append_nil,List.append_nil];exact h5
 exact⟨O,(qEx e2 h').1⟩
def gram (L:List Rl)(ids:List Nat):List Rl:=ids.map fun x=>jP ids (L.getD (x-1) (.letter 0))
theorem xP {L:List Rl}{ids:List Nat}{i n:Nat}{r:Rl}(h:ids[i]?=some (n+1))(hr:L[n]?=some r):(gram L ids)[i]?=some (jP ids r):=by
 unfold gram
 rw[List.getElem?_map,h]
 simp only[Option.map_some,Nat.add_sub_cancel,List.getD_eq_getElem?_getD,hr,Option.getD_some]
theorem qHo {L:List Rl}{ids:List Nat}(hx:∀x∈ids,1≤x∧x≤L.length):∀i,i≤ids.length→encR L ids i=encG 0 ((gram L ids).take i)
 |0,_=>rfl
 |i+1,hi=>by
  obtain⟨x,hxi⟩:∃x,ids[i]?=some x:=⟨_,List.getElem?_eq_getElem oO⟩
  have hxx:=hx x (List.mem_of_getElem? hxi)
  obtain⟨n,rfl⟩:∃n,x=n+1:=⟨x-1,oO⟩
  obtain⟨r,hr⟩:∃r,L[n]?=some r:=⟨_,List.getElem?_eq_getElem oO⟩
  have hg:=xP hxi hr
  rw[wF hxi hr,qHo hx i oO,List.take_add_one,hg,vF]
  have hl:((gram L ids).take i).length=i:=by rw[List.length_take];unfold gram;rw[List.length_map];omega
  rw[hl,Nat.zero_add]
  simp only[Option.toList_some,encG,List.append_nil]
theorem qHm {L:List Rl}{ids:List Nat}(hx:∀x∈ids,1≤x∧x≤L.length) (nm:List (List UInt8×Nat)):encB L ids nm=encA (gram L ids) (nm.map fun p=>(p.1,numb ids p.2)):=by
 have hl:(gram L ids).length=ids.length:=List.length_map _
 unfold encB encA
 rw[qHo hx _ (Nat.le_refl _),hl,List.take_of_length_le oO,List.length_map]
 congr 1
 unfold encN encM
 rw[List.flatMap_map]
 rfl
theorem qAs {L:List Rl}(hw:Wf L){ids:List Nat}(hx:AccOk L ids)(ho:Odr L ids):GOk 0 (gram L ids):=fun i r hr=>by
 have hil:i<ids.length:=by have:=(List.getElem?_eq_some_iff.1 hr).1;unfold gram at this;rwa [List.length_map]at this
 obtain⟨x,hxi⟩:∃x,ids[i]?=some x:=⟨_,List.getElem?_eq_getElem hil⟩
 have hxx:=hx.2 x (List.mem_of_getElem? hxi)
 obtain⟨n,rfl⟩:∃n,x=n+1:=⟨x-1,oO⟩
 obtain⟨r0,hr0⟩:∃r,L[n]?=some r:=⟨_,List.getElem?_eq_getElem oO⟩
 rw[xP hxi hr0]at hr
 cases hr
 have hsplit:ids=ids.take i++(n+1)::ids.drop (i+1):=by
  have:=List.take_append_drop i ids
  rw[qM hxi]at this
  exact this.symm
 have htk:ids.take (i+1)=ids.take i++[n+1]:=by rw[List.take_add_one,hxi];rfl
 obtain⟨g1,g2⟩:=qNa htk (hw.ok _ _ hr0) (ho _ _ _ _ hsplit hr0)
 have hl:(ids.take i).length=i:=by rw[List.length_take];omega
 have e:=g2 (ids.drop (i+1))
 rw[List.take_append_drop]at e
 rw[hl]at g1
 rw[e,Nat.zero_add]
 exact g1
theorem qNs {L:List Rl}(hw:Wf L){ids:List Nat}(hx:AccOk L ids)(ho:Odr L ids):∀(x:Nat),x=0∨x∈ids→txt (gram L ids) (numb ids x)=txt L x:=by
 intro x
 induction x using Nat.strongRecOn with
 |ind x ih=>
  intro h
  rcases h with rfl| h
  ·have:numb ids 0=0:=gU.2 fun h=>by have:=(hx.2 0 h).1;omega
   rw[this,pI,pI]
  have hat:=sD h
  have hne:numb ids x≠0:=fun e=>gU.1 e h
  have hxx:=hx.2 x h
  obtain⟨n,rfl⟩:∃n,x=n+1:=⟨x-1,oO⟩
  obtain⟨r,hr⟩:∃r,L[n]?=some r:=⟨_,List.getElem?_eq_getElem oO⟩
  obtain⟨i,hi⟩:∃i,numb ids (n+1)=i+1:=⟨numb ids (n+1)-1,oO⟩
  rw[hi,Nat.add_sub_cancel]at hat
  have hg:=xP hat hr
  have hok:=qAs hw hx ho i _ hg
  rw[Nat.zero_add]at hok
  have hlo:=hw.ok _ _ hr
  have hkids:∀k∈kids r,k∈ids:=ho.closed n r h hr
  have hkl:=iE hlo
  rw[hi]
  cases r with
  |letter b=>rw[iB hg,iB hr]
  |pair a b=>
   rw[jQ hg hok,jQ hr hlo,ih a (hkl a (by simp[kids])).2 (.inr (hkids a (by simp[kids]))),ih b (hkl b (by simp[kids])).2 (.inr (hkids b (by simp[kids])))]
  |power a k=>
   rw[jI hg hok,jI hr hlo,ih a (hkl a (by simp[kids])).2 (.inr (hkids a (by simp[kids])))]
end
section
inductive Iso (L1 L2:List Rl):Nat→Nat→Prop where
 |letter {n m:Nat} {c:UInt8}:L1[n]?=some (.letter c)→L2[m]?=some (.letter c)→Iso L1 L2 (n+1) (m+1)
 |pair {n m a b a' b':Nat}:L1[n]?=some (.pair a b)→L2[m]?=some (.pair a' b')→Iso L1 L2 a a'→Iso L1 L2 b b'→Iso L1 L2 (n+1) (m+1)
 |power {n m a a' k:Nat}:L1[n]?=some (.power a k)→L2[m]?=some (.power a' k)→Iso L1 L2 a a'→Iso L1 L2 (n+1) (m+1)
theorem Iso.symm {L1 L2:List Rl}{x y:Nat}(h:Iso L1 L2 x y):Iso L2 L1 y x:=by
 induction h with
 |letter h1 h2=>exact .letter h2 h1
 |pair h1 h2 _ _ ih1 ih2=>exact .pair h2 h1 ih1 ih2
 |power h1 h2 _ ih=>exact .power h2 h1 ih
theorem Iso.pos {L1 L2:List Rl}{x y:Nat}(h:Iso L1 L2 x y):1≤x∧1≤y:=by cases h<;>exact⟨Nat.succ_pos _,Nat.succ_pos _⟩
theorem Iso.fn {L1 L2:List Rl}(hw:Wf L2){x y z:Nat}(h:Iso L1 L2 x y)(h':Iso L1 L2 x z):y=z:=by
 induction h generalizing z with
 | @letter n m c h1 h2=>
  generalize e:n+1=x at h'
  cases h' with
  |letter g1 g2=>
   obtain rfl:=Nat.succ.inj e
   rw[h1]at g1
   cases g1
   rw[hw.nodup _ _ _ h2 g2]
  |pair g1 _ _ _=>obtain rfl:=Nat.succ.inj e;rw[h1]at g1;cases g1
  |power g1 _ _=>obtain rfl:=Nat.succ.inj e;rw[h1]at g1;cases g1
 | @pair n m a b a' b' h1 h2 _ _ ih1 ih2=>
  generalize e:n+1=x at h'
  cases h' with
  |letter g1 _=>obtain rfl:=Nat.succ.inj e;rw[h1]at g1;cases g1
  |pair g1 g2 ga gb=>
   obtain rfl:=Nat.succ.inj e
   rw[h1]at g1
   cases g1
   obtain rfl:=ih1 ga
   obtain rfl:=ih2 gb
   rw[hw.nodup _ _ _ h2 g2]
  |power g1 _ _=>obtain rfl:=Nat.succ.inj e;rw[h1]at g1;cases g1
 | @power n m a a' k h1 h2 _ ih=>
  generalize e:n+1=x at h'
  cases h' with
  |letter g1 _=>obtain rfl:=Nat.succ.inj e;rw[h1]at g1;cases g1
  |pair g1 _ _ _=>obtain rfl:=Nat.succ.inj e;rw[h1]at g1;cases g1
  |power g1 g2 ga=>
   obtain rfl:=Nat.succ.inj e
   rw[h1]at g1
   cases g1
   obtain rfl:=ih ga
   rw[hw.nodup _ _ _ h2 g2]
theorem Iso.fn' {L1 L2:List Rl}(hw:Wf L1){x y z:Nat}(h:Iso L1 L2 x y)(h':Iso L1 L2 z y):x=z:=h.symm.fn hw h'.symm
theorem Iso.key {L1 L2:List Rl}(h1:Wf L1)(h2:Wf L2){x y:Nat}(h:Iso L1 L2 x y):Eg.key L1 x=Eg.key L2 y:=by
 induction h with
 |letter g1 g2=>rw[(fT g1).1,(fT g2).1]
 |pair g1 g2 _ _ ih1 ih2=>rw[(jM g1 (h1.ok _ _ g1)).1,(jM g2 (h2.ok _ _ g2)).1,ih1,ih2]
 |power g1 g2 _ ih=>rw[(jS g1 (h1.ok _ _ g1)).1,(jS g2 (h2.ok _ _ g2)).1,ih]
def Rel (L1 L2:List Rl)(A B:List Nat):Prop:=∃ps:List (Nat×Nat),A=ps.map (·.1)∧B=ps.map (·.2)∧∀p∈ps,Iso L1 L2 p.1 p.2
theorem Rel.nil (L1 L2:List Rl):Rel L1 L2 [] []:=⟨[],rfl,rfl,by simp⟩
theorem Rel.one {L1 L2:List Rl}{x y:Nat}(h:Iso L1 L2 x y):Rel L1 L2 [x] [y]:=⟨[(x,y)],rfl,rfl,fun p hp=>by rw[List.mem_singleton.1 hp];exact h⟩
theorem Rel.app {L1 L2:List Rl}{A B A' B':List Nat}(h:Rel L1 L2 A B)(h':Rel L1 L2 A' B'):Rel L1 L2 (A++A') (B++B'):=by
 obtain⟨ps,rfl,rfl,h1⟩:=h
 obtain⟨qs,rfl,rfl,h2⟩:=h'
 refine⟨ps++qs,by simp,by simp,fun p hp=>?_⟩
 rcases List.mem_append.1 hp with hp|hp
 ·exact h1 p hp
 exact h2 p hp
theorem Rel.length {L1 L2:List Rl}{A B:List Nat}(h:Rel L1 L2 A B):A.length=B.length:=by
 obtain⟨ps,rfl,rfl,_⟩:=h
 simp
theorem Rel.drop {L1 L2:List Rl}{A B:List Nat}(h:Rel L1 L2 A B)(k:Nat):Rel L1 L2 (A.drop k) (B.drop k):=by
 obtain⟨ps,rfl,rfl,h1⟩:=h
 exact⟨ps.drop k,by rw[List.map_drop],by rw[List.map_drop],fun p hp=>h1 p (List.mem_of_mem_drop hp)⟩
theorem Rel.take {L1 L2:List Rl}{A B:List Nat}(h:Rel L1 L2 A B)(k:Nat):Rel L1 L2 (A.take k) (B.take k):=by
 obtain⟨ps,rfl,rfl,h1⟩:=h
 exact⟨ps.take k,by rw[List.map_take],by rw[List.map_take],fun p hp=>h1 p (List.mem_of_mem_take hp)⟩
theorem Rel.get {L1 L2:List Rl}{A B:List Nat}(h:Rel L1 L2 A B){i x y:Nat}(hx:A[i]?=some x)(hy:B[i]?=some y):Iso L1 L2 x y:=by
 obtain⟨ps,rfl,rfl,h1⟩:=h
 rw[List.getElem?_map]at hx hy
 cases e:ps[i]? with
 |none=>rw[e]at hx;cases hx
 |some p=>
  rw[e]at hx hy
  cases hx
  cases hy
  exact h1 p (List.mem_of_getElem? e)
theorem Rel.keys {L1 L2:List Rl}(h1:Wf L1)(h2:Wf L2){A B:List Nat}(h:Rel L1 L2 A B):A.map (Eg.key L1)=B.map (Eg.key L2):=by
 obtain⟨ps,rfl,rfl,hp⟩:=h
 rw[List.map_map,List.map_map]
 exact List.map_congr_left fun p hp'=>(hp p hp').key h1 h2
theorem Rel.mem {L1 L2:List Rl}(h1:Wf L1)(h2:Wf L2){A B:List Nat}(h:Rel L1 L2 A B){x y:Nat}(hi:Iso L1 L2 x y):x∈A↔y∈B:=by
 obtain⟨ps,rfl,rfl,hp⟩:=h
 constructor
 ·intro hx
  obtain⟨p,hp1,rfl⟩:=List.mem_map.1 hx
  rw[hi.fn h2 (hp p hp1)]
  exact List.mem_map.2 ⟨p,hp1,O⟩
 intro hy
 obtain⟨p,hp1,rfl⟩:=List.mem_map.1 hy
 rw[hi.fn' h1 (hp p hp1)]
 exact List.mem_map.2 ⟨p,hp1,O⟩
theorem Lts.rel {L1 L2:List Rl}{A B:List Nat}{bs:List UInt8}(h:Lts L1 A bs)(h':Lts L2 B bs):Rel L1 L2 A B:=by
 induction h generalizing B with
 |nil=>rw[h'.nil_inv];exact .nil _ _
 |snoc _ g1 ih=>
  generalize e:(_++[_]:List UInt8)=c at h'
  cases h' with
  |nil=>simp at e
  |snoc g2 g3=>
   obtain⟨rfl,rfl⟩:=tZ e
   exact(ih g2).app (.one (.letter g1 g3))
theorem runs_rel {L1 L2:List Rl}(h1:Wf L1)(h2:Wf L2){ps:List (Nat×Nat)}(hp:∀p∈ps,Iso L1 L2 p.1 p.2):∃qs:List ((Nat×Nat)×Nat),dE (ps.map (·.1))=qs.map (fun q=>(q.1.1,q.2))∧dE (ps.map (·.2))=qs.map (fun q=>(q.1.2,q.2))∧∀q∈qs,Iso L1 L2 q.1.1 q.1.2:=by
 generalize hn:ps.length=n
 induction n generalizing ps with
 |zero=>obtain rfl:=List.eq_nil_of_length_eq_zero hn;exact⟨[],rfl,rfl,by simp⟩
 |succ n ih=>
  rcases List.eq_nil_or_concat ps with rfl|⟨ps,p,rfl⟩
  ·simp at hn
  rw[List.concat_eq_append]at hp hn ⊢
  obtain⟨qs,e1,e2,hq⟩:=ih (ps:=ps) (fun p' hp'=>hp p' (by simp[hp'])) (by simpa using hn)
  have hpp:=hp p (by simp)
  simp only[List.map_append,List.map_cons,List.map_nil]
  rw[iV,iV,e1,e2]
  rcases List.eq_nil_or_concat qs with rfl|⟨qs,⟨⟨y1,y2⟩,k⟩,rfl⟩
  ·exact⟨[(p,1)],by simp[pQ],by simp[pQ],fun q h=>by rw[List.mem_singleton.1 h];exact hpp⟩
  rw[List.concat_eq_append]at hq ⊢
  have hy:=hq ((y1,y2),k) (by simp)
  simp only[List.map_append,List.map_cons,List.map_nil]
  by_cases e:y1=p.1
  ·have e':y2=p.2:=by subst e;exact hy.fn h2 hpp
   rw[e,e',jL,jL]
   refine⟨qs++[(p,k+1)],by simp,by simp,fun q h=>?_⟩
   rcases List.mem_append.1 h with h| h
   ·exact hq q (by simp[h])
   rw[List.mem_singleton.1 h];exact hpp
  have e':¬y2=p.2:=fun e'=>e (by subst e';exact hy.fn' h1 hpp)
  rw[kD _ e,kD _ e']
  refine⟨qs++[((y1,y2),k)]++[(p,1)],by simp,by simp,fun q h=>?_⟩
  rcases List.mem_append.1 h with h| h
  ·exact hq q h
  rw[List.mem_singleton.1 h];exact hpp
theorem Rns.nil_inv {L:List Rl}{out:List Nat}(h:Rns L [] out):out=[]:=by
 generalize e:([]:List (Nat×Nat))=c at h
 cases h with
 |nil=>rfl
 |snoc _ _=>simp at e
theorem Rns.snoc_inv {L:List Rl}{rs:List (Nat×Nat)}{x t:Nat}{out:List Nat}(h:Rns L (rs++[(x,t)]) out):∃o id,out=o++[id]∧Rns L rs o∧RunId L x t id:=by
 generalize e:rs++[(x,t)]=c at h
 cases h with
 |nil=>simp at e
 |snoc g1 g2=>
  obtain⟨rfl,e2⟩:=tZ e
  cases e2
  exact⟨_,_,O,g1,g2⟩
theorem Rns.rel {L1 L2:List Rl}{qs:List ((Nat×Nat)×Nat)}(hq:∀q∈qs,Iso L1 L2 q.1.1 q.1.2) {o1 o2:List Nat} (h:Rns L1 (qs.map fun q=>(q.1.1,q.2)) o1) (h':Rns L2 (qs.map fun q=>(q.1.2,q.2)) o2):Rel L1 L2 o1 o2:=by
 generalize hn:qs.length=n
 induction n generalizing qs o1 o2 with
 |zero=>
  obtain rfl:=List.eq_nil_of_length_eq_zero hn
  rw[h.nil_inv,h'.nil_inv]
  exact .nil _ _
 |succ n ih=>
  rcases List.eq_nil_or_concat qs with rfl|⟨qs,⟨⟨x1,x2⟩,t⟩,rfl⟩
  ·simp at hn
  rw[List.concat_eq_append]at hq hn h h'
  simp only[List.map_append,List.map_cons,List.map_nil]at h h'
  obtain⟨a,i,rfl,g1,g2⟩:=h.snoc_inv
  obtain⟨b,j,rfl,k1,k2⟩:=h'.snoc_inv
  refine(ih (qs:=qs) (fun q h=>hq q (by simp[h])) g1 k1 (by simpa using hn)).app (.one ?_)
  have hx:=hq ((x1,x2),t) (by simp)
  rcases g2 with⟨e1,rfl⟩|⟨e1,i',rfl,hi⟩<;>rcases k2 with⟨e2,rfl⟩|⟨e2,j',rfl,hj⟩
  ·exact hx
  ·omega
  ·omega
  exact .power hi hj hx
theorem Prs.rel {L1 L2:List Rl}{A B:List Nat}(hr:Rel L1 L2 A B){js o1 o2:List Nat}{a a':Nat}(h:Prs L1 A js a o1)(h':Prs L2 B js a' o2):a=a'∧Rel L1 L2 o1 o2:=by
 induction h generalizing a' o2 with
 |nil=>
  generalize e:([]:List Nat)=c at h'
  cases h' with
  |nil=>exact⟨rfl,.nil _ _⟩
  |snoc _ _ _ _ _=>simp at e
 |snoc h1 h2 h3 h4 h5 ih=>
  generalize e:(_++[_]:List Nat)=c at h'
  cases h' with
  |nil=>simp at e
  |snoc g1 g2 g3 g4 g5=>
   obtain⟨rfl,rfl⟩:=tZ e
   obtain⟨rfl,hro⟩:=ih g1
   exact⟨O,(hro.app ((hr.drop _).take _)).app (.one (.pair h5 g5 (hr.get h3 g3) (hr.get h4 g4)))⟩
theorem Rch.rel {L1 L2:List Rl}(w1:Wf L1)(w2:Wf L2){bs:List UInt8}{lv:Nat}{A B:List Nat}(h:Rch L1 bs lv A)(h':Rch L2 bs lv B):Rel L1 L2 A B:=by
 induction h generalizing B with
 |start h=>
  generalize e:1=l at h'
  cases h' with
  |start g=>exact h.rel g
  |odd g _ _ _=>have:=g.pos;omega
  |even g _ _ _ _=>have:=g.pos;omega
 |odd h h1 h2 h3 ih=>
  generalize e:_+1=l at h'
  cases h' with
  |start g=>have:=h.pos;omega
  |odd g g1 g2 g3=>
   obtain rfl:=Nat.succ.inj e
   obtain⟨ps,rfl,rfl,hp⟩:=ih g
   obtain⟨qs,e1,e2,hq⟩:=runs_rel w1 w2 hp
   rw[e1]at h3
   rw[e2]at g3
   exact Rns.rel hq h3 g3
  |even g g1 _ _ _=>omega
 |even h h1 h2 h3 h4 ih=>
  generalize e:_+1=l at h'
  cases h' with
  |start g=>have:=h.pos;omega
  |odd g g1 g2 g3=>omega
  |even g g1 g2 g3 g4=>
   obtain rfl:=Nat.succ.inj e
   have hr:=ih g
   rw[hr.keys w1 w2]at h4
   obtain⟨rfl,ho⟩:=Prs.rel hr h4 g4
   exact ho.app (hr.drop _)
theorem Sg.rel {L1 L2:List Rl}(w1:Wf L1)(w2:Wf L2){bs:List UInt8}{x y:Nat}(h:Sg L1 bs x)(h':Sg L2 bs y):(x=0∧y=0)∨Iso L1 L2 x y:=by
 rcases h with⟨h1,h2⟩|⟨lv,h⟩<;>rcases h' with⟨g1,g2⟩|⟨lv',h'⟩
 ·exact .inl ⟨h2,g2⟩
 ·exact absurd h1 h'.nonempty
 ·exact absurd g1 h.nonempty
 right
 have key:lv=lv':=by
  rcases Nat.lt_trichotomy lv lv' with hl|hl|hl
  ·obtain⟨r,hr,h2⟩:=h'.before lv h.pos hl
   have:=(h.rel w1 w2 hr).length
   simp at this
   omega
  ·exact hl
  obtain⟨r,hr,h2⟩:=h.before lv' h'.pos hl
  have:=(hr.rel w1 w2 h').length
  simp at this
  omega
 subst key
 exact(h.rel w1 w2 h').get (i:=0) O O
theorem qUq {L1 L2:List Rl}(w1:Wf L1)(w2:Wf L2){x y:Nat}(h:Iso L1 L2 x y):∀{A B:List Nat},Rel L1 L2 A B→Rel L1 L2 (visit L1 x A) (visit L2 y B):=by
 induction h with
 | @letter n m c g1 g2=>
  intro A B hr
  have hi:Iso L1 L2 (n+1) (m+1):= .letter g1 g2
  by_cases hm:n+1∈A
  ·rw[kU hm,kU ((hr.mem w1 w2 hi).1 hm)];exact hr
  rw[iC w1 g1 hm,iC w2 g2 (fun h=>hm ((hr.mem w1 w2 hi).2 h))]
  exact hr.app (.one hi)
 | @pair n m a b a' b' g1 g2 ha hb ih1 ih2=>
  intro A B hr
  have hi:Iso L1 L2 (n+1) (m+1):= .pair g1 g2 ha hb
  by_cases hm:n+1∈A
  ·rw[kU hm,kU ((hr.mem w1 w2 hi).1 hm)];exact hr
  rw[iC w1 g1 hm,iC w2 g2 (fun h=>hm ((hr.mem w1 w2 hi).2 h))]
  exact(ih2 (ih1 hr)).app (.one hi)
 | @power n m a a' k g1 g2 ha ih=>
  intro A B hr
  have hi:Iso L1 L2 (n+1) (m+1):= .power g1 g2 ha
  by_cases hm:n+1∈A
  ·rw[kU hm,kU ((hr.mem w1 w2 hi).1 hm)];exact hr
  rw[iC w1 g1 hm,iC w2 g2 (fun h=>hm ((hr.mem w1 w2 hi).2 h))]
  exact(ih hr).app (.one hi)
theorem yH {L1 L2:List Rl}(w1:Wf L1)(w2:Wf L2):∀{xs ys A B:List Nat},xs.length=ys.length→(∀(i x y:Nat),xs[i]?=some x→ys[i]?=some y→(x=0∧y=0)∨Iso L1 L2 x y)→Rel L1 L2 A B→Rel L1 L2 (dD L1 xs A) (dD L2 ys B)
 |[],[],_,_,_,_,h=>h
 |[],_::_,_,_,h,_,_=>by simp at h
 |_::_,[],_,_,h,_,_=>by simp at h
 |x::xs,y::ys,A,B,hl,hx,h=>by
  rw[gG,gG]
  refine yH w1 w2 (by simpa using hl) (fun i x' y' h1 h2=>hx (i+1) x' y' (by simpa using h1) (by simpa using h2)) ?_
  rcases hx 0 x y rfl rfl with⟨rfl,rfl⟩|hi
  ·rw[kG,kG];exact h
  exact qUq w1 w2 hi h
theorem wR {L1 L2:List Rl}(w1:Wf L1)(w2:Wf L2){x y:Nat}(hi:Iso L1 L2 x y):∀{ps:List (Nat×Nat)},(∀p∈ps,Iso L1 L2 p.1 p.2)→numb (ps.map (·.1)) x=numb (ps.map (·.2)) y
 |[],_=>rfl
 |p::ps,hp=>by
  have ih:=wR w1 w2 hi (ps:=ps) fun q h=>hp q (by simp[h])
  have hpp:=hp p (by simp)
  simp only[List.map_cons,numb]
  rw[ih]
  by_cases e:p.1=x
  ·have e':p.2=y:=by subst e;exact hpp.fn w2 hi
   rw[if_pos e,if_pos e']
  have e':¬p.2=y:=fun e'=>e (by subst e';exact hpp.fn' w1 hi)
  rw[if_neg e,if_neg e']
theorem gram_rel {L1 L2:List Rl}(w1:Wf L1)(w2:Wf L2){A B:List Nat}(h:Rel L1 L2 A B):gram L1 A=gram L2 B:=by
 obtain⟨ps,rfl,rfl,hp⟩:=h
 unfold gram
 rw[List.map_map,List.map_map]
 refine List.map_congr_left fun p hp'=>?_
 have hi:=hp p hp'
 obtain⟨x,y⟩:=p
 simp only[Function.comp]at hi ⊢
 cases hi with
 |letter g1 g2=>simp[List.getD_eq_getElem?_getD,g1,g2,jP]
 |pair g1 g2 ha hb=>simp[List.getD_eq_getElem?_getD,g1,g2,jP,wR w1 w2 ha hp,wR w1 w2 hb hp]
 |power g1 g2 ha=>simp[List.getD_eq_getElem?_getD,g1,g2,jP,wR w1 w2 ha hp]
end
section
def imP (l:List Im):List (List UInt8×List UInt8):=l.map fun x=>(x.name,x.bs)
theorem qSd (l:List Im):imP l=(l.map (·.name)).zip (l.map (·.bs)):=by unfold imP;rw[List.zip_map']
structure EqL (L:List Rl)(l:List Im)(ids ys:List Nat):Prop where
 wf:Wf L
 il:ids.length=l.length
 yl:ys.length=l.length
 tx:Txs L l ids
 sg:SigL L ids ys
variable {L L1 L2:List Rl}{l l1 l2:List Im}{ids ys ids1 ids2 y1 y2:List Nat}
theorem EqL.bound (h:EqL L l ids ys):∀y∈ys,y≤L.length:=h.sg.bound (by rw[h.yl,h.il])
theorem EqL.acc (h:EqL L l ids ys):AccOk L (dD L ys []):=AccOk.visits h.wf h.bound
theorem EqL.ord (h:EqL L l ids ys):Odr L (dD L ys []):=uQ h.wf ys [] (qKs _)
theorem EqL.at (h:EqL L l ids ys){i y:Nat}(hy:ys[i]?=some y):∃x id,l[i]?=some x∧ids[i]?=some id∧SigOf L id y∧txt L id=x.bs:=by
 have hi:=(List.getElem?_eq_some_iff.1 hy).1
 have h1:=h.il
 have h2:=h.yl
 obtain⟨x,hx⟩:∃x,l[i]?=some x:=⟨_,List.getElem?_eq_getElem oO⟩
 obtain⟨id,hid⟩:∃x,ids[i]?=some x:=⟨_,List.getElem?_eq_getElem oO⟩
 exact⟨x,id,hx,hid,h.sg i id y hid hy,(h.tx i x id hx hid).2⟩
theorem EqL.here (h:EqL L l ids ys){y:Nat}(hy:y∈ys):y=0∨y∈dD L ys []:=by
 rcases Nat.eq_zero_or_pos y with e| e
 ·exact .inl e
 exact .inr (((nH h.wf ys []).2 (xH L)).2 y hy e (h.bound y hy))
theorem EqL.texts (h:EqL L l ids ys):l.map (·.bs)=(ys.map (numb (dD L ys []))).map (txt (gram L (dD L ys []))):=by
 apply List.ext_getElem?
 intro i
 rw[List.map_map,List.getElem?_map,List.getElem?_map]
 cases e:ys[i]? with
 |none=>
  have h1:=List.getElem?_eq_none_iff.1 e
  have h2:=h.yl
  rw[List.getElem?_eq_none oO]
  rfl
 |some y=>
  obtain⟨x,id,hx,hid,hs,ht⟩:=h.at e
  rw[hx]
  have e1:=qNs h.wf h.acc h.ord y (h.here (List.mem_of_getElem? e))
  simp only[Option.map_some,Function.comp,e1]
  rw[hs.2.1,ht]
theorem mkN_fst (h:ids.length=l.length):(mkN l ids).map (·.1)=l.map (·.name):=by
 unfold mkN
 rw[List.map_map]
 have e:((fun x:List UInt8×Int=>x.1)∘fun p:Im×Nat=>(p.1.name,(p.2:Int)))=(fun x:Im=>x.name)∘Prod.fst:=rfl
 rw[e,←List.map_map,List.map_fst_zip oO]
theorem EqL.enc (h:EqL L l ids ys):encB L (dD L ys []) (nmY (mkN l ids) ys)=encA (gram L (dD L ys [])) ((l.map (·.name)).zip (ys.map (numb (dD L ys [])))):=by
 rw[qHm h.acc.2]
 congr 1
 unfold nmY
 rw[mkN_fst h.il,List.zip_map_right]
 rfl
theorem EqL.only (h1:EqL L1 l1 ids1 y1)(h2:EqL L2 l2 ids2 y2)(e:encB L1 (dD L1 y1 []) (nmY (mkN l1 ids1) y1)=encB L2 (dD L2 y2 []) (nmY (mkN l2 ids2) y2)):imP l1=imP l2:=by
 rw[h1.enc,h2.enc]at e
 obtain⟨eg,ez⟩:=encA_inj (qAs h1.wf h1.acc h1.ord) (qAs h2.wf h2.acc h2.ord) e
 have a1:=h1.yl
 have a2:=h2.yl
 have en:l1.map (·.name)=l2.map (·.name):=by
  have:=congrArg (List.map Prod.fst) ez
  rwa [List.map_fst_zip (by simp only[List.length_map];omega),List.map_fst_zip (by simp only[List.length_map];omega)]at this
 have em:y1.map (numb (dD L1 y1 []))=y2.map (numb (dD L2 y2 [])):=by
  have:=congrArg (List.map Prod.snd) ez
  rwa [List.map_snd_zip (by simp only[List.length_map];omega),List.map_snd_zip (by simp only[List.length_map];omega)]at this
 rw[qSd,qSd,h1.texts,h2.texts,en,em,eg]
theorem EqL.same (h1:EqL L1 l1 ids1 y1)(h2:EqL L2 l2 ids2 y2)(e:imP l1=imP l2):encB L1 (dD L1 y1 []) (nmY (mkN l1 ids1) y1)=encB L2 (dD L2 y2 []) (nmY (mkN l2 ids2) y2):=by
 have a1:=h1.yl
 have a2:=h2.yl
 have el:l1.length=l2.length:=by
  have:=congrArg List.length e
  simpa[imP]using this
 have en:l1.map (·.name)=l2.map (·.name):=by
  have:=congrArg (List.map Prod.fst) e
  simpa[imP,List.map_map,Function.comp_def]using this
 have hx:∀(i x y:Nat),y1[i]?=some x→y2[i]?=some y→(x=0∧y=0)∨Iso L1 L2 x y:=fun i x y hi hj=>by
  obtain⟨u,id,g1,g2,g3,g4⟩:=h1.at hi
  obtain⟨v,jd,k1,k2,k3,k4⟩:=h2.at hj
  have e1:(imP l1)[i]?=some (u.name,u.bs):=by unfold imP;rw[List.getElem?_map,g1];rfl
  have e2:(imP l2)[i]?=some (v.name,v.bs):=by unfold imP;rw[List.getElem?_map,k1];rfl
  rw[e,e2]at e1
  have e3:v.bs=u.bs:=(Prod.mk.inj (Option.some.inj e1)).2
  have s1:Sg L1 u.bs x:=by rw[←g4];exact g3.2.2.2
  have s2:Sg L2 u.bs y:=by rw[←e3,←k4];exact k3.2.2.2
  exact Sg.rel h1.wf h2.wf s1 s2
 have hr:=yH h1.wf h2.wf oO hx (Rel.nil L1 L2)
 have z1:0∉dD L1 y1 []:=fun h=>by have:=(h1.acc.2 0 h).1;omega
 have z2:0∉dD L2 y2 []:=fun h=>by have:=(h2.acc.2 0 h).1;omega
 have em:y1.map (numb (dD L1 y1 []))=y2.map (numb (dD L2 y2 [])):=by
  apply List.ext_getElem?
  intro i
  rw[List.getElem?_map,List.getElem?_map]
  rcases Nat.lt_or_ge i y1.length with hi|hi
  ·obtain⟨x,hx1⟩:∃x,y1[i]?=some x:=⟨_,List.getElem?_eq_getElem hi⟩
   obtain⟨y,hy1⟩:∃x,y2[i]?=some x:=⟨_,List.getElem?_eq_getElem oO⟩
   rw[hx1,hy1]
   refine congrArg some ?_
   rcases hx i x y hx1 hy1 with⟨rfl,rfl⟩|hi
   ·rw[gU.2 z1,gU.2 z2]
   obtain⟨ps,e1,e2,hp⟩:=hr
   rw[e1,e2]
   exact wR h1.wf h2.wf hi hp
  rw[List.getElem?_eq_none hi,List.getElem?_eq_none oO]
  rfl
 rw[h1.enc,h2.enc,gram_rel h1.wf h2.wf hr,en,em]
end
section
set_option maxRecDepth 10000
variable {E:Env}{Es:List Ent}{pp tb s most m bm:Nat}{f:Int→Option Value}
theorem qOh (hE:Seat E)(hB:Base E.w0){l:List (List UInt8×Int)}{n:Nat}(hln:l.length=n){a:Option Addr}{c:Nat}{q:HP}(hq:Rdb E.w0 a (nlC l) q)(hn:n≤1000)(hN:Names l)(hO:Ordered l l.length)(hT:TxOk Es l)(hroom:Es.length+512*n≤most)(hk:Kn (rls Es) f):
  Ct E 9 [uPt m,.slice a n c] [cells pp [uPt s,uPt tb] 97,tabP tb s (rls Es),bR s most Es,cells m [uPt pp,.map (some bm)] 93,mapF bm .i64 f,q]
   (fun v Q=>∃M f' ys g c B,v= .tuple #[.slice (some ⟨g,0,none⟩) B.length c,.nilIface]∧B=encB (rls (Es++M)) (dD (rls (Es++M)) ys []) (nmY l ys)∧M.length≤512*n∧Kn (rls (Es++M)) f'∧ys.length=n∧SigL (rls (Es++M)) (rawN l) ys∧Q=[cells pp [uPt s,uPt tb] 97,tabP tb s (rls (Es++M)),bR s most (Es++M),cells m [uPt pp,.map (some bm)] 93,mapF bm .i64 f',q,sl (some ⟨g,0,none⟩) c 5 1 B.length (byC B)]):=by
 subst hln
 refine fun R w hs=>((qHb (s:=s) (tb:=tb) (pp:=pp) (most:=most) (m:=m) (bm:=bm) (f:=f) (ca:=c) hE hB hq hn hT.short hroom hk) R w hs).mono fun e w'⟨v,Qs,h1,h2,h4⟩=>⟨v,Qs,h1,?_,h4⟩
 rcases h2 with⟨e,he,_⟩|⟨M,f',ys,g,c',B,ho,hv,hB,hM,hkn,hyl,hsl,hQ⟩
 ·exact(SgE.not he (sgo_of hN hO hT)).elim
 exact⟨M,f',ys,g,c',B,hv,hB,hM,hkn,hyl,hsl,hQ⟩
theorem qMm {l r:List Im}{k:Nat}{x y:Im}(hx:l[k]?=some x)(hy:r[k]?=some y):imP (l.take (k+1))=imP (r.take (k+1))↔imP (l.take k)=imP (r.take k)∧x.name=y.name∧x.bs=y.bs:=by
 have h1:=(List.getElem?_eq_some_iff.1 hx).1
 have h2:=(List.getElem?_eq_some_iff.1 hy).1
 rw[List.take_add_one,List.take_add_one,hx,hy]
 unfold imP
 simp only[Option.toList_some,List.map_append,List.map_cons,List.map_nil]
 constructor
 ·intro h
  obtain⟨g1,g2⟩:=List.append_inj h (by simp;omega)
  simp at g2
  exact⟨g1,g2⟩
 rintro⟨g1,g2,g3⟩
 rw[g1,g2,g3]
structure EqG where
 i:Nat
 e:Bool
def EqOk (l r:List Im)(q:EqG):Prop:=q.i≤l.length∧(q.e=true↔l.length=r.length∧imP (l.take q.i)=imP (r.take q.i))
theorem EqOk.stop {l r:List Im}{i:Nat}(h:EqOk l r ⟨i,false⟩):¬imP l=imP r:=fun e=>by
 have hl:l.length=r.length:=by have:=congrArg List.length e;simpa[imP]using this
 have:imP (l.take i)=imP (r.take i):=by
  have:=congrArg (List.take i) e
  unfold imP at this ⊢
  rwa [←List.map_take,←List.map_take]at this
 have:=h.2.2 ⟨hl,this⟩
 cases this
theorem EqOk.all {l r:List Im}{e:Bool}(h:EqOk l r ⟨l.length,e⟩):e=decide (imP l=imP r):=by
 have h2:=h.2
 simp only at h2
 by_cases hh:imP l=imP r
 ·have hl:l.length=r.length:=by have:=congrArg List.length hh;simpa[imP]using this
  rw[decide_eq_true hh]
  refine h2.2 ⟨hl,?_⟩
  rw[List.take_of_length_le (Nat.le_refl _),List.take_of_length_le oO]
  exact hh
 rw[decide_eq_false hh]
 cases e with
 |false=>rfl
 |true=>
  obtain⟨hl,ht⟩:=h2.1 rfl
  rw[List.take_of_length_le (Nat.le_refl _),List.take_of_length_le oO]at ht
  exact absurd ht hh
end
end Go.Proofs.YtlmpojkmeglepaaGreatDoor
