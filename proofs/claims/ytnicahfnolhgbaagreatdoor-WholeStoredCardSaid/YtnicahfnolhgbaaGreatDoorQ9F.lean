import Derived.Test.YtnicahfnolhgbaaGreatDoorQ86
import Derived.Test.YtnicahfnolhgbaaGreatDoorQ9E
set_option linter.all false
set_option maxHeartbeats 1000000
namespace Go.Proofs.YtnicahfnolhgbaaGreatDoor
open Go Go.RowKit Sl Eg
set_option maxRecDepth 10000
section
def Hf {t}:∀{ts:List Du}{c:Cn},Qb c.G ts->Gg (nL c ts).G t->(t.body (nL c ts).G.length).length<=1000000000->t.sets.length<=1000000->t.drops.length<=1000000->Qb c.G (ts++[t])
 |[],c,_,h1,h2,h3,h4=>⟨h1,h2,h3,h4,trivial⟩
 |u::ts,c,h,h1,h2,h3,h4=>⟨h.1,h.2.1,h.2.2.1,h.2.2.2.1,Hf (c:=c.app u) h.2.2.2.2 h1 h2 h3 h4⟩
structure JE (x0:Option Fl)(ts:List Du):Prop where
 has:Km x0 (DX 0 ts)
 syn:JN x0
 fit:Qb [] ts
 pay:∀p∈DX 0 ts,1<=p.length/\p.length<=1048576
def Km.app {x0 ps}(h:Km x0 ps)(p:List UInt8):(JO x0 (Et p)).data=DV (ps++[p]):=by
 rw[vU,YK];rcases h with⟨rfl,rfl⟩|⟨x,rfl,h⟩
 ·rfl
 show x.data++Et p=_;rw[h]
def qSv (ts:List Du):(nL Cn.nil ts).G.length=(ts.map fun t=>t.new.length).sum:=by
 rw[qVw];exact jh _
def JE.snoc {x0 ts t}(h:JE x0 ts)(h1:Gg (nL Cn.nil ts).G t)(h2:(t.body (nL Cn.nil ts).G.length).length<=1048573)(h3:t.sets.length<=1000000)(h4:t.drops.length<=1000000):
  JE (some ⟨(JO x0 (Et (t.pay (nL Cn.nil ts).G.length))).data,(JO x0 (Et (t.pay (nL Cn.nil ts).G.length))).data.length⟩) (ts++[t]):=by
 have e:DX 0 (ts++[t])=DX 0 ts++[t.pay (nL Cn.nil ts).G.length]:=by
  rw[Zl,jh,<-qSv];rfl
 refine⟨.inr ⟨_,O,?_⟩,fun y hy=>by cases hy;rfl,Hf (c:=Cn.nil) h.fit h1 oO h3 h4,fun p hp=>?_⟩
 ·rw[e];exact h.has.app _
 rw[e]at hp;rcases ay.1 hp with hp|hp
 ·exact h.pay p hp
 simp at hp;subst hp;have:(t.pay (nL Cn.nil ts).G.length).length=(t.body (nL Cn.nil ts).G.length).length+3:=rfl;omega
def JE.nil:JE none []:=⟨.inl ⟨rfl,rfl⟩,(fun y h=>by cases h),trivial,(fun p h=>by cases h)⟩
variable {L:List Rl}{V W:List Nat}{f:List UInt8->Option Nat}{ch:List UInt8->Bool}{c:Cn}{l:List (List UInt8)}
def Ql (h:He L V f ch c)(hW:Fv L (V++W))(hA:∀x∈l,FM x):Gg c.G (Cz L V W f l):=by
 have hg:c.G++(Cz L V W f l).new=Cs L (V++W):=by
  rw[h.gr];exact(Zf h.lis hW).symm
 refine⟨by rw[hg];exact hW.gwf,fun p hp=>?_,fun x hx=>hA x (ow.1 hx).1⟩;obtain⟨x,hx,hp⟩:=List.mem_filterMap.1 hp;rw[oz]at hp;obtain⟨id,hB,rfl⟩:=hp;refine⟨hA x hx,?_⟩;rw[hg,kV];exact qG _ _
def Jb:(Cz L V W f l).sets.length<=l.length/\(Cz L V W f l).drops.length<=l.length:=⟨List.length_filterMap_le _ _,um _ _⟩
end
section
def OI {L1 L2}(w1:Wf L1)(w2:Wf L2){x y}(h:Ey L1 L2 x y):Eg.dpe L1 x=Eg.dpe L2 y:=by
 induction h with
 |letter h1 h2=>rw[mF h1,mF h2]
 |pair h1 h2 _ _ i1 i2=>rw[vN h1 (w1.ok _ _ h1),vN h2 (w2.ok _ _ h2)];unfold dep Fs;rw[i1,i2]
 |power h1 h2 _ i=>rw[pG h1 (w1.ok _ _ h1),pG h2 (w2.ok _ _ h2)];unfold dep;rw[i]
def RO {L1 L2}(w1:Wf L1)(w2:Wf L2){x y}(h:Ey L1 L2 x y)(hy:y<=L2.length)(he:Ev L1 x):Ev L2 y:=by
 refine⟨hy,?_⟩;have:=he.ev;unfold Fs at this ⊢;rw[<-OI w1 w2 h];exact this
def qZv {L}(hw:Wf L):∀(n:Nat),n<L.length->∃R:List Nat,R.length+1<=2*len L (n+1)/\∀z,En L (n+1) z->z∈R:=by
 intro n;induction n using Nat.strongRecOn with
 |_ n ih=>
  intro hn
  have hg:L[n]?=some L[n]:=ag hn
  generalize L[n]=r at hg
  have ho:=hw.ok n r hg
  have hk:=kH ho
  have one:∀k,k∈BZ r->∃R:List Nat,R.length+1<=2*len L k/\∀z,En L k z->z∈R:=fun k hB=>by
   obtain⟨h1,h2⟩:=hk k hB;obtain⟨m,rfl⟩:∃m,k=m+1:=⟨k-1,oO⟩;exact ih m oO oO
  have step:∀z,En L (n+1) z->z=n+1\/∃k∈BZ r,En L k z:=fun z hz=>by
   cases hz with
   |self _=>exact .inl rfl
   |kid h1 h2 h3=>
    rw[hg]at h1
    cases h1
    exact .inr ⟨_,h2,h3⟩
  cases r with
  |letter b=>
   refine⟨[n+1],?_,fun z hz=>?_⟩
   ·have:len L (n+1)=1:=by unfold len;rw[fP hg];rfl
    simp only[bf]
    omega
   rcases step z hz with rfl|⟨k,h,_⟩
   ·simp
   simp[BZ]at h
  |pair a b=>
   obtain⟨Ra,ha,hA⟩:=one a (by simp[BZ])
   obtain⟨Rb,hb,hC⟩:=one b (by simp[BZ])
   refine⟨(n+1)::(Ra++Rb),?_,fun z hz=>?_⟩
   ·have:len L (n+1)=len L a+len L b:=by unfold len;rw[iK hg ho,aa]
    simp only[az,aa]
    omega
   rcases step z hz with rfl|⟨k,h,hr⟩
   ·simp
   simp only[BZ,di,kw,or_false]at h
   rcases h with rfl|rfl
   ·exact lg _ (cu _ (hA z hr))
   exact lg _ (jy _ (hC z hr))
  |power y k=>
   obtain⟨Ra,ha,hA⟩:=one y (by simp[BZ])
   refine⟨(n+1)::Ra,?_,fun z hz=>?_⟩
   ·have e:len L (n+1)=k*len L y:=by unfold len;rw[iY hg ho];simp
    obtain⟨h1,h2,h3⟩:=ho
    have hp:=hw.pos y oO oO
    have:2*len L y<=k*len L y:=kg _ h3
    simp only[az]
    omega
   rcases step z hz with rfl|⟨k',h,hr⟩
   ·simp
   simp only[BZ,di,kw,or_false]at h
   subst h
   exact lg _ (hA z hr)
def qNi {L}(hw:Wf L){B}:∀(ids:List Nat),(∀x∈ids,x<=L.length/\len L x<=B)->∃R:List Nat,R.length<=2*B*ids.length/\∀x∈ids,∀z,En L x z->z∈R
 |[],_=>⟨[],av _,fun x h=>by cases h⟩
 |x::ids,h=>by
  obtain⟨R,h1,h2⟩:=qNi hw ids fun y hy=>h y (lg _ hy)
  obtain⟨g1,g2⟩:=h x nk;rcases jo x with rfl|hx
  ·refine⟨R,?_,fun y hy z hz=>?_⟩
   ·rw[az,BA];omega
   rcases di.1 hy with rfl|hy
   ·cases hz
   exact h2 y hy z hz
  obtain⟨n,rfl⟩:∃n,x=n+1:=⟨x-1,oO⟩;obtain⟨Q,q1,q2⟩:=qZv hw n oO;refine⟨Q++R,?_,fun y hy z hz=>?_⟩
  ·rw[aa,az,BA];omega
  rcases di.1 hy with rfl|hy
  ·exact cu _ (q2 z hz)
  exact jy _ (h2 y hy z hz)
def qPv {L:List Rl}(hw:Wf L){B:Nat}{ids:List Nat}{f:List UInt8->Option Nat}(h:∀x∈ids,x<=L.length/\len L x<=B) (hf:∀y id,f y=some id->id∈ids) {S:List Nat} (hS:S.Nodup) (hr:∀x∈S,∃y id,f y=some id/\En L id x):S.length<=2*B*ids.length:=by
 obtain⟨R,h1,h2⟩:=qNi hw ids h
 have:=Xj (B:=R) hS fun x hx=>by
  obtain⟨y,id,e1,e2⟩:=hr x hx;exact h2 id (hf y id e1) x e2
 omega
end
section
def ER (i:Nat):List UInt8:=[116,UInt8.ofNat (97+i)]
def Vq (i:Nat):FM (ER i):=⟨by show 1<=2;decide,by show 2<=32;decide⟩
def qZd {i j}(hi:i<26)(hj:j<26)(h:ER i=ER j):i=j:=by
 unfold ER at h;simp at h;have:=au UInt8.toNat h;rw[UInt8.toNat_ofNat',UInt8.toNat_ofNat']at this;omega
def qZe:∀i:Fin 26,Ff (ER i.val):=by decide
def LP:∀i:Fin 25,Op.bytesLess (ER i.val) (ER (i.val+1))=true:=by decide
def RY:∀i j:Fin 26,i.val<j.val->Cr (ER i.val) (ER j.val)<=0:=by decide
def EL (ids:List Nat)(i:Nat):Nat:=ids.getD i 0
def wM {ids i id}(h:ids[i]?=some id):EL ids i=id:=by
 unfold EL;rw[lh,h];rfl
def Dy (ids:List Nat)(m:Nat):List (List UInt8×Int):=(List.range m).map fun i=>(ER i,((EL ids i:Nat):Int))
def tL (ids:List Nat)(m:Nat):(Dy ids m).length=m:=by simp[Dy]
def Rh {ids m i}(h:i<m):(Dy ids m)[i]?=some (ER i,((EL ids i:Nat):Int)):=by
 unfold Dy;rw[bn,lu h];rfl
def qRk (ids:List Nat)(m:Nat):Dy ids (m+1)=Dy ids m++[(ER m,((EL ids m:Nat):Int))]:=by
 unfold Dy;rw[List.range_succ,kv];rfl
def VW {ids m p}(h:p∈Dy ids m):∃i,i<m/\p=(ER i,((EL ids i:Nat):Int)):=by
 obtain⟨i,hi,e⟩:=jg.1 h;exact⟨i,oC.1 hi,e.symm⟩
def LD {ids m n}(hm:m<=26)(h:∀i,i<m->EL ids i<=n):TJ n (Dy ids m):=by
 refine⟨fun p hp=>?_,fun i p q hi h1 h2=>?_,fun p hp=>?_⟩
 ·obtain⟨i,hi,rfl⟩:=VW hp;exact qZe ⟨i,oO⟩
 ·rw[tL]at hi;rw[Rh oO]at h1;rw[Rh hi]at h2;cases h1
  cases h2
  exact LP ⟨i,oO⟩
 obtain⟨i,hi,rfl⟩:=VW hp;have:=h i hi;simp only;omega
def QF (ts:List (List UInt8))(m:Nat):List Im:=(List.range m).map fun i=>⟨ER i,none,ts.getD i [],0⟩
def VT (ts:List (List UInt8))(m:Nat):(QF ts m).length=m:=by simp[QF]
def Kw {ts m i}(h:i<m):(QF ts m)[i]?=some ⟨ER i,none,ts.getD i [],0⟩:=by
 unfold QF;rw[bn,lu h];rfl
def Oa {ts ids m}(h:ids.length=m):LJ (QF ts m) ids=Dy ids m:=by
 apply mh;intro i;rcases fw i m with hi|hi
 ·obtain⟨id,hA⟩:∃id,ids[i]?=some id:=BG;rw[RV (Kw hi) hA,Rh hi,wM hA]
 rw[ku (by rw[qUn (by rw[VT];exact h),VT];exact hi),ku (by rw[tL];exact hi)]
def fW (ids:List Nat):Nat->List UInt8->Option Nat
 |0=>fun _=>none
 |i+1=>Cq (fW ids i) (ER i,EL ids i)
def IZ:Nat->List UInt8->Bool
 |0=>fun _=>false
 |i+1=>fun x=>x==ER i||IZ i x
def Sv (ids:List Nat):∀(m:Nat),m<=26->∀x id,fW ids m x=some id↔∃i,i<m/\x=ER i/\id=EL ids i
 |0,_,x,id=>⟨fun h=>(by cases h),fun⟨i,h,_⟩=>oO⟩
 |m+1,hm,x,id=>by
  show Cq (fW ids m) (ER m,EL ids m) x=some id↔_;unfold Cq;by_cases e:x=ER m
  ·rw[if_pos e];constructor
   ·intro h;cases h
    exact⟨m,oO,e,O⟩
   rintro⟨i,hi,e2,rfl⟩;have:=qZd oO oO (e.symm.trans e2);rw[this]
  rw[if_neg e,Sv ids m oO];constructor
  ·rintro⟨i,hi,h⟩;exact⟨i,oO,h⟩
  rintro⟨i,hi,e2,h⟩;refine⟨i,?_,e2,h⟩;rcases fw i m with h3|h3
  ·exact h3
  obtain rfl:i=m:=by omega
  exact absurd e2 e
def KW (ids:List Nat){m i}(hm:m<=26)(hi:i<m):fW ids m (ER i)=some (EL ids i):=(Sv ids m hm _ _).2 ⟨i,hi,rfl,rfl⟩
def VN:∀(m:Nat)(x:List UInt8),IZ m x=true↔∃i,i<m/\x=ER i
 |0,x=>⟨fun h=>(by cases h),fun⟨i,h,_⟩=>oO⟩
 |m+1,x=>by
  show(x==ER m||IZ m x)=true↔_;rw[wm,beq_iff_eq,VN m x];constructor
  ·rintro(rfl|⟨i,hi,h⟩)
   ·exact⟨m,oO,O⟩
   exact⟨i,oO,h⟩
  rintro⟨i,hi,rfl⟩;rcases fw i m with h| h
  ·exact .inr ⟨i,h,O⟩
  obtain rfl:i=m:=by omega
  exact .inl O
def NS (m:Nat):IL (IZ m) m:=by
 refine⟨(List.range m).map ER,by simp,fun x hx=>?_⟩;obtain⟨i,hi,rfl⟩:=(VN m x).1 hx;exact⟨jg.2 ⟨i,oC.2 hi,O⟩,Vq i⟩
def qQq {m x}(h:IZ m x=false)(ids:List Nat)(hm:m<=26):fW ids m x=none:=by
 cases e:fW ids m x with
 |none=>rfl
 |some id=>
  obtain⟨i,hi,rfl,_⟩:=(Sv ids m hm x id).1 e
  rw[(VN m (ER i)).2 ⟨i,hi,rfl⟩]at h
  cases h
def KS {L}(hw:Wf L)(ids:List Nat){m}(hm:m<=26)(h:∀i,i<m->EL ids i<=L.length):He L [] (fW ids m) (IZ m) Cn.nil:=by
 refine⟨⟨hw,⟨.nil,fun y h=>by cases h⟩,fun A n B r e=>by simp at e⟩,rfl,fun x hx=>?_,fun x id hx hA=>?_,fun x id hA=>?_⟩
 ·rw[qQq hx ids hm];rfl
 ·rw[qQq hx ids hm]at hA;cases hA
 obtain⟨i,hi,_,rfl⟩:=(Sv ids m hm x id).1 hA;exact h i hi
def OJ {g:List UInt8->Option Value}{l m}(hm:m<=26)(hl:Vw g l)(h:∀x,g x≠none↔∃i,i<m/\x=ER i):l=(List.range m).map ER:=by
 have hn:((List.range m).map ER).Nodup:=by
  rw[oo,wu];refine AQ (R:=fun a b=>a<b) (fun{a b}ha hb hA e=>?_) Ad;have h1:=oC.1 ha;have h2:=oC.1 hb;have:=qZd oO oO e;omega
 have hs:((List.range m).map ER).Pairwise fun a b=>Cr a b<=0:=by
  rw[wu];refine AQ (R:=fun a b=>a<b) (fun{a b}ha hb hA=>?_) Ad;have h1:=oC.1 ha;have h2:=oC.1 hb;exact RY ⟨a,oO⟩ ⟨b,oO⟩ hA
 have hp:l.Perm ((List.range m).map ER):=(zw hl.nd hn).2 fun x=>by
  rw[hl.mem,h];constructor
  ·rintro⟨i,hi,rfl⟩;exact jg.2 ⟨i,oC.2 hi,O⟩
  intro hx;obtain⟨i,hi,e⟩:=jg.1 hx;exact⟨i,oC.1 hi,e.symm⟩
 refine List.Perm.eq_of_pairwise (le:=fun a b:List UInt8=>Cr a b<=0) (fun a b ha hb h1 h2=>?_) hl.srt hs hp;have:=qK a b;exact Wq.1 oO
end
section
variable {L:List Rl}{W:List Nat}{l:List (List UInt8)}{ids:List Nat}{m:Nat}
def SB (hw:Wf L)(hm:m<=26)(h:∀i,i<m->EL ids i<=L.length) (l1:l.Nodup) (l2:∀x,x∈l↔IZ m x=true) (l3:Fv L ([]++W)) (l4:∀x id,IZ m x=true->fW ids m x=some id->id=0\/id∈[]++W)
  (l5:((Cz L [] W (fW ids m) l).body 0).length<=1048573) (l6:l.length<=m):
  JE (some ⟨(JO none (Et ((Cz L [] W (fW ids m) l).pay 0))).data,(JO none (Et ((Cz L [] W (fW ids m) l).pay 0))).data.length⟩) [Cz L [] W (fW ids m) l]/\He L W (fW ids m) (fun _=>false) (nL Cn.nil [Cz L [] W (fW ids m) l]):=by
 have h0:=KS hw ids hm h;obtain⟨e1,e2⟩:=Jb (L:=L) (V:=[]) (W:=W) (f:=fW ids m) (l:=l)
 have hA:=Ql h0 (W:=W) l3 (l:=l) fun x hx=>by
  obtain⟨i,_,rfl⟩:=(VN m x).1 ((l2 x).1 hx);exact Vq i
 have h3:=JE.nil.snoc hA (by show((Cz L [] W (fW ids m) l).body 0).length<=_;omega) oO oO;have:=h0.commit l1 l2 (W:=W) l3 l4;exact⟨h3,this⟩
def Sj (ids W:List Nat)(m:Nat):List Nat:=(List.range m).map fun i=>Bh W (EL ids i)
def OD (ids W:List Nat)(m:Nat):(Sj ids W m).length=m:=by simp[Sj]
def Ko {i}(h:i<m):EL (Sj ids W m) i=Bh W (EL ids i):=by
 refine wM ?_;unfold Sj;rw[bn,lu h];rfl
def NJ {c}(hm:m<=26)(hD:He L W (fW ids m) (fun _=>false) c) {i} (hi:i<m):c.N (ER i)=some (Bh W (EL ids i)):=by
 rw[hD.nm _ rfl,KW ids hm hi];rfl
def qVk {c}(hm:m<=26)(hD:He L W (fW ids m) (fun _=>false) c) (x:List UInt8):c.N x≠none↔∃i,i<m/\x=ER i:=by
 rw[hD.nm x rfl];constructor
 ·intro h;cases e:fW ids m x with
  |none=>rw[e]at h;exact absurd rfl h
  |some id=>
   obtain⟨i,hi,rfl,_⟩:=(Sv ids m hm x id).1 e
   exact⟨i,hi,O⟩
 rintro⟨i,hi,rfl⟩;rw[KW ids hm hi];simp
def NL {c}(hm:m<=26)(hD:He L W (fW ids m) (fun _=>false) c) {i} (hi:i<m):EL ids i=0\/EL ids i∈W:=hD.inV _ _ rfl (KW ids hm hi)
def NK {c:Cn}{ts:List (List UInt8)}(hm:m<=26)(hD:He L W (fW ids m) (fun _=>false) c) {i:Nat} {t:List UInt8} (hi:i<m) (hb:Be L (EL ids i) t):Be c.G (Bh W (EL ids i)) t:=by
 have hA:=hD.lis.gwf;rw[<-hD.gr]at hA;rcases NL hm hD hi with e| e
 ·rw[e,gH.2 hD.lis.zero];rw[e]at hb;have:=hb.tx;rw[jI]at this;subst this;exact Be.zero _
 have hI:=hD.lis.iso _ e;rw[<-hD.gr]at hI
 have hB:Bh W (EL ids i)<=c.G.length:=by
  rw[hD.gr,kV];exact qG _ _
 exact⟨RO hD.lis.wf hA hI hB hb.ev,by rw[<-qYm hD.lis.wf hA hI];exact hb.tx⟩
def Qz {ts ids ys m L}(hw:Wf L)(hB:ids.length=m)(hC:ys.length=m)(h:∀i,i<m->Be L (EL ids i) (ts.getD i [])) (hs:EJ L ids ys):Ih L (QF ts m) ids ys:=by
 refine⟨hw,by rw[VT];exact hB,by rw[VT];exact hC,fun i x id hx hA=>?_,hs⟩
 have hi:i<m:=by
  have:=(ae.1 hA).1;omega
 rw[Kw hi]at hx;cases hx
 have:=h i hi;rw[wM hA]at this;exact⟨this.ev.le,this.tx⟩
def Lj {ids m}(h:ids.length=m):Fp (Dy ids m)=ids:=by
 apply mh;intro i;unfold Fp;rcases fw i m with hi|hi
 ·obtain⟨id,hA⟩:∃id,ids[i]?=some id:=BG;rw[bn,Rh hi,hA,wM hA];simp
 rw[ku (by rw[jr,tL];exact hi),ku oO]
end
section
variable {E:Bp}{Es:List Bj}{s most:Nat}
def qTt (hE:BP E){d a m N ids}(hw:Wf (BO Es))(hm:m<=26)(hB:∀i,i<m->EL ids i<=Es.length)
  (hN:∀S:List Nat,S.Nodup->(∀x∈S,∃y id,fW ids m y=some id/\En (BO Es) id x)->S.length<=N) (hn:N<=24000):
  Ct E 15 [uPt d] [GG d a [116] s (fW ids m) (IZ m) [] 0,bR s most Es,Dt a [116] ([116]++mD) none none Dr.on]
   (fun v Q=>∃(x0:Option Fl)(ts:List Du)(W:List Nat)(n:Nat),v= .nilIface/\(JE x0 ts/\He (BO Es) W (fW ids m) (fun _=>false) (nL Cn.nil ts)/\(DV (DX 0 ts)).length<=1000000000)/\
    Q=[GG d a [116] s (fW ids m) (fun _=>false) W n,bR s most Es,Dt a [116] ([116]++mD) x0 none Dr.on]):=by
 have hA:∀i,i<m->EL ids i<=(BO Es).length:=fun i hi=>by rw[bQ];exact hB i hi
 have h0:=KS hw ids hm hA;refine(qOi (p:=Dr.on) (n1:=[116]++mD) (x0:=none) (x1:=none) (f:=fW ids m) (ch:=IZ m) (V:=[]) (n:=0) (N:=N) hE Dr.on_up Dr.on_up ⟨by show 1<=1;decide,by show 1<=32;decide⟩ h0.lis (fun x id hx=>by have:=h0.ids x id hx;rwa [bQ]at this) (NS m) hN oO oO rfl (av _)).mono fun v Q h=>?_
 obtain⟨rfl,⟨hC,rfl⟩|⟨W,l,⟨l1,l2,l3,l4,l5,l6⟩,rfl⟩⟩:=h
 ·have e:IZ m=fun _=>false:=funext hC
  rw[e]at h0 ⊢;exact⟨none,[],[],0,O,⟨JE.nil,h0,by decide⟩,rfl⟩
 have l5':((Cz (BO Es) [] W (fW ids m) l).body 0).length<=1048573:=jv l5 oO;obtain⟨g1,g2⟩:=SB hw hm hA l1 l2 l3 l4 l5' l6;refine⟨_,[Cz (BO Es) [] W (fW ids m) l],[]++W,_,O,⟨g1,g2,?_⟩,O⟩;have:=g1.pay _ (bg.2 rfl:(Cz (BO Es) [] W (fW ids m) l).pay 0∈DX 0 [Cz (BO Es) [] W (fW ids m) l]);show(DV [(Cz (BO Es) [] W (fW ids m) l).pay 0]).length<=_;rw[YK,wZ];omega
def JR {L W ids m c}(hm:m<=26)(hD:He L W (fW ids m) (fun _=>false) c):Nu c.N m:=by
 refine⟨(List.range m).map ER,by simp,fun x hx=>?_⟩;obtain⟨i,hi,rfl⟩:=(qVk hm hD x).1 hx;exact jg.2 ⟨i,oC.2 hi,O⟩
def JS {L W ids m c}(hD:He L W (fW ids m) (fun _=>false) c):∀x k,c.N x=some k->k<=c.G.length:=fun x k h=>by
 rw[hD.nm x rfl,oz]at h;obtain⟨id,_,rfl⟩:=h;rw[hD.gr,kV];exact qG _ _
def JU {L W ids m c}(hD:He L W (fW ids m) (fun _=>false) c):c.G.length<=L.length:=by
 rw[hD.gr,kV];exact hD.lis.acc.len
def qYw {a b m}(h:∀i,i<m->EL a i=EL b i):Dy a m=Dy b m:=by
 unfold Dy;refine qi fun i hi=>?_
 rw[h i (oC.1 hi)]
def QB {L ids ys ts m}(hw:Wf L)(hA:ys.length=m)(h:∀i,i<m->Be L (EL ids i) (ts.getD i [])) (hs:EJ L (Fp (Dy ids m)) ys):∃jds,Ih L (QF ts m) jds ys/\LJ (QF ts m) jds=Dy ids m:=by
 obtain⟨jds,hj⟩:∃jds,(List.range m).map (EL ids)=jds:=⟨_,rfl⟩;have hl:jds.length=m:=by rw[<-hj];simp
 have he:∀i,i<m->EL jds i=EL ids i:=fun i hi=>wM (by rw[<-hj,bn,lu hi];rfl)
 have e:=qYw he;rw[<-e,Lj hl]at hs;exact⟨jds,Qz hw hl hA (fun i hi=>by rw[he i hi];exact h i hi) hs,by rw[Oa hl,e]⟩
end
