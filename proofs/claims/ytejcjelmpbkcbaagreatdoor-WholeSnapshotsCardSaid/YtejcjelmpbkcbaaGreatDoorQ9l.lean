import Derived.Test.YtejcjelmpbkcbaaGreatDoorQ79
set_option linter.all false
set_option maxHeartbeats 1000000
namespace Go.Proofs.YtejcjelmpbkcbaaGreatDoor.Pm
open Eg
abbrev Ky:=List UInt8
inductive Tre where
 |nil
 |nd (l:Tre) (k:Ky) (v:Nat) (r:Tre)
def hg:Tre→Nat
 | .nil=>0
 | .nd l _ _ r=>1+max (hg l) (hg r)
def sz:Tre→Nat
 | .nil=>0
 | .nd l _ _ r=>1+sz l+sz r
def io:Tre→List (Ky×Nat)
 | .nil=>[]
 | .nd l k v r=>io l++(k,v)::io r
def qSn:∀t,hg t≤sz t
 | .nil=>ai _
 | .nd l k v r=>by
  have h1:=qSn l;have h2:=qSn r;simp only[hg,sz];omega
def vV:∀t,(io t).length=sz t
 | .nil=>rfl
 | .nd l k v r=>by simp[io,sz,vV l,vV r];omega
def lev (l:Tre)(k:Ky)(v:Nat)(r:Tre):Tre:=
 if hg r+1<hg l then match l with
  | .nil=> .nd .nil k v r
  | .nd ll lk lv lr=>if hg lr≤hg ll then .nd ll lk lv (.nd lr k v r)else match lr with
   | .nil=> .nd (.nd ll lk lv .nil) k v r
   | .nd a tk tv b=> .nd (.nd ll lk lv a) tk tv (.nd b k v r)
 else if hg l+1<hg r then match r with
  | .nil=> .nd l k v .nil
  | .nd rl rk rv rr=>if hg rl≤hg rr then .nd (.nd l k v rl) rk rv rr else match rl with
   | .nil=> .nd l k v (.nd .nil rk rv rr)
   | .nd a tk tv b=> .nd (.nd l k v a) tk tv (.nd b rk rv rr)
 else .nd l k v r
def qCw (l:Tre)(k:Ky)(v:Nat)(r:Tre):io (lev l k v r)=io l++(k,v)::io r:=by
 unfold lev;split
 ·split
  ·rfl
  split
  ·simp[io]
  split <;>simp[io]
 split
 ·split
  ·rfl
  split
  ·simp[io]
  split <;>simp[io]
 rfl
def qMt (l:Tre)(k:Ky)(v:Nat)(r:Tre):sz (lev l k v r)=1+sz l+sz r:=by
 have:=bf List.length (qCw l k v r);rw[vV,aa,av,vV,vV]at this;omega
def put:Tre→Ky→Nat→Tre
 | .nil,k,v=> .nd .nil k v .nil
 | .nd l lk lv r,k,v=>if cmpT k lk<0 then lev (put l k v) lk lv r else if cmpT lk k<0 then lev l lk lv (put r k v)else .nd l k v r
def cut:Tre→(Ky×Nat)×Tre
 | .nil=>(([],0),.nil)
 | .nd .nil k v r=>((k,v),r)
 | .nd (.nd a b c d) k v r=>((cut (.nd a b c d)).1,lev (cut (.nd a b c d)).2 k v r)
def qPu {l r:Tre}{k:Ky}{v:Nat}(h:l≠ .nil):cut (.nd l k v r)=((cut l).1,lev (cut l).2 k v r):=by
 cases l with
 |nil=>exact absurd rfl h
 |nd a b c d=>rfl
def qWl:∀{t:Tre},t≠ .nil→io t=(cut t).1::io (cut t).2
 | .nil,h=>absurd rfl h
 | .nd .nil k v r,_=>rfl
 | .nd (.nd a b c d) k v r,_=>by
  rw[qPu (by intro h;cases h),qCw];show io (.nd a b c d)++(k,v)::io r=_;rw[qWl (t:= .nd a b c d) (by intro h;cases h)];rfl
def drop:Tre→Ky→Tre
 | .nil,_=> .nil
 | .nd l lk lv r,k=>if cmpT k lk<0 then lev (drop l k) lk lv r else if cmpT lk k<0 then lev l lk lv (drop r k)else match r with
  | .nil=>l
  | .nd a b c d=>lev l (cut (.nd a b c d)).1.1 (cut (.nd a b c d)).1.2 (cut (.nd a b c d)).2
def qCd {l r:Tre}{lk k:Ky}{lv:Nat}(h1:¬cmpT k lk<0)(h2:¬cmpT lk k<0)(hr:r≠ .nil):drop (.nd l lk lv r) k=lev l (cut r).1.1 (cut r).1.2 (cut r).2:=by
 cases r with
 |nil=>exact absurd rfl hr
 |nd a b c d=>rw[drop,if_neg h1,if_neg h2]
def fnd:Tre→Ky→Option Nat
 | .nil,_=>none
 | .nd l lk lv r,k=>if cmpT k lk<0 then fnd l k else if cmpT lk k<0 then fnd r k else some lv
def Srt (l:List (Ky×Nat)):Prop:=l.Pairwise fun p q=>cmpT p.1 q.1<0
def qHz {a b c:Ky}(h1:cmpT a b<0)(h2:cmpT b c<0):cmpT a c<0:=by
 have h3:=qRr (Int.le_of_lt h1) (Int.le_of_lt h2);rcases Int.lt_or_eq_of_le h3 with h| h
 ·exact h
 have e:=qBr.1 h;subst e;have:=qBq a b;omega
def pI {a b:Ky}(h:cmpT a b<0):a≠b:=fun e=>by
 rw[e,qUg]at h;omega
def qQh {a b:Ky}(h1:¬cmpT a b<0)(h2:¬cmpT b a<0):a=b:=qBr.1 (by
 have:=qBq a b;omega)
def yG {l r:List (Ky×Nat)}{k:Ky}{v:Nat}:Srt (l++(k,v)::r)↔Srt l∧Srt r∧(∀p∈l,cmpT p.1 k<0)∧∀p∈r,cmpT k p.1<0:=by
 unfold Srt;rw[qj,yh];constructor
 ·rintro⟨h1,⟨h2,h3⟩,h4⟩;exact⟨h1,h3,fun p hp=>h4 p hp _ oC,h2⟩
 rintro⟨h1,h2,h3,h4⟩;refine⟨h1,⟨h4,h2⟩,fun p hp q hq=>?_⟩;rcases iq.1 hq with rfl|hq
 ·exact h3 p hp
 exact qHz (h3 p hp) (h4 q hq)
def qV {l r:List (Ky×Nat)}{k x:Ky}{v w:Nat}:(x,w)∈l++(k,v)::r↔(x,w)∈l∨(x=k∧w=v)∨(x,w)∈r:=by simp
def qIh (k:Ky)(v:Nat):∀t,Srt (io t)→Srt (io (put t k v))∧∀x w,(x,w)∈io (put t k v)↔(x=k∧w=v)∨(x≠k∧(x,w)∈io t)
 | .nil,_=>⟨by simp[put,io,Srt],fun x w=>by simp[put,io]⟩
 | .nd l lk lv r,h=>by
  obtain⟨h1,h2,h3,h4⟩:=yG.1 (show Srt (io l++(lk,lv)::io r)from h);simp only[put];split
  ·rename_i hlt
   obtain⟨i1,i2⟩:=qIh k v l h1;rw[qCw];refine⟨yG.2 ⟨i1,h2,fun p hp=>?_,h4⟩,fun x w=>?_⟩
   ·rcases(i2 p.1 p.2).1 hp with⟨e,_⟩|⟨_,hm⟩
    ·rw[e];exact hlt
    exact h3 p hm
   rw[qV,i2,show io (.nd l lk lv r)=io l++(lk,lv)::io r from rfl,qV];constructor
   ·rintro((h|⟨h,h'⟩)|⟨rfl,rfl⟩|h)
    ·exact .inl h
    ·exact .inr ⟨h,.inl h'⟩
    ·exact .inr ⟨fun e=>pI hlt e.symm,.inr (.inl ⟨O,O⟩)⟩
    exact .inr ⟨fun e=>pI (qHz hlt (h4 _ h)) e.symm,.inr (.inr h)⟩
   rintro(h|⟨h,h'|h'|h'⟩)
   ·exact .inl (.inl h)
   ·exact .inl (.inr ⟨h,h'⟩)
   ·exact .inr (.inl h')
   exact .inr (.inr h')
  rename_i hlt
  split
  ·rename_i hgt
   obtain⟨i1,i2⟩:=qIh k v r h2;rw[qCw];refine⟨yG.2 ⟨h1,i1,h3,fun p hp=>?_⟩,fun x w=>?_⟩
   ·rcases(i2 p.1 p.2).1 hp with⟨e,_⟩|⟨_,hm⟩
    ·rw[e];exact hgt
    exact h4 p hm
   rw[qV,i2,show io (.nd l lk lv r)=io l++(lk,lv)::io r from rfl,qV];constructor
   ·rintro(h|⟨rfl,rfl⟩|(h|⟨h,h'⟩))
    ·exact .inr ⟨pI (qHz (h3 _ h) hgt),.inl h⟩
    ·exact .inr ⟨pI hgt,.inr (.inl ⟨O,O⟩)⟩
    ·exact .inl h
    exact .inr ⟨h,.inr (.inr h')⟩
   rintro(h|⟨h,h'|h'|h'⟩)
   ·exact .inr (.inr (.inl h))
   ·exact .inl h'
   ·exact .inr (.inl h')
   exact .inr (.inr (.inr ⟨h,h'⟩))
  rename_i hgt
  obtain rfl:=qQh hlt hgt;refine⟨yG.2 ⟨h1,h2,h3,h4⟩,fun x w=>?_⟩;rw[show io (.nd l k v r)=io l++(k,v)::io r from rfl,show io (.nd l k lv r)=io l++(k,lv)::io r from rfl,qV,qV];constructor
  ·rintro(h|h|h)
   ·exact .inr ⟨pI (h3 _ h),.inl h⟩
   ·exact .inl h
   exact .inr ⟨fun e=>pI (h4 _ h) e.symm,.inr (.inr h)⟩
  rintro(h|⟨h,h'|⟨h',_⟩|h'⟩)
  ·exact .inr (.inl h)
  ·exact .inl h'
  ·exact absurd h' h
  exact .inr (.inr h')
def qCf (k:Ky):∀t,Srt (io t)→Srt (io (drop t k))∧∀x w,(x,w)∈io (drop t k)↔x≠k∧(x,w)∈io t
 | .nil,_=>⟨by simp[drop,io,Srt],fun x w=>by simp[drop,io]⟩
 | .nd l lk lv r,h=>by
  obtain⟨h1,h2,h3,h4⟩:=yG.1 (show Srt (io l++(lk,lv)::io r)from h);by_cases hlt:cmpT k lk<0
  ·have e:drop (.nd l lk lv r) k=lev (drop l k) lk lv r:=by simp only[drop,if_pos hlt]
   obtain⟨i1,i2⟩:=qCf k l h1;rw[e,qCw];refine⟨yG.2 ⟨i1,h2,fun p hp=>h3 p ((i2 p.1 p.2).1 hp).2,h4⟩,fun x w=>?_⟩;rw[qV,i2,show io (.nd l lk lv r)=io l++(lk,lv)::io r from rfl,qV];constructor
   ·rintro(⟨h,h'⟩|⟨rfl,rfl⟩|h)
    ·exact⟨h,.inl h'⟩
    ·exact⟨fun e=>pI hlt e.symm,.inr (.inl ⟨O,O⟩)⟩
    exact⟨fun e=>pI (qHz hlt (h4 _ h)) e.symm,.inr (.inr h)⟩
   rintro⟨h,h'|h'|h'⟩
   ·exact .inl ⟨h,h'⟩
   ·exact .inr (.inl h')
   exact .inr (.inr h')
  by_cases hgt:cmpT lk k<0
  ·have e:drop (.nd l lk lv r) k=lev l lk lv (drop r k):=by simp only[drop,if_neg hlt,if_pos hgt]
   obtain⟨i1,i2⟩:=qCf k r h2;rw[e,qCw];refine⟨yG.2 ⟨h1,i1,h3,fun p hp=>h4 p ((i2 p.1 p.2).1 hp).2⟩,fun x w=>?_⟩;rw[qV,i2,show io (.nd l lk lv r)=io l++(lk,lv)::io r from rfl,qV];constructor
   ·rintro(h|⟨rfl,rfl⟩|⟨h,h'⟩)
    ·exact⟨pI (qHz (h3 _ h) hgt),.inl h⟩
    ·exact⟨pI hgt,.inr (.inl ⟨O,O⟩)⟩
    exact⟨h,.inr (.inr h')⟩
   rintro⟨h,h'|h'|h'⟩
   ·exact .inl h'
   ·exact .inr (.inl h')
   exact .inr (.inr ⟨h,h'⟩)
  have ek:=qQh hlt hgt
  have hx:∀x w,((x,w)∈io l∨(x,w)∈io r)↔x≠k∧(x,w)∈io (.nd l lk lv r):=fun x w=>by
   rw[show io (.nd l lk lv r)=io l++(lk,lv)::io r from rfl,qV];constructor
   ·rintro(h|h)
    ·exact⟨by rw[ek];exact pI (h3 _ h),.inl h⟩
    exact⟨by rw[ek];exact fun e=>pI (h4 _ h) e.symm,.inr (.inr h)⟩
   rintro⟨h,h'|⟨h',_⟩|h'⟩
   ·exact .inl h'
   ·exact absurd (h'.trans ek.symm) h
   exact .inr h'
  by_cases hr:r= .nil
  ·subst hr;have e:drop (.nd l lk lv .nil) k=l:=by simp only[drop,if_neg hlt,if_neg hgt]
   rw[e];refine⟨h1,fun x w=>?_⟩;rw[←hx];simp[io]
  rw[qCd hlt hgt hr,qCw];have hc:=qWl hr;have h2':=h2;rw[hc]at h2';obtain⟨c1,c2⟩:=yh.1 h2';refine⟨yG.2 ⟨h1,c2,fun p hp=>qHz (h3 p hp) (h4 _ (by rw[hc];exact oC)),fun p hp=>c1 p hp⟩,fun x w=>?_⟩;rw[←hx,hc,qV,iq];refine or_congr Iff.rfl (or_congr ?_ Iff.rfl);constructor
  ·rintro⟨rfl,rfl⟩;rfl
  rintro e;exact⟨bf Prod.fst e,bf Prod.snd e⟩
def qAy (k:Ky)(w:Nat):∀t,Srt (io t)→(fnd t k=some w↔(k,w)∈io t)
 | .nil,_=>by simp[fnd,io]
 | .nd l lk lv r,h=>by
  obtain⟨h1,h2,h3,h4⟩:=yG.1 (show Srt (io l++(lk,lv)::io r)from h);rw[show io (.nd l lk lv r)=io l++(lk,lv)::io r from rfl,qV];simp only[fnd];split
  ·rename_i hlt
   rw[qAy k w l h1];constructor
   ·exact .inl
   rintro(h|⟨h,_⟩|h)
   ·exact h
   ·exact absurd h (pI hlt)
   exact absurd O (pI (qHz hlt (h4 _ h)))
  rename_i hlt
  split
  ·rename_i hgt
   rw[qAy k w r h2];constructor
   ·exact fun h=> .inr (.inr h)
   rintro(h|⟨h,_⟩|h)
   ·exact absurd O (pI (qHz (h3 _ h) hgt))
   ·exact absurd h.symm (pI hgt)
   exact h
  rename_i hgt
  obtain rfl:=qQh hlt hgt;constructor
  ·intro h;exact .inr (.inl ⟨O,(lm h).symm⟩)
  rintro(h|⟨_,h⟩|h)
  ·exact absurd O (pI (h3 _ h))
  ·rw[h]
  exact absurd O (pI (h4 _ h))
structure Rep (t:Tre)(F:Ky→Option Nat):Prop where
 srt:Srt (io t)
 mem:∀x w,(x,w)∈io t↔F x=some w
def pu (F:Ky→Option Nat)(k:Ky)(v:Nat):Ky→Option Nat:=fun x=>if x=k then some v else F x
def dr (F:Ky→Option Nat)(k:Ky):Ky→Option Nat:=fun x=>if x=k then none else F x
def Rep.nil:Rep .nil (fun _=>none):=⟨List.Pairwise.nil,fun x w=>by simp[io]⟩
def Rep.put {t:Tre}{F:Ky→Option Nat}(h:Rep t F)(k:Ky)(v:Nat):Rep (put t k v) (pu F k v):=by
 obtain⟨h1,h2⟩:=qIh k v t h.srt;refine⟨h1,fun x w=>?_⟩;rw[h2,h.mem];unfold pu;split
 ·rename_i e
  simp[e,eq_comm]
 rename_i e
 simp[e]
def Rep.drop {t:Tre}{F:Ky→Option Nat}(h:Rep t F)(k:Ky):Rep (drop t k) (dr F k):=by
 obtain⟨h1,h2⟩:=qCf k t h.srt;refine⟨h1,fun x w=>?_⟩;rw[h2,h.mem];unfold dr;split
 ·rename_i e
  simp[e]
 rename_i e
 simp[e]
def Rep.fnd {t:Tre}{F:Ky→Option Nat}(h:Rep t F)(k:Ky):fnd t k=F k:=by
 cases e:F k with
 |some w=>exact(qAy k w t h.srt).2 ((h.mem k w).2 e)
 |none=>
  cases e2:Pm.fnd t k with
  |none=>rfl
  |some w=>
   have:=(h.mem k w).1 ((qAy k w t h.srt).1 e2)
   rw[e]at this
   cases this
def qMn {l:List (Ky×Nat)}(h:Srt l):l.Nodup:=h.imp fun h e=>pI h (bf Prod.fst e)
def srt_uniq {l l':List (Ky×Nat)}(h:Srt l)(h':Srt l')(hm:∀x w,(x,w)∈l↔(x,w)∈l'):l=l':=by
 have hp:l.Perm l':=(uh (qMn h) (qMn h')).2 fun p=>hm p.1 p.2
 refine hp.eq_of_pairwise (fun a b _ _ h1 h2=>?_) h h';have:=qBq a.1 b.1;omega
def qMu (k:Ky)(v:Nat):∀t,sz (put t k v)≤sz t+1
 | .nil=>ai _
 | .nd l lk lv r=>by
  have h1:=qMu k v l;have h2:=qMu k v r;simp only[put];split
  ·rw[qMt];simp only[sz];omega
  split
  ·rw[qMt];simp only[sz];omega
  simp only[sz];omega
def qYt:∀{t:Tre},t≠ .nil→sz (cut t).2+1=sz t:=fun{t}h=>by
 have:=bf List.length (qWl h);rw[av,vV,vV]at this;omega
def qJe (k:Ky):∀t,sz (drop t k)≤sz t
 | .nil=>ai _
 | .nd l lk lv r=>by
  have h1:=qJe k l;have h2:=qJe k r;by_cases hlt:cmpT k lk<0
  ·have e:drop (.nd l lk lv r) k=lev (drop l k) lk lv r:=by simp only[drop,if_pos hlt]
   rw[e,qMt];simp only[sz];omega
  by_cases hgt:cmpT lk k<0
  ·have e:drop (.nd l lk lv r) k=lev l lk lv (drop r k):=by simp only[drop,if_neg hlt,if_pos hgt]
   rw[e,qMt];simp only[sz];omega
  by_cases hr:r= .nil
  ·subst hr;have e:drop (.nd l lk lv .nil) k=l:=by simp only[drop,if_neg hlt,if_neg hgt]
   rw[e];simp only[sz];omega
  rw[qCd hlt hgt hr,qMt];have:=qYt hr;simp only[sz];omega
end Go.Proofs.YtejcjelmpbkcbaaGreatDoor.Pm
namespace Sl
open Go Go.RowKit
variable {E:Env}{n:Nat}{L:Fr}{S:List HP}{d:Option Nat}{ty:TypeId}{pos:String}{af:Array Edge}{gd:Option (Nat×Bool)}
def dR {x:Operand}{t:TypeId}{g p:Nat}{k:TK}{sz:Nat}{zs vs:List Value}{v:Value}{S':List HP}{q:HP}(h:ev L x=some (.pointer (some ⟨g,p,none⟩)))(ht:E.tab t=some ⟨k,sz,zs⟩)(hk:k.agg=false)
  (hq:∀k,q k→RdAt E.w0 g 0 vs k) (hm:Take q S S') (hv:vs[p]?=some v):Yl E n L S ⟨d,.load t x,ty,pos,af,gd⟩ v:=bJ h ht hk hq hm hv (jg p).symm
end Sl
namespace Go.Proofs.YtejcjelmpbkcbaaGreatDoor
set_option maxRecDepth 10000
section
open Go Go.RowKit Sl Eg Pm
variable {E:Env}
abbrev Ar:=List (Nat×List Value)
def nds (A:Ar):List HP:=A.map fun x=>cells x.1 x.2 243
def ar (A:Ar):HP:=fun h=>∃A2,dU (nds (A++A2)) h
def pv (p:Option Nat):Value:= .pointer (p.map fun b=>⟨b,0,none⟩)
def nV (k:Ky)(v:Nat)(pl pr:Option Nat)(h s:Nat):List Value:=[.string ⟨⟨k⟩⟩,.int .i64 (v:Nat),pv pl,pv pr,.int .i64 (h:Nat),.int .i64 (s:Nat)]
def At (A:Ar):Tre→Option Nat→Prop
 | .nil,p=>p=none
 | .nd l k v r,p=>∃b pl pr,p=some b∧(b,nV k v pl pr (hg (.nd l k v r)) (sz (.nd l k v r)))∈A∧At A l pl∧At A r pr
def At.more {A:Ar}(B:Ar):∀{t:Tre}{p:Option Nat},At A t p→At (A++B) t p
 | .nil,_,h=>h
 | .nd l k v r,_,⟨b,pl,pr,h1,h2,h3,h4⟩=>⟨b,pl,pr,h1,fu _ h2,h3.more B,h4.more B⟩
def nds_rd {w0:World}{b:Nat}{vs:List Value}:∀{A:Ar},(b,vs)∈A→∀k,dU (nds A) k→RdAt w0 b 0 vs k
 |[],h,_,_=>by cases h
 |x::A,h,k,hk=>by
  obtain⟨h1,h2,d,e,hx,hr⟩:=hk;intro i v hv;rcases iq.1 h with rfl| h
  ·have hb:k b=some (.cells ⟨vs⟩ 243 (0,0)):=by rw[e];exact pG hx
   exact .inr ⟨⟨vs⟩,_,_,hb,by rw[jg];simpa using hv⟩
  rcases nds_rd (w0:=w0) h h2 hr i v hv with h|⟨cur,t,z,h5,h6⟩
  ·exact .inl h
  exact .inr ⟨cur,t,z,by rw[e];exact kI d h5,h6⟩
def vS {w0:World}{A:Ar}{b:Nat}{vs:List Value}(h:(b,vs)∈A):∀k,ar A k→RdAt w0 b 0 vs k:=fun k⟨A2,hk⟩=>nds_rd (fu _ h) k hk
def qNd {A B:Ar}:∀k,ar (A++B) k→ar A k:=fun k⟨A2,hk⟩=>⟨B++A2,by rwa [←ah]⟩
def iU {A B:Ar}{H:List HP}:∀k,dU (ar (A++B)::H) k→dU [ar A] k:=fun k h=>fG (l:=[]) qNd (fC (l':=[]) (fun _ _=>trivial) h)
def gG {A B C:Ar}{H:List HP}:∀k,dU (ar (A++B++C)::H) k→dU [ar A] k:=fun k h=>iU k (fG qNd h)
def gJ {A B C D:Ar}{H:List HP}:∀k,dU (ar (A++B++C++D)::H) k→dU [ar A] k:=fun k h=>gG k (fG qNd h)
def ar_push {A:Ar}{b:Nat}{vs:List Value}:∀k,dU [cells b vs 243,ar A] k→ar (A++[(b,vs)]) k:=fun k h=>by
 obtain⟨h1,h2,d,e,hx,h3,h4,d',e',⟨A2,ha⟩,_⟩:=h;have hh:dU (nds ((b,vs)::(A++A2))) (join h1 h2):=⟨h1,h2,d,O,hx,by rw[e'];exact vP ha fun b o x=>pG x⟩;refine⟨A2,?_⟩
 have hp:∀k,dU (nds ((b,vs)::(A++A2))) k→dU (nds (A++[(b,vs)]++A2)) k:=fun k hk=>by
  unfold nds at hk ⊢;rw[jo,fw]at hk;rw[ah,fw,fw];exact zS (l:=A.map fun x=>cells x.1 x.2 243) hk
 rw[e];exact hp _ hh
def At.none {A:Ar}{t:Tre}(h:At A t none):t= .nil:=by
 cases t with
 |nil=>rfl
 |nd l k v r=>obtain⟨b,_,_,h,_⟩:=h;cases h
def mO (hE:Seat E){A:Ar}{t:Tre}{p:Option Nat}(h:At A t p):Ct E 146 [pv p] [ar A] (fun v Q=>v= .int .i64 (hg t:Nat)∧Q=[ar A]):=by
 cases t with
 |nil=>
  obtain rfl:p= .none:=h
  show Ct E 146 [.pointer .none] [ar A] _
  refine bO (hE.fn Tryz.func146) O O O (fun R=>?_)
  simp only[dX,uV,uW]
  refine gg20 ?_
  exact uZ O (.tmp O .nil) ⟨O,O⟩
 |nd l k v r=>
  obtain⟨b,pl,pr,rfl,h2,h3,h4⟩:=h
  have hq:=vS (w0:=E.w0) h2
  show Ct E 146 [uPt b] [ar A] _
  refine bO (hE.fn Tryz.func146) O O O (fun R=>?_)
  simp only[dX,uV,uW]
  refine gg20 ?_
  apply aA
  ·(first |(apply dR rfl (hE.t rfl) rfl (by assumption);(focus((repeat constructor);done));(focus rfl))|(apply aO rfl (hE.t rfl) rfl;(repeat(first |rfl|assumption|constructor));done))
  ·rfl
  refine gg4 ?_
  exact uZ O (.tmp O .nil) ⟨O,O⟩
def qKl (hE:Seat E){A:Ar}{t:Tre}{p:Option Nat}(h:At A t p):Ct E 147 [pv p] [ar A] (fun v Q=>v= .int .i64 (sz t:Nat)∧Q=[ar A]):=by
 cases t with
 |nil=>
  obtain rfl:p= .none:=h
  show Ct E 147 [.pointer .none] [ar A] _
  refine bO (hE.fn Tryz.func147) O O O (fun R=>?_)
  simp only[dX,uV,uW]
  refine gg20 ?_
  exact uZ O (.tmp O .nil) ⟨O,O⟩
 |nd l k v r=>
  obtain⟨b,pl,pr,rfl,h2,h3,h4⟩:=h
  have hq:=vS (w0:=E.w0) h2
  show Ct E 147 [uPt b] [ar A] _
  refine bO (hE.fn Tryz.func147) O O O (fun R=>?_)
  simp only[dX,uV,uW]
  refine gg20 ?_
  apply aA
  ·(first |(apply dR rfl (hE.t rfl) rfl (by assumption);(focus((repeat constructor);done));(focus rfl))|(apply aO rfl (hE.t rfl) rfl;(repeat(first |rfl|assumption|constructor));done))
  ·rfl
  refine gg4 ?_
  exact uZ O (.tmp O .nil) ⟨O,O⟩
def Grows (A:Ar)(t:Tre)(v:Value)(Q:List HP):Prop:=∃(B:Ar)(p:Option Nat),v=pv p∧At (A++B) t p∧Q=[ar (A++B)]
def jA (hE:Seat E){A:Ar}{l r:Tre}{k:Ky}{v:Nat}{pl pr:Option Nat}(hl:At A l pl)(hr:At A r pr)(hs:sz l+sz r≤1000000):
  Ct E 114 [pv pl,.string ⟨⟨k⟩⟩,.int .i64 (v:Nat),pv pr] [ar A] (Grows A (.nd l k v r)):=by
 have h1:=qSn l;have h2:=qSn r;refine bO (hE.fn Tryz.func114) O O O (fun R=>?_);simp only[dX,uV,uW];refine gg12 ?_;refine uX (mO hE hl) O ?_;rintro _ _⟨rfl,rfl⟩;simp only[uV,uW];refine gg1 ?_;refine uX (mO hE hr) O ?_;rintro _ _⟨rfl,rfl⟩;simp only[uV,uW];refine gg3 ?_;refine uX (qKl hE hl) O ?_;rintro _ _⟨rfl,rfl⟩;simp only[uV,uW];refine gg2 ?_;refine uX (qKl hE hr) O ?_;rintro _ _⟨rfl,rfl⟩;simp only[uV,uW];have e2:(1:Int)+((sz l:Nat):Int)+((sz r:Nat):Int)=((sz (.nd l k v r):Nat):Int):=by simp only[sz];omega
 have e1:(1:Int)+(if((hg l:Nat):Int)<((hg r:Nat):Int)then((hg r:Nat):Int)else((hg l:Nat):Int))=((hg (.nd l k v r):Nat):Int):=by
  simp only[hg];split <;>omega
 refine l_eq 18 (.int .i64 (hg (.nd l k v r):Nat)) O (bW e1) ?_;refine gg1 ?_;refine l_eq 24 (.int .i64 (sz (.nd l k v r):Nat)) O (bW e2) ?_;refine gg1 ?_;refine uU ?_;refine gW O (fun b26=>?_);refine gg4 ?_;apply cB
 ·rfl
 ·(apply Rs.tmp rfl;exact Rs.nil)
 ·exact⟨[(b26,nV k v pl pr (hg (.nd l k v r)) (sz (.nd l k v r)))],some b26,O,⟨b26,pl,pr,O,mg _ oC,hl.more _,hr.more _⟩,O⟩
 refine cO (pW (ps:=[cells b26 (nV k v pl pr (hg (.nd l k v r)) (sz (.nd l k v r))) 243,ar A]) (p:=ar (A++[(b26,nV k v pl pr (hg (.nd l k v r)) (sz (.nd l k v r)))])) uK ar_push) ?_;exact uI
end
section
open Go Go.RowKit Sl Eg Pm
variable {E:Env}
def lev_ll {ll lr r:Tre}{lk k:Ky}{lv v:Nat}(h1:hg r+1<hg (.nd ll lk lv lr))(h2:hg lr≤hg ll):lev (.nd ll lk lv lr) k v r= .nd ll lk lv (.nd lr k v r):=by
 unfold lev;rw[if_pos h1];simp only[if_pos h2]
def lev_lr {ll a b r:Tre}{lk tk k:Ky}{lv tv v:Nat}(h1:hg r+1<hg (.nd ll lk lv (.nd a tk tv b)))(h2:¬hg (.nd a tk tv b)≤hg ll):lev (.nd ll lk lv (.nd a tk tv b)) k v r= .nd (.nd ll lk lv a) tk tv (.nd b k v r):=by
 unfold lev;rw[if_pos h1];simp only[if_neg h2]
def lev_rr {l rl rr:Tre}{rk k:Ky}{rv v:Nat}(h0:¬hg (.nd rl rk rv rr)+1<hg l)(h1:hg l+1<hg (.nd rl rk rv rr))(h2:hg rl≤hg rr):lev l k v (.nd rl rk rv rr)= .nd (.nd l k v rl) rk rv rr:=by
 unfold lev;rw[if_neg h0,if_pos h1];simp only[if_pos h2]
def lev_rl {l a b rr:Tre}{rk tk k:Ky}{rv tv v:Nat}(h0:¬hg (.nd (.nd a tk tv b) rk rv rr)+1<hg l)(h1:hg l+1<hg (.nd (.nd a tk tv b) rk rv rr))(h2:¬hg (.nd a tk tv b)≤hg rr):lev l k v (.nd (.nd a tk tv b) rk rv rr)= .nd (.nd l k v a) tk tv (.nd b rk rv rr):=by
 unfold lev;rw[if_neg h0,if_pos h1];simp only[if_neg h2]
def lev_no {l r:Tre}{k:Ky}{v:Nat}(h0:¬hg r+1<hg l)(h1:¬hg l+1<hg r):lev l k v r= .nd l k v r:=by
 unfold lev;rw[if_neg h0,if_neg h1]
def Grows.of {A B:Ar}{t t':Tre}{p:Option Nat}(h:At (A++B) t p)(e:t'=t):Grows A t' (pv p) [ar (A++B)]:=⟨B,p,rfl,by rw[e];exact h,rfl⟩
def Grows.of2 {A B C:Ar}{t t':Tre}{p:Option Nat}(h:At (A++B++C) t p)(e:t'=t):Grows A t' (pv p) [ar (A++B++C)]:=by
 rw[ah]at h ⊢;exact Grows.of h e
def Grows.of3 {A B C D:Ar}{t t':Tre}{p:Option Nat}(h:At (A++B++C++D) t p)(e:t'=t):Grows A t' (pv p) [ar (A++B++C++D)]:=by
 rw[ah (A++B)]at h ⊢;exact Grows.of2 h e
def qK (hE:Seat E){A:Ar}{l r:Tre}{k:Ky}{v:Nat}{pl pr:Option Nat}(hl:At A l pl)(hr:At A r pr)(hs:sz l+sz r≤900000):
  Ct E 115 [pv pl,.string ⟨⟨k⟩⟩,.int .i64 (v:Nat),pv pr] [ar A] (Grows A (lev l k v r)):=by
 have hgl:=qSn l;have hgr:=qSn r;refine bO (hE.fn Tryz.func115) O O O (fun R=>?_);simp only[dX,uV,uW];refine gg9 ?_;refine uX (mO hE hl) O ?_;rintro _ _⟨rfl,rfl⟩;simp only[uV,uW];refine gg1 ?_;refine uX (mO hE hr) O ?_;rintro _ _⟨rfl,rfl⟩;simp only[uV,uW];refine gg4 ?_;refine bE O (fun h1=>?_) (fun h1=>?_)
 ·have h1':hg r+1<hg l:=oO;cases l with
  |nil=>simp only[hg]at h1';omega
  |nd ll lk lv lr=>
   obtain⟨b,p1,p2,rfl,hm,a1,a2⟩:=hl
   have hq:=vS (w0:=E.w0) hm
   simp only[sz]at hs hgl
   refine gg2 ?_
   refine uH ([ar A]) ?_
   refine gg3 ?_
   apply bG 3 O
   ·(first |(apply dR rfl (hE.t rfl) rfl (by assumption);(focus((repeat constructor);done));(focus rfl))|(apply aO rfl (hE.t rfl) rfl;(repeat(first |rfl|assumption|constructor));done))
   ·with_reducible (repeat(first |exact aF|apply aG|apply aH))
   ·kernel_rfl
   ·rfl
   refine uD 5 O (aB O) ?_
   refine gg2 ?_
   apply bG 8 O
   ·(first |(apply dR rfl (hE.t rfl) rfl (by assumption);(focus((repeat constructor);done));(focus rfl))|(apply aO rfl (hE.t rfl) rfl;(repeat(first |rfl|assumption|constructor));done))
   ·with_reducible (repeat(first |exact aF|apply aG|apply aH))
   ·kernel_rfl
   ·rfl
   apply dH 4 O oK O
   refine uC (mO hE a1) O ?_
   rintro _ _⟨rfl,rfl⟩
   simp only[uV,uW]
   refine⟨by(first |(apply ent;(repeat constructor);done)|exact iU|exact gG|exact gJ),?_⟩
   apply dH 9 O oK O
   refine uC (mO hE a2) O ?_
   rintro _ _⟨rfl,rfl⟩
   simp only[uV,uW]
   refine⟨by(first |(apply ent;(repeat constructor);done)|exact iU|exact gG|exact gJ),?_⟩
   refine gg3 ?_
   refine bE O (fun h2=>?_) (fun h2=>?_)
   ·have h2':hg lr≤hg ll:=oO
    refine gg1 ?_
    refine uH ([ar A]) ?_
    refine gg3 ?_
    apply bG 3 O
    ·(first |(apply dR rfl (hE.t rfl) rfl (by assumption);(focus((repeat constructor);done));(focus rfl))|(apply aO rfl (hE.t rfl) rfl;(repeat(first |rfl|assumption|constructor));done))
    ·with_reducible (repeat(first |exact aF|apply aG|apply aH))
    ·kernel_rfl
    ·rfl
    refine gg3 ?_
    apply bG 7 O
    ·(first |(apply dR rfl (hE.t rfl) rfl (by assumption);(focus((repeat constructor);done));(focus rfl))|(apply aO rfl (hE.t rfl) rfl;(repeat(first |rfl|assumption|constructor));done))
    ·with_reducible (repeat(first |exact aF|apply aG|apply aH))
    ·kernel_rfl
    ·rfl
    refine gg3 ?_
    apply bG 11 O
    ·(first |(apply dR rfl (hE.t rfl) rfl (by assumption);(focus((repeat constructor);done));(focus rfl))|(apply aO rfl (hE.t rfl) rfl;(repeat(first |rfl|assumption|constructor));done))
    ·with_reducible (repeat(first |exact aF|apply aG|apply aH))
    ·kernel_rfl
    ·rfl
    refine gg3 ?_
    apply bG 15 O
    ·(first |(apply dR rfl (hE.t rfl) rfl (by assumption);(focus((repeat constructor);done));(focus rfl))|(apply aO rfl (hE.t rfl) rfl;(repeat(first |rfl|assumption|constructor));done))
    ·with_reducible (repeat(first |exact aF|apply aG|apply aH))
    ·kernel_rfl
    ·rfl
    refine gg3 ?_
    apply dH 19 O oK O
    refine uC (jA (v:=v) hE a2 hr oO) O ?_
    rintro _ _⟨B1,p9,rfl,h9,rfl⟩
    simp only[uV,uW]
    refine⟨by(first |(apply ent;(repeat constructor);done)|exact iU|exact gG|exact gJ),?_⟩
    apply dH 20 O oK O
    have hz:sz ll+sz (Tre.nd lr k v r)≤1000000:=by simp only[sz];omega
    refine uC (jA (v:=lv) hE (a1.more B1) h9 hz) O ?_
    rintro _ _⟨B2,p10,rfl,h10,rfl⟩
    simp only[uV,uW]
    refine⟨by(first |(apply ent;(repeat constructor);done)|exact iU|exact gG|exact gJ),?_⟩
    refine gg6 ?_
    exact uZ O (.tmp O .nil) (Grows.of2 h10 (lev_ll h1' h2'))
   have h2':¬hg lr≤hg ll:=oO
   cases lr with
   |nil=>exact absurd (au _) h2'
   |nd a tk tv b'=>
    obtain⟨b2,p3,p4,rfl,hm2,a3,a4⟩:=a2
    have hq2:=vS (w0:=E.w0) hm2
    simp only[sz]at hs hgl
    refine gg7 ?_
    apply aA
    ·(first |(apply dR rfl (hE.t rfl) rfl (by assumption);(focus((repeat constructor);done));(focus rfl))|(apply aO rfl (hE.t rfl) rfl;(repeat(first |rfl|assumption|constructor));done))
    ·rfl
    refine gg4 ?_
    refine uH ([ar A]) ?_
    refine gg3 ?_
    apply bG 3 O
    ·(first |(apply dR rfl (hE.t rfl) rfl (by assumption);(focus((repeat constructor);done));(focus rfl))|(apply aO rfl (hE.t rfl) rfl;(repeat(first |rfl|assumption|constructor));done))
    ·with_reducible (repeat(first |exact aF|apply aG|apply aH))
    ·kernel_rfl
    ·rfl
    refine gg3 ?_
    apply bG 7 O
    ·(first |(apply dR rfl (hE.t rfl) rfl (by assumption);(focus((repeat constructor);done));(focus rfl))|(apply aO rfl (hE.t rfl) rfl;(repeat(first |rfl|assumption|constructor));done))
    ·with_reducible (repeat(first |exact aF|apply aG|apply aH))
    ·kernel_rfl
    ·rfl
    refine gg3 ?_
    apply bG 11 O
    ·(first |(apply dR rfl (hE.t rfl) rfl (by assumption);(focus((repeat constructor);done));(focus rfl))|(apply aO rfl (hE.t rfl) rfl;(repeat(first |rfl|assumption|constructor));done))
    ·with_reducible (repeat(first |exact aF|apply aG|apply aH))
    ·kernel_rfl
    ·rfl
    refine gg3 ?_
    apply bG 15 O
    ·(first |(apply dR rfl (hE.t rfl) rfl (by assumption);(focus((repeat constructor);done));(focus rfl))|(apply aO rfl (hE.t rfl) rfl;(repeat(first |rfl|assumption|constructor));done))
    ·with_reducible (repeat(first |exact aF|apply aG|apply aH))
    ·kernel_rfl
    ·rfl
    refine uD 17 O (aB O) ?_
    refine gg2 ?_
    apply bG 20 O
    ·(first |(apply dR rfl (hE.t rfl) rfl (by assumption);(focus((repeat constructor);done));(focus rfl))|(apply aO rfl (hE.t rfl) rfl;(repeat(first |rfl|assumption|constructor));done))
    ·with_reducible (repeat(first |exact aF|apply aG|apply aH))
    ·kernel_rfl
    ·rfl
    refine gg3 ?_
    apply bG 24 O
    ·(first |(apply dR rfl (hE.t rfl) rfl (by assumption);(focus((repeat constructor);done));(focus rfl))|(apply aO rfl (hE.t rfl) rfl;(repeat(first |rfl|assumption|constructor));done))
    ·with_reducible (repeat(first |exact aF|apply aG|apply aH))
    ·kernel_rfl
    ·rfl
    refine gg3 ?_
    apply bG 28 O
    ·(first |(apply dR rfl (hE.t rfl) rfl (by assumption);(focus((repeat constructor);done));(focus rfl))|(apply aO rfl (hE.t rfl) rfl;(repeat(first |rfl|assumption|constructor));done))
    ·with_reducible (repeat(first |exact aF|apply aG|apply aH))
    ·kernel_rfl
    ·rfl
    refine gg3 ?_
    apply dH 16 O oK O
    refine uC (jA (v:=lv) hE a1 a3 oO) O ?_
    rintro _ _⟨B1,p9,rfl,h9,rfl⟩
    simp only[uV,uW]
    refine⟨by(first |(apply ent;(repeat constructor);done)|exact iU|exact gG|exact gJ),?_⟩
    apply dH 32 O oK O
    refine uC (jA (v:=v) hE (a4.more B1) (hr.more B1) oO) O ?_
    rintro _ _⟨B2,p10,rfl,h10,rfl⟩
    simp only[uV,uW]
    refine⟨by(first |(apply ent;(repeat constructor);done)|exact iU|exact gG|exact gJ),?_⟩
    apply dH 33 O oK O
    have hz:sz (Tre.nd ll lk lv a)+sz (Tre.nd b' k v r)≤1000000:=by simp only[sz];omega
    refine uC (jA (v:=tv) hE (h9.more B2) h10 hz) O ?_
    rintro _ _⟨B3,p11,rfl,h11,rfl⟩
    simp only[uV,uW]
    refine⟨by(first |(apply ent;(repeat constructor);done)|exact iU|exact gG|exact gJ),?_⟩
    refine gg5 ?_
    exact uZ O (.tmp O .nil) (Grows.of3 h11 (lev_lr h1' h2'))
 have h1':¬hg r+1<hg l:=oO;refine gg6 ?_;refine uX (mO hE hr) O ?_;rintro _ _⟨rfl,rfl⟩;simp only[uV,uW];refine gg1 ?_;refine uX (mO hE hl) O ?_;rintro _ _⟨rfl,rfl⟩;simp only[uV,uW];refine gg4 ?_;refine bE O (fun h3=>?_) (fun h3=>?_)
 ·have h3':hg l+1<hg r:=oO;cases r with
  |nil=>simp only[hg]at h3';omega
  |nd rl rk rv rr=>
   obtain⟨b,p1,p2,rfl,hm,a1,a2⟩:=hr
   have hq:=vS (w0:=E.w0) hm
   simp only[sz]at hs hgr
   refine gg2 ?_
   refine uH ([ar A]) ?_
   refine gg3 ?_
   apply bG 3 O
   ·(first |(apply dR rfl (hE.t rfl) rfl (by assumption);(focus((repeat constructor);done));(focus rfl))|(apply aO rfl (hE.t rfl) rfl;(repeat(first |rfl|assumption|constructor));done))
   ·with_reducible (repeat(first |exact aF|apply aG|apply aH))
   ·kernel_rfl
   ·rfl
   refine uD 5 O (aB O) ?_
   refine gg2 ?_
   apply bG 8 O
   ·(first |(apply dR rfl (hE.t rfl) rfl (by assumption);(focus((repeat constructor);done));(focus rfl))|(apply aO rfl (hE.t rfl) rfl;(repeat(first |rfl|assumption|constructor));done))
   ·with_reducible (repeat(first |exact aF|apply aG|apply aH))
   ·kernel_rfl
   ·rfl
   apply dH 4 O oK O
   refine uC (mO hE a2) O ?_
   rintro _ _⟨rfl,rfl⟩
   simp only[uV,uW]
   refine⟨by(first |(apply ent;(repeat constructor);done)|exact iU|exact gG|exact gJ),?_⟩
   apply dH 9 O oK O
   refine uC (mO hE a1) O ?_
   rintro _ _⟨rfl,rfl⟩
   simp only[uV,uW]
   refine⟨by(first |(apply ent;(repeat constructor);done)|exact iU|exact gG|exact gJ),?_⟩
   refine gg3 ?_
   refine bE O (fun h2=>?_) (fun h2=>?_)
   ·have h2':hg rl≤hg rr:=oO
    refine gg1 ?_
    refine uH ([ar A]) ?_
    refine gg6 ?_
    apply bG 6 O
    ·(first |(apply dR rfl (hE.t rfl) rfl (by assumption);(focus((repeat constructor);done));(focus rfl))|(apply aO rfl (hE.t rfl) rfl;(repeat(first |rfl|assumption|constructor));done))
    ·with_reducible (repeat(first |exact aF|apply aG|apply aH))
    ·kernel_rfl
    ·rfl
    refine uD 8 O (aB O) ?_
    refine gg2 ?_
    apply bG 11 O
    ·(first |(apply dR rfl (hE.t rfl) rfl (by assumption);(focus((repeat constructor);done));(focus rfl))|(apply aO rfl (hE.t rfl) rfl;(repeat(first |rfl|assumption|constructor));done))
    ·with_reducible (repeat(first |exact aF|apply aG|apply aH))
    ·kernel_rfl
    ·rfl
    refine gg3 ?_
    apply bG 15 O
    ·(first |(apply dR rfl (hE.t rfl) rfl (by assumption);(focus((repeat constructor);done));(focus rfl))|(apply aO rfl (hE.t rfl) rfl;(repeat(first |rfl|assumption|constructor));done))
    ·with_reducible (repeat(first |exact aF|apply aG|apply aH))
    ·kernel_rfl
    ·rfl
    refine gg3 ?_
    apply bG 19 O
    ·(first |(apply dR rfl (hE.t rfl) rfl (by assumption);(focus((repeat constructor);done));(focus rfl))|(apply aO rfl (hE.t rfl) rfl;(repeat(first |rfl|assumption|constructor));done))
    ·with_reducible (repeat(first |exact aF|apply aG|apply aH))
    ·kernel_rfl
    ·rfl
    apply dH 7 O oK O
    refine uC (jA (v:=v) hE hl a1 oO) O ?_
    rintro _ _⟨B1,p9,rfl,h9,rfl⟩
    simp only[uV,uW]
    refine⟨by(first |(apply ent;(repeat constructor);done)|exact iU|exact gG|exact gJ),?_⟩
    apply dH 20 O oK O
    have hz:sz (Tre.nd l k v rl)+sz rr≤1000000:=by simp only[sz];omega
    refine uC (jA (v:=rv) hE h9 (a2.more B1) hz) O ?_
    rintro _ _⟨B2,p10,rfl,h10,rfl⟩
    simp only[uV,uW]
    refine⟨by(first |(apply ent;(repeat constructor);done)|exact iU|exact gG|exact gJ),?_⟩
    refine gg6 ?_
    exact uZ O (.tmp O .nil) (Grows.of2 h10 (lev_rr h1' h3' h2'))
   have h2':¬hg rl≤hg rr:=oO
   cases rl with
   |nil=>exact absurd (au _) h2'
   |nd a tk tv b'=>
    obtain⟨b2,p3,p4,rfl,hm2,a3,a4⟩:=a1
    have hq2:=vS (w0:=E.w0) hm2
    simp only[sz]at hs hgr
    refine gg7 ?_
    apply aA
    ·(first |(apply dR rfl (hE.t rfl) rfl (by assumption);(focus((repeat constructor);done));(focus rfl))|(apply aO rfl (hE.t rfl) rfl;(repeat(first |rfl|assumption|constructor));done))
    ·rfl
    refine gg4 ?_
    refine uH ([ar A]) ?_
    refine gg6 ?_
    apply bG 6 O
    ·(first |(apply dR rfl (hE.t rfl) rfl (by assumption);(focus((repeat constructor);done));(focus rfl))|(apply aO rfl (hE.t rfl) rfl;(repeat(first |rfl|assumption|constructor));done))
    ·with_reducible (repeat(first |exact aF|apply aG|apply aH))
    ·kernel_rfl
    ·rfl
    refine uD 8 O (aB O) ?_
    refine gg2 ?_
    apply bG 11 O
    ·(first |(apply dR rfl (hE.t rfl) rfl (by assumption);(focus((repeat constructor);done));(focus rfl))|(apply aO rfl (hE.t rfl) rfl;(repeat(first |rfl|assumption|constructor));done))
    ·with_reducible (repeat(first |exact aF|apply aG|apply aH))
    ·kernel_rfl
    ·rfl
    refine gg3 ?_
    apply bG 15 O
    ·(first |(apply dR rfl (hE.t rfl) rfl (by assumption);(focus((repeat constructor);done));(focus rfl))|(apply aO rfl (hE.t rfl) rfl;(repeat(first |rfl|assumption|constructor));done))
    ·with_reducible (repeat(first |exact aF|apply aG|apply aH))
    ·kernel_rfl
    ·rfl
    refine gg3 ?_
    apply bG 19 O
    ·(first |(apply dR rfl (hE.t rfl) rfl (by assumption);(focus((repeat constructor);done));(focus rfl))|(apply aO rfl (hE.t rfl) rfl;(repeat(first |rfl|assumption|constructor));done))
    ·with_reducible (repeat(first |exact aF|apply aG|apply aH))
    ·kernel_rfl
    ·rfl
    refine gg3 ?_
    apply bG 23 O
    ·(first |(apply dR rfl (hE.t rfl) rfl (by assumption);(focus((repeat constructor);done));(focus rfl))|(apply aO rfl (hE.t rfl) rfl;(repeat(first |rfl|assumption|constructor));done))
    ·with_reducible (repeat(first |exact aF|apply aG|apply aH))
    ·kernel_rfl
    ·rfl
    refine gg3 ?_
    apply bG 27 O
    ·(first |(apply dR rfl (hE.t rfl) rfl (by assumption);(focus((repeat constructor);done));(focus rfl))|(apply aO rfl (hE.t rfl) rfl;(repeat(first |rfl|assumption|constructor));done))
    ·with_reducible (repeat(first |exact aF|apply aG|apply aH))
    ·kernel_rfl
    ·rfl
    refine gg3 ?_
    apply bG 31 O
    ·(first |(apply dR rfl (hE.t rfl) rfl (by assumption);(focus((repeat constructor);done));(focus rfl))|(apply aO rfl (hE.t rfl) rfl;(repeat(first |rfl|assumption|constructor));done))
    ·with_reducible (repeat(first |exact aF|apply aG|apply aH))
    ·kernel_rfl
    ·rfl
    apply dH 7 O oK O
    refine uC (jA (v:=v) hE hl a3 oO) O ?_
    rintro _ _⟨B1,p9,rfl,h9,rfl⟩
    simp only[uV,uW]
    refine⟨by(first |(apply ent;(repeat constructor);done)|exact iU|exact gG|exact gJ),?_⟩
    apply dH 32 O oK O
    refine uC (jA (v:=rv) hE (a4.more B1) (a2.more B1) oO) O ?_
    rintro _ _⟨B2,p10,rfl,h10,rfl⟩
    simp only[uV,uW]
    refine⟨by(first |(apply ent;(repeat constructor);done)|exact iU|exact gG|exact gJ),?_⟩
    apply dH 33 O oK O
    have hz:sz (Tre.nd l k v a)+sz (Tre.nd b' rk rv rr)≤1000000:=by simp only[sz];omega
    refine uC (jA (v:=tv) hE (h9.more B2) h10 hz) O ?_
    rintro _ _⟨B3,p11,rfl,h11,rfl⟩
    simp only[uV,uW]
    refine⟨by(first |(apply ent;(repeat constructor);done)|exact iU|exact gG|exact gJ),?_⟩
    refine gg5 ?_
    exact uZ O (.tmp O .nil) (Grows.of3 h11 (lev_rl h1' h3' h2'))
 have h3':¬hg l+1<hg r:=oO;refine gg8 ?_;refine uX (jA (v:=v) hE hl hr oO) O ?_;rintro _ _⟨B1,p9,rfl,h9,rfl⟩;simp only[uV,uW];refine gg4 ?_;exact uZ O (.tmp O .nil) (Grows.of h9 (lev_no h1' h3'))
end
section
open Go Go.RowKit Sl Eg Pm
variable {E:Env}
def iV:∀(a b:List UInt8),Op.bytesLess a b=decide (cmpT a b<0)
 |[],[]=>rfl
 |[],b::B=>rfl
 |a::A,[]=>rfl
 |a::A,b::B=>by
  unfold Op.bytesLess cmpT;rw[iV A B];by_cases h1:a.toNat<b.toNat
  ·have:a<b:=UInt8.lt_iff_toNat_lt.2 h1;rw[if_pos h1];simp[this]
  have h1':¬a<b:=fun h=>h1 (UInt8.lt_iff_toNat_lt.1 h)
  rw[if_neg h1];by_cases h2:b.toNat<a.toNat
  ·rw[if_pos h2];have:¬a=b:=fun e=>by rw[e]at h2;omega
   simp[h1',this]
  rw[if_neg h2];have:a=b:=UInt8.toNat_inj.1 oO;simp[h1',this]
def Fnd (A:Ar)(k:Ky)(o:Option Nat)(q:Option Nat):Prop:=(o=none∧q=none)∨∃w b pl pr h s,o=some w∧q=some b∧(b,nV k w pl pr h s)∈A
def qPo (hE:Seat E){A:Ar}{t:Tre}{k:Ky}{p:Option Nat}(h:At A t p):
  Ct E 83 [pv p,.string ⟨⟨k⟩⟩] [ar A] (fun v Q=>∃q,v=pv q∧Fnd A k (fnd t k) q∧Q=[ar A]):=by
 refine bO (hE.fn Tryz.func83) O O O (fun R=>?_);simp only[dX,uV,uW];refine gg7 ?_;refine eQ (fun x:Tre×Option Nat=>[(0,pv x.2),(1,.string ⟨⟨k⟩⟩)]) (fun x=>[ar A,R]) (fun x=>sz x.1) (fun x=>At A x.1 x.2∧fnd x.1 k=fnd t k) (t,p) ⟨h,O⟩ ⟨O,O,trivial⟩ uI ?_;rintro⟨t',p'⟩⟨ha,hf⟩;simp only at ha hf ⊢;cases t' with
 |nil=>
  obtain rfl:p'=none:=ha
  show WP E _ _ _ [(0,.pointer none),(1,.string ⟨⟨k⟩⟩)] _
  refine gg19 ?_
  exact uZ O (.tmp O .nil) ⟨none,O,.inl ⟨hf.symm,O⟩,O⟩
 |nd l lk lv r=>
  obtain⟨b,pl,pr,rfl,hm,a1,a2⟩:=ha
  have hq:=vS (w0:=E.w0) hm
  show WP E _ _ _ [(0,uPt b),(1,.string ⟨⟨k⟩⟩)] _
  refine gg18 ?_
  apply aA
  ·(first |(apply dR rfl (hE.t rfl) rfl (by assumption);(focus((repeat constructor);done));(focus rfl))|(apply aO rfl (hE.t rfl) rfl;(repeat(first |rfl|assumption|constructor));done))
  ·rfl
  refine uB (vR O O) ?_
  refine gg3 ?_
  refine w_eq 8 (.bool (decide (cmpT k lk<0))) O (bf Value.bool (iV k lk)) ?_
  refine bE O (fun h1=>?_) (fun h1=>?_)
  ·refine gg4 ?_
   apply aA
   ·(first |(apply dR rfl (hE.t rfl) rfl (by assumption);(focus((repeat constructor);done));(focus rfl))|(apply aO rfl (hE.t rfl) rfl;(repeat(first |rfl|assumption|constructor));done))
   ·rfl
   refine gg4 ?_
   refine bS (ι:=Tre×Option Nat) (j:=(l,pl)) ⟨a1,by rw[←hf];simp only[fnd,if_pos h1]⟩ (by simp only[sz];omega) ⟨rfl,rfl,trivial⟩ uI
  refine gg5 ?_
  apply aA
  ·(first |(apply dR rfl (hE.t rfl) rfl (by assumption);(focus((repeat constructor);done));(focus rfl))|(apply aO rfl (hE.t rfl) rfl;(repeat(first |rfl|assumption|constructor));done))
  ·rfl
  refine gg1 ?_
  refine uB (vR O O) ?_
  refine gg3 ?_
  refine w_eq 19 (.bool (decide (cmpT lk k<0))) O (bf Value.bool (iV lk k)) ?_
  refine bE O (fun h2=>?_) (fun h2=>?_)
  ·refine gg4 ?_
   apply aA
   ·(first |(apply dR rfl (hE.t rfl) rfl (by assumption);(focus((repeat constructor);done));(focus rfl))|(apply aO rfl (hE.t rfl) rfl;(repeat(first |rfl|assumption|constructor));done))
   ·rfl
   refine gg4 ?_
   refine bS (ι:=Tre×Option Nat) (j:=(r,pr)) ⟨a2,by rw[←hf];simp only[fnd,if_neg h1,if_pos h2]⟩ (by simp only[sz];omega) ⟨rfl,rfl,trivial⟩ uI
  refine gg12 ?_
  apply cB
  ·rfl
  ·(apply Rs.tmp rfl;exact Rs.nil)
  ·refine⟨some b,O,.inr ⟨lv,b,pl,pr,hg (.nd l lk lv r),sz (.nd l lk lv r),?_,O,?_⟩,O⟩
   ·rw[←hf]
    simp only[fnd,if_neg h1,if_neg h2]
   rw[qQh h1 h2]
   exact hm
  exact uI
def qUx (hE:Seat E){A:Ar}{k:Ky}{o q:Option Nat}(h:Fnd A k o q):
  Ct E 82 [pv q] [ar A] (fun v Q=>v= .tuple #[.string ⟨⟨if o=none then[]else k⟩⟩,.int .i64 (o.getD 0:Nat),.bool o.isSome]∧Q=[ar A]):=by
 rcases h with⟨rfl,rfl⟩|⟨w,b,pl,pr,h,s,rfl,rfl,hm⟩
 ·show Ct E 82 [.pointer none] [ar A] _;refine bO (hE.fn Tryz.func82) O O O (fun R=>?_);simp only[dX,uV,uW];refine gg36 ?_;exact uZ O (.tmp O (.tmp O (.tmp O .nil))) ⟨O,O⟩
 have hq:=vS (w0:=E.w0) hm;show Ct E 82 [uPt b] [ar A] _;refine bO (hE.fn Tryz.func82) O O O (fun R=>?_);simp only[dX,uV,uW];refine gg22 ?_;apply aA
 ·(first |(apply dR rfl (hE.t rfl) rfl (by assumption);(focus((repeat constructor);done));(focus rfl))|(apply aO rfl (hE.t rfl) rfl;(repeat(first |rfl|assumption|constructor));done))
 ·rfl
 refine gg3 ?_;apply aA
 ·(first |(apply dR rfl (hE.t rfl) rfl (by assumption);(focus((repeat constructor);done));(focus rfl))|(apply aO rfl (hE.t rfl) rfl;(repeat(first |rfl|assumption|constructor));done))
 ·rfl
 refine gg6 ?_;exact uZ O (.tmp O (.tmp O (.tmp O .nil))) ⟨O,O⟩
def qUy (hE:Seat E){A:Ar}{t:Tre}{k:Ky}{p:Option Nat}(h:At A t p):
  Ct E 47 [.agg #[pv p],.string ⟨⟨k⟩⟩] [ar A] (fun v Q=>v= .tuple #[.int .i64 ((fnd t k).getD 0:Nat),.bool (fnd t k).isSome]∧Q=[ar A]):=by
 refine bO (hE.fn Tryz.func47) O O O (fun R=>?_);simp only[dX,uV,uW];refine gg2 ?_;refine uU ?_;refine gW O (fun b2=>?_);refine gg7 ?_;apply aA
 ·(first |(apply dR rfl (hE.t rfl) rfl (by assumption);(focus((repeat constructor);done));(focus rfl))|(apply aO rfl (hE.t rfl) rfl;(repeat(first |rfl|assumption|constructor));done))
 ·rfl
 refine gg1 ?_;refine uX (qPo hE h) O ?_;rintro _ _⟨q,rfl,hf,rfl⟩;simp only[uV,uW];refine uX (qUx hE hf) O ?_;rintro _ _⟨rfl,rfl⟩;simp only[uV,uW];refine gg18 ?_;exact uZ O (.tmp O (.tmp O .nil)) ⟨O,O⟩
def qNl (hE:Seat E){k:Ky}{v:Nat}:∀{t:Tre}{A:Ar}{p:Option Nat},At A t p→sz t≤100000→
  Ct E 84 [pv p,.string ⟨⟨k⟩⟩,.int .i64 (v:Nat)] [ar A] (Grows A (put t k v))
 | .nil,A,p,h,hs=>by
  obtain rfl:p=none:=h;have h0:At A .nil none:=rfl;show Ct E 84 [.pointer none,.string ⟨⟨k⟩⟩,.int .i64 (v:Nat)] [ar A] _;refine bO (hE.fn Tryz.func84) O O O (fun R=>?_);simp only[dX,uV,uW];refine gg17 ?_;refine uX (jA (l:=Tre.nil) (r:=Tre.nil) (pl:=none) (pr:=none) (v:=v) hE h0 h0 (au _)) O ?_;rintro _ _⟨B1,p9,rfl,h9,rfl⟩;simp only[uV,uW];refine gg5 ?_;exact uZ O (.tmp O .nil) (Grows.of h9 O)
 | .nd l lk lv r,A,p,h,hs=>by
  obtain⟨b,pl,pr,rfl,hm,a1,a2⟩:=h;have hq:=vS (w0:=E.w0) hm;simp only[sz]at hs;show Ct E 84 [uPt b,.string ⟨⟨k⟩⟩,.int .i64 (v:Nat)] [ar A] _;have hz1:=qMu k v l;have hz2:=qMu k v r;refine bO (hE.fn Tryz.func84) O O O (fun R=>?_);simp only[dX,uV,uW];refine gg22 ?_;apply aA
  ·(first |(apply dR rfl (hE.t rfl) rfl (by assumption);(focus((repeat constructor);done));(focus rfl))|(apply aO rfl (hE.t rfl) rfl;(repeat(first |rfl|assumption|constructor));done))
  ·rfl
  refine uB (vR O O) ?_;refine gg2 ?_;refine w_eq 17 (.bool (decide (cmpT k lk<0))) O (bf Value.bool (iV k lk)) ?_;refine bE O (fun h1=>?_) (fun h1=>?_)
  ·skip
   refine gg1 ?_;refine uH ([ar A]) ?_;refine gg3 ?_;apply bG 3 O
   ·(first |(apply dR rfl (hE.t rfl) rfl (by assumption);(focus((repeat constructor);done));(focus rfl))|(apply aO rfl (hE.t rfl) rfl;(repeat(first |rfl|assumption|constructor));done))
   ·with_reducible (repeat(first |exact aF|apply aG|apply aH))
   ·kernel_rfl
   ·rfl
   refine gg2 ?_;refine uD 7 O (aB O) ?_;refine gg2 ?_;apply bG 10 O
   ·(first |(apply dR rfl (hE.t rfl) rfl (by assumption);(focus((repeat constructor);done));(focus rfl))|(apply aO rfl (hE.t rfl) rfl;(repeat(first |rfl|assumption|constructor));done))
   ·with_reducible (repeat(first |exact aF|apply aG|apply aH))
   ·kernel_rfl
   ·rfl
   refine gg3 ?_;apply bG 14 O
   ·(first |(apply dR rfl (hE.t rfl) rfl (by assumption);(focus((repeat constructor);done));(focus rfl))|(apply aO rfl (hE.t rfl) rfl;(repeat(first |rfl|assumption|constructor));done))
   ·with_reducible (repeat(first |exact aF|apply aG|apply aH))
   ·kernel_rfl
   ·rfl
   refine gg3 ?_;apply bG 18 O
   ·(first |(apply dR rfl (hE.t rfl) rfl (by assumption);(focus((repeat constructor);done));(focus rfl))|(apply aO rfl (hE.t rfl) rfl;(repeat(first |rfl|assumption|constructor));done))
   ·with_reducible (repeat(first |exact aF|apply aG|apply aH))
   ·kernel_rfl
   ·rfl
   apply dH 6 O oK O;refine uC (qNl hE a1 oO) O ?_;rintro _ _⟨B1,p9,rfl,h9,rfl⟩;simp only[uV,uW];refine⟨by(first |(apply ent;(repeat constructor);done)|exact iU|exact gG|exact gJ),?_⟩;apply dH 19 O oK O;refine uC (qK (v:=lv) hE h9 (a2.more B1) oO) O ?_;rintro _ _⟨B2,p10,rfl,h10,rfl⟩;simp only[uV,uW];refine⟨by(first |(apply ent;(repeat constructor);done)|exact iU|exact gG|exact gJ),?_⟩;refine gg5 ?_;exact uZ O (.tmp O .nil) (Grows.of2 h10 (by rw[put,if_pos h1]))
  refine gg8 ?_;apply aA
  ·(first |(apply dR rfl (hE.t rfl) rfl (by assumption);(focus((repeat constructor);done));(focus rfl))|(apply aO rfl (hE.t rfl) rfl;(repeat(first |rfl|assumption|constructor));done))
  ·rfl
  refine gg1 ?_;refine uB (vR O O) ?_;refine gg2 ?_;refine w_eq 43 (.bool (decide (cmpT lk k<0))) O (bf Value.bool (iV lk k)) ?_;refine bE O (fun h2=>?_) (fun h2=>?_)
  ·skip
   refine gg1 ?_;refine uH ([ar A]) ?_;refine gg3 ?_;apply bG 3 O
   ·(first |(apply dR rfl (hE.t rfl) rfl (by assumption);(focus((repeat constructor);done));(focus rfl))|(apply aO rfl (hE.t rfl) rfl;(repeat(first |rfl|assumption|constructor));done))
   ·with_reducible (repeat(first |exact aF|apply aG|apply aH))
   ·kernel_rfl
   ·rfl
   refine gg3 ?_;apply bG 7 O
   ·(first |(apply dR rfl (hE.t rfl) rfl (by assumption);(focus((repeat constructor);done));(focus rfl))|(apply aO rfl (hE.t rfl) rfl;(repeat(first |rfl|assumption|constructor));done))
   ·with_reducible (repeat(first |exact aF|apply aG|apply aH))
   ·kernel_rfl
   ·rfl
   refine gg3 ?_;apply bG 11 O
   ·(first |(apply dR rfl (hE.t rfl) rfl (by assumption);(focus((repeat constructor);done));(focus rfl))|(apply aO rfl (hE.t rfl) rfl;(repeat(first |rfl|assumption|constructor));done))
   ·with_reducible (repeat(first |exact aF|apply aG|apply aH))
   ·kernel_rfl
   ·rfl
   refine gg3 ?_;apply bG 15 O
   ·(first |(apply dR rfl (hE.t rfl) rfl (by assumption);(focus((repeat constructor);done));(focus rfl))|(apply aO rfl (hE.t rfl) rfl;(repeat(first |rfl|assumption|constructor));done))
   ·with_reducible (repeat(first |exact aF|apply aG|apply aH))
   ·kernel_rfl
   ·rfl
   refine gg2 ?_;apply dH 18 O oK O;refine uC (qNl hE a2 oO) O ?_;rintro _ _⟨B1,p9,rfl,h9,rfl⟩;simp only[uV,uW];refine⟨by(first |(apply ent;(repeat constructor);done)|exact iU|exact gG|exact gJ),?_⟩;apply dH 19 O oK O;refine uC (qK (v:=lv) hE (a1.more B1) h9 oO) O ?_;rintro _ _⟨B2,p10,rfl,h10,rfl⟩;simp only[uV,uW];refine⟨by(first |(apply ent;(repeat constructor);done)|exact iU|exact gG|exact gJ),?_⟩;refine gg5 ?_;exact uZ O (.tmp O .nil) (Grows.of2 h10 (by rw[put,if_neg h1,if_pos h2]))
  refine gg3 ?_;refine uH ([ar A]) ?_;refine gg3 ?_;apply bG 3 O
  ·(first |(apply dR rfl (hE.t rfl) rfl (by assumption);(focus((repeat constructor);done));(focus rfl))|(apply aO rfl (hE.t rfl) rfl;(repeat(first |rfl|assumption|constructor));done))
  ·with_reducible (repeat(first |exact aF|apply aG|apply aH))
  ·kernel_rfl
  ·rfl
  refine gg5 ?_;apply bG 9 O
  ·(first |(apply dR rfl (hE.t rfl) rfl (by assumption);(focus((repeat constructor);done));(focus rfl))|(apply aO rfl (hE.t rfl) rfl;(repeat(first |rfl|assumption|constructor));done))
  ·with_reducible (repeat(first |exact aF|apply aG|apply aH))
  ·kernel_rfl
  ·rfl
  apply dH 10 O oK O;refine uC (jA (v:=v) hE a1 a2 oO) O ?_;rintro _ _⟨B1,p9,rfl,h9,rfl⟩;simp only[uV,uW];refine⟨by(first |(apply ent;(repeat constructor);done)|exact iU|exact gG|exact gJ),?_⟩;refine gg4 ?_;exact uZ O (.tmp O .nil) (Grows.of h9 (by rw[put,if_neg h1,if_neg h2]))
def qUz (hE:Seat E){A:Ar}{t:Tre}{k:Ky}{v:Nat}{p:Option Nat}(h:At A t p)(hs:sz t≤100000):
  Ct E 48 [.agg #[pv p],.string ⟨⟨k⟩⟩,.int .i64 (v:Nat)] [ar A] (fun u Q=>∃B q,u= .agg #[pv q]∧At (A++B) (put t k v) q∧Q=[ar (A++B)]):=by
 refine bO (hE.fn Tryz.func48) O O O (fun R=>?_);simp only[dX,uV,uW];refine gg2 ?_;refine uU ?_;refine gW O (fun b3=>?_);refine uU (cZ (hE.t O) (fun b6=>?_));refine gg5 ?_;apply aA
 ·(first |(apply dR rfl (hE.t rfl) rfl (by assumption);(focus((repeat constructor);done));(focus rfl))|(apply aO rfl (hE.t rfl) rfl;(repeat(first |rfl|assumption|constructor));done))
 ·rfl
 refine gg2 ?_;refine uX (qNl hE h hs) O ?_;rintro _ _⟨B1,p9,rfl,h9,rfl⟩;simp only[uV,uW];refine gg5 ?_;apply cB
 ·rfl
 ·((apply Rs.cell rfl (hE.t rfl) rfl;(focus((repeat(first |rfl|assumption|constructor));done)));exact Rs.nil)
 ·exact⟨B1,p9,O,h9,O⟩
 exact uI
end
section
open Go Go.RowKit Sl Eg Pm
variable {E:Env}
def At.some {A:Ar}{t:Tre}{b:Nat}(h:At A t (some b)):t≠ .nil:=fun e=>by
 subst e;cases(show Option.some b= .none from h)
def At.isn {A:Ar}{t:Tre}{p:Option Nat}(h:At A t p)(hn:t≠ .nil):∃b,p= .some b:=by
 cases p with
 |none=>exact absurd h.none hn
 |some b=>exact⟨b,rfl⟩
def qUw (hE:Seat E):∀{t:Tre}{A:Ar}{b:Nat},At A t (some b)→sz t≤100000→
  Ct E 157 [uPt b] [ar A] (fun u Q=>∃(B:Ar)(c:Nat)(q p1 p2:Option Nat)(h s:Nat),u= .tuple #[uPt c,pv q]∧(c,nV (cut t).1.1 (cut t).1.2 p1 p2 h s)∈A∧At (A++B) (cut t).2 q∧Q=[ar (A++B)])
 | .nil,A,b,h,hs=>absurd rfl h.some
 | .nd .nil k v r,A,b,h,hs=>by
  obtain⟨b',pl,pr,e,hm,a1,a2⟩:=h;obtain rfl:=lm e;obtain rfl:pl=none:=a1;have hq:=vS (w0:=E.w0) hm;refine bO (hE.fn Tryz.func157) O O O (fun R=>?_);simp only[dX,uV,uW];refine gg12 ?_;apply aA
  ·(first |(apply dR rfl (hE.t rfl) rfl (by assumption);(focus((repeat constructor);done));(focus rfl))|(apply aO rfl (hE.t rfl) rfl;(repeat(first |rfl|assumption|constructor));done))
  ·rfl
  refine gg10 ?_;apply aA
  ·(first |(apply dR rfl (hE.t rfl) rfl (by assumption);(focus((repeat constructor);done));(focus rfl))|(apply aO rfl (hE.t rfl) rfl;(repeat(first |rfl|assumption|constructor));done))
  ·rfl
  refine gg6 ?_;apply cB
  ·rfl
  ·(apply Rs.tmp rfl;apply Rs.tmp rfl;exact Rs.nil)
  ·refine⟨[],b,pr,none,pr,_,_,O,hm,?_,O⟩;rw[aj];exact a2
  rw[aj];exact uI
 | .nd (.nd x y z w) k v r,A,b,h,hs=>by
  obtain⟨b',pl,pr,e,hm,a1,a2⟩:=h;obtain rfl:=lm e;obtain⟨bl,hbl⟩:=a1.isn (by intro h;cases h);subst hbl;have hq:=vS (w0:=E.w0) hm;have hzc:=qYt (t:= .nd x y z w) (by intro h;cases h);rw[sz]at hs;have hcm:=qPu (l:= .nd x y z w) (r:=r) (k:=k) (v:=v) (by intro h;cases h);refine bO (hE.fn Tryz.func157) O O O (fun R=>?_);simp only[dX,uV,uW];refine gg12 ?_;apply aA
  ·(first |(apply dR rfl (hE.t rfl) rfl (by assumption);(focus((repeat constructor);done));(focus rfl))|(apply aO rfl (hE.t rfl) rfl;(repeat(first |rfl|assumption|constructor));done))
  ·rfl
  refine gg11 ?_;apply aA
  ·(first |(apply dR rfl (hE.t rfl) rfl (by assumption);(focus((repeat constructor);done));(focus rfl))|(apply aO rfl (hE.t rfl) rfl;(repeat(first |rfl|assumption|constructor));done))
  ·rfl
  refine uX (qUw hE a1 oO) O ?_;rintro _ _⟨B1,c,q,p1,p2,h',s,rfl,hc,h9,rfl⟩;simp only[uV,uW];refine gg7 ?_;have hq2:=vS (w0:=E.w0) (fu B1 hm);refine gg1 ?_;refine uH ([ar (A++B1)]) ?_;refine gg5 ?_;apply bG 5 O
  ·(first |(apply dR rfl (hE.t rfl) rfl (by assumption);(focus((repeat constructor);done));(focus rfl))|(apply aO rfl (hE.t rfl) rfl;(repeat(first |rfl|assumption|constructor));done))
  ·with_reducible (repeat(first |exact aF|apply aG|apply aH))
  ·kernel_rfl
  ·rfl
  refine gg3 ?_;apply bG 9 O
  ·(first |(apply dR rfl (hE.t rfl) rfl (by assumption);(focus((repeat constructor);done));(focus rfl))|(apply aO rfl (hE.t rfl) rfl;(repeat(first |rfl|assumption|constructor));done))
  ·with_reducible (repeat(first |exact aF|apply aG|apply aH))
  ·kernel_rfl
  ·rfl
  refine gg3 ?_;apply bG 13 O
  ·(first |(apply dR rfl (hE.t rfl) rfl (by assumption);(focus((repeat constructor);done));(focus rfl))|(apply aO rfl (hE.t rfl) rfl;(repeat(first |rfl|assumption|constructor));done))
  ·with_reducible (repeat(first |exact aF|apply aG|apply aH))
  ·kernel_rfl
  ·rfl
  apply dH 14 O oK O;refine uC (qK (v:=v) hE h9 (a2.more B1) oO) O ?_;rintro _ _⟨B2,p10,rfl,h10,rfl⟩;simp only[uV,uW];refine⟨by(first |(apply ent;(repeat constructor);done)|exact iU|exact gG|exact gJ),?_⟩;refine gg5 ?_;apply cB
  ·rfl
  ·(apply Rs.tmp rfl;apply Rs.tmp rfl;exact Rs.nil)
  ·refine⟨B1++B2,c,p10,p1,p2,h',s,O,?_,?_,?_⟩
   ·rw[hcm];exact hc
   ·rw[hcm,←ah];exact h10
   rw[←ah]
  exact uI
def Grows.refl {A:Ar}{t:Tre}{p:Option Nat}(h:At A t p):Grows A t (pv p) [ar A]:=by
 have:=Grows.of (B:=[]) (t':=t) (by rw[aj];exact h) rfl;rwa [aj]at this
def qHe (hE:Seat E){k:Ky}:∀{t:Tre}{A:Ar}{p:Option Nat},At A t p→sz t≤100000→
  Ct E 120 [pv p,.string ⟨⟨k⟩⟩] [ar A] (Grows A (drop t k))
 | .nil,A,p,h,hs=>by
  obtain rfl:p=none:=h;show Ct E 120 [.pointer none,.string ⟨⟨k⟩⟩] [ar A] _;refine bO (hE.fn Tryz.func120) O O O (fun R=>?_);simp only[dX,uV,uW];refine gg20 ?_;exact uZ O (.tmp O .nil) (Grows.refl (t:= .nil) (p:=none) O)
 | .nd l lk lv r,A,p,h,hs=>by
  obtain⟨b,pl,pr,rfl,hm,a1,a2⟩:=h;have hq:=vS (w0:=E.w0) hm;simp only[sz]at hs;show Ct E 120 [uPt b,.string ⟨⟨k⟩⟩] [ar A] _;have hz1:=qJe k l;have hz2:=qJe k r;refine bO (hE.fn Tryz.func120) O O O (fun R=>?_);simp only[dX,uV,uW];refine gg22 ?_;apply aA
  ·(first |(apply dR rfl (hE.t rfl) rfl (by assumption);(focus((repeat constructor);done));(focus rfl))|(apply aO rfl (hE.t rfl) rfl;(repeat(first |rfl|assumption|constructor));done))
  ·rfl
  refine uB (vR O O) ?_;refine gg2 ?_;refine w_eq 14 (.bool (decide (cmpT k lk<0))) O (bf Value.bool (iV k lk)) ?_;refine bE O (fun h1=>?_) (fun h1=>?_)
  ·skip
   refine gg1 ?_;refine uH ([ar A]) ?_;refine gg3 ?_;apply bG 3 O
   ·(first |(apply dR rfl (hE.t rfl) rfl (by assumption);(focus((repeat constructor);done));(focus rfl))|(apply aO rfl (hE.t rfl) rfl;(repeat(first |rfl|assumption|constructor));done))
   ·with_reducible (repeat(first |exact aF|apply aG|apply aH))
   ·kernel_rfl
   ·rfl
   refine gg1 ?_;refine uD 6 O (aB O) ?_;refine gg2 ?_;apply bG 9 O
   ·(first |(apply dR rfl (hE.t rfl) rfl (by assumption);(focus((repeat constructor);done));(focus rfl))|(apply aO rfl (hE.t rfl) rfl;(repeat(first |rfl|assumption|constructor));done))
   ·with_reducible (repeat(first |exact aF|apply aG|apply aH))
   ·kernel_rfl
   ·rfl
   refine gg3 ?_;apply bG 13 O
   ·(first |(apply dR rfl (hE.t rfl) rfl (by assumption);(focus((repeat constructor);done));(focus rfl))|(apply aO rfl (hE.t rfl) rfl;(repeat(first |rfl|assumption|constructor));done))
   ·with_reducible (repeat(first |exact aF|apply aG|apply aH))
   ·kernel_rfl
   ·rfl
   refine gg3 ?_;apply bG 17 O
   ·(first |(apply dR rfl (hE.t rfl) rfl (by assumption);(focus((repeat constructor);done));(focus rfl))|(apply aO rfl (hE.t rfl) rfl;(repeat(first |rfl|assumption|constructor));done))
   ·with_reducible (repeat(first |exact aF|apply aG|apply aH))
   ·kernel_rfl
   ·rfl
   apply dH 5 O oK O;refine uC (qHe hE a1 oO) O ?_;rintro _ _⟨B1,p9,rfl,h9,rfl⟩;simp only[uV,uW];refine⟨by(first |(apply ent;(repeat constructor);done)|exact iU|exact gG|exact gJ),?_⟩;apply dH 18 O oK O;refine uC (qK (v:=lv) hE h9 (a2.more B1) oO) O ?_;rintro _ _⟨B2,p10,rfl,h10,rfl⟩;simp only[uV,uW];refine⟨by(first |(apply ent;(repeat constructor);done)|exact iU|exact gG|exact gJ),?_⟩;refine gg5 ?_;exact uZ O (.tmp O .nil) (Grows.of2 h10 (by simp only[drop,if_pos h1]))
  refine gg8 ?_;apply aA
  ·(first |(apply dR rfl (hE.t rfl) rfl (by assumption);(focus((repeat constructor);done));(focus rfl))|(apply aO rfl (hE.t rfl) rfl;(repeat(first |rfl|assumption|constructor));done))
  ·rfl
  refine gg1 ?_;refine uB (vR O O) ?_;refine gg2 ?_;refine w_eq 39 (.bool (decide (cmpT lk k<0))) O (bf Value.bool (iV lk k)) ?_;refine bE O (fun h2=>?_) (fun h2=>?_)
  ·skip
   refine gg1 ?_;refine uH ([ar A]) ?_;refine gg3 ?_;apply bG 3 O
   ·(first |(apply dR rfl (hE.t rfl) rfl (by assumption);(focus((repeat constructor);done));(focus rfl))|(apply aO rfl (hE.t rfl) rfl;(repeat(first |rfl|assumption|constructor));done))
   ·with_reducible (repeat(first |exact aF|apply aG|apply aH))
   ·kernel_rfl
   ·rfl
   refine gg3 ?_;apply bG 7 O
   ·(first |(apply dR rfl (hE.t rfl) rfl (by assumption);(focus((repeat constructor);done));(focus rfl))|(apply aO rfl (hE.t rfl) rfl;(repeat(first |rfl|assumption|constructor));done))
   ·with_reducible (repeat(first |exact aF|apply aG|apply aH))
   ·kernel_rfl
   ·rfl
   refine gg3 ?_;apply bG 11 O
   ·(first |(apply dR rfl (hE.t rfl) rfl (by assumption);(focus((repeat constructor);done));(focus rfl))|(apply aO rfl (hE.t rfl) rfl;(repeat(first |rfl|assumption|constructor));done))
   ·with_reducible (repeat(first |exact aF|apply aG|apply aH))
   ·kernel_rfl
   ·rfl
   refine gg3 ?_;apply bG 15 O
   ·(first |(apply dR rfl (hE.t rfl) rfl (by assumption);(focus((repeat constructor);done));(focus rfl))|(apply aO rfl (hE.t rfl) rfl;(repeat(first |rfl|assumption|constructor));done))
   ·with_reducible (repeat(first |exact aF|apply aG|apply aH))
   ·kernel_rfl
   ·rfl
   refine gg1 ?_;apply dH 17 O oK O;refine uC (qHe hE a2 oO) O ?_;rintro _ _⟨B1,p9,rfl,h9,rfl⟩;simp only[uV,uW];refine⟨by(first |(apply ent;(repeat constructor);done)|exact iU|exact gG|exact gJ),?_⟩;apply dH 18 O oK O;refine uC (qK (v:=lv) hE (a1.more B1) h9 oO) O ?_;rintro _ _⟨B2,p10,rfl,h10,rfl⟩;simp only[uV,uW];refine⟨by(first |(apply ent;(repeat constructor);done)|exact iU|exact gG|exact gJ),?_⟩;refine gg5 ?_;exact uZ O (.tmp O .nil) (Grows.of2 h10 (by simp only[drop,if_neg h1,if_pos h2]))
  cases pr with
  |none=>
   obtain rfl:=a2.none
   have hqn:∀k,ar A k→RdAt E.w0 b 0 (nV lk lv pl none (hg (.nd l lk lv .nil)) (sz (.nd l lk lv .nil))) k:=hq
   refine gg8 ?_
   apply aA
   ·(first |(apply dR rfl (hE.t rfl) rfl (by assumption);(focus((repeat constructor);done));(focus rfl))|(apply aO rfl (hE.t rfl) rfl;(repeat(first |rfl|assumption|constructor));done))
   ·rfl
   refine gg9 ?_
   apply aA
   ·(first |(apply dR rfl (hE.t rfl) rfl (by assumption);(focus((repeat constructor);done));(focus rfl))|(apply aO rfl (hE.t rfl) rfl;(repeat(first |rfl|assumption|constructor));done))
   ·rfl
   refine gg5 ?_
   apply cB
   ·rfl
   ·(apply Rs.tmp rfl;exact Rs.nil)
   ·have:=Grows.refl a1
    simp only[drop,if_neg h1,if_neg h2]
    exact this
   exact uI
  |some br=>
   have hrn:=a2.some
   have hzc:=qYt hrn
   refine gg8 ?_
   apply aA
   ·(first |(apply dR rfl (hE.t rfl) rfl (by assumption);(focus((repeat constructor);done));(focus rfl))|(apply aO rfl (hE.t rfl) rfl;(repeat(first |rfl|assumption|constructor));done))
   ·rfl
   refine gg11 ?_
   apply aA
   ·(first |(apply dR rfl (hE.t rfl) rfl (by assumption);(focus((repeat constructor);done));(focus rfl))|(apply aO rfl (hE.t rfl) rfl;(repeat(first |rfl|assumption|constructor));done))
   ·rfl
   refine uX (qUw hE a2 oO) O ?_
   rintro _ _⟨B1,c,q,p1,p2,h',s,rfl,hc,h9,rfl⟩
   simp only[uV,uW]
   refine gg7 ?_
   have hq2:=vS (w0:=E.w0) (fu B1 hm)
   have hq3:=vS (w0:=E.w0) (fu B1 hc)
   refine gg1 ?_
   refine uH ([ar (A++B1)]) ?_
   refine gg3 ?_
   apply bG 3 O
   ·(first |(apply dR rfl (hE.t rfl) rfl (by assumption);(focus((repeat constructor);done));(focus rfl))|(apply aO rfl (hE.t rfl) rfl;(repeat(first |rfl|assumption|constructor));done))
   ·with_reducible (repeat(first |exact aF|apply aG|apply aH))
   ·kernel_rfl
   ·rfl
   refine gg3 ?_
   apply bG 7 O
   ·(first |(apply dR rfl (hE.t rfl) rfl (by assumption);(focus((repeat constructor);done));(focus rfl))|(apply aO rfl (hE.t rfl) rfl;(repeat(first |rfl|assumption|constructor));done))
   ·with_reducible (repeat(first |exact aF|apply aG|apply aH))
   ·kernel_rfl
   ·rfl
   refine gg3 ?_
   apply bG 11 O
   ·(first |(apply dR rfl (hE.t rfl) rfl (by assumption);(focus((repeat constructor);done));(focus rfl))|(apply aO rfl (hE.t rfl) rfl;(repeat(first |rfl|assumption|constructor));done))
   ·with_reducible (repeat(first |exact aF|apply aG|apply aH))
   ·kernel_rfl
   ·rfl
   refine gg1 ?_
   apply dH 13 O oK O
   refine uC (qK (v:=(cut r).1.2) hE (a1.more B1) h9 oO) O ?_
   rintro _ _⟨B2,p10,rfl,h10,rfl⟩
   simp only[uV,uW]
   refine⟨by(first |(apply ent;(repeat constructor);done)|exact iU|exact gG|exact gJ),?_⟩
   refine gg4 ?_
   exact uZ O (.tmp O .nil) (Grows.of2 h10 (qCd h1 h2 hrn))
def ct_pDrop (hE:Seat E){A:Ar}{t:Tre}{k:Ky}{p:Option Nat}(h:At A t p)(hs:sz t≤100000)(hn:fnd t k=none→drop t k=t):
  Ct E 94 [.agg #[pv p],.string ⟨⟨k⟩⟩] [ar A] (fun u Q=>∃B q,u= .agg #[pv q]∧At (A++B) (drop t k) q∧Q=[ar (A++B)]):=by
 refine bO (hE.fn Tryz.func94) O O O (fun R=>?_);simp only[dX,uV,uW];refine gg2 ?_;refine uU ?_;refine gW O (fun b2=>?_);refine uU (cZ (hE.t O) (fun b4=>?_));refine gg6 ?_;apply aA
 ·(first |(apply dR rfl (hE.t rfl) rfl (by assumption);(focus((repeat constructor);done));(focus rfl))|(apply aO rfl (hE.t rfl) rfl;(repeat(first |rfl|assumption|constructor));done))
 ·rfl
 refine gg1 ?_;refine uX (qPo (k:=k) hE h) O ?_;rintro _ _⟨q,rfl,hf,rfl⟩;rcases hf with⟨hf,rfl⟩|⟨w,b,pl,pr,h',s,hf,rfl,hm⟩
 ·simp only[uV,uW];refine l_eq 8 (.pointer none) O O ?_;refine gg6 ?_;apply aA
  ·(first |(apply bV rfl (hE.t rfl) rfl;(repeat(first |rfl|assumption|constructor));done)|(apply y_load_agg_old rfl (hE.t rfl) rfl;assumption))
  ·rfl
  refine gg5 ?_;apply cB
  ·rfl
  ·((apply Rs.cell rfl (hE.t rfl) rfl;(focus((repeat(first |rfl|assumption|constructor));done)));exact Rs.nil)
  ·exact⟨[],p,O,by rw[aj,hn hf];exact h,rfl⟩
  rw[aj];exact uI
 simp only[uV,uW];refine l_eq 8 (uPt b) O O ?_;refine gg9 ?_;apply aA
 ·(first |(apply dR rfl (hE.t rfl) rfl (by assumption);(focus((repeat constructor);done));(focus rfl))|(apply aO rfl (hE.t rfl) rfl;(repeat(first |rfl|assumption|constructor));done))
 ·rfl
 refine gg1 ?_;refine uX (qHe hE h hs) O ?_;rintro _ _⟨B1,p9,rfl,h9,rfl⟩;simp only[uV,uW];refine gg5 ?_;apply cB
 ·rfl
 ·((apply Rs.cell rfl (hE.t rfl) rfl;(focus((repeat(first |rfl|assumption|constructor));done)));exact Rs.nil)
 ·exact⟨B1,p9,O,h9,O⟩
 exact uI
end
