import Derived.Test.YtejcjelmpbkcbaaGreatDoorQ84
set_option linter.all false
set_option maxHeartbeats 1000000
namespace Go.Proofs.YtejcjelmpbkcbaaGreatDoor
open Go Go.RowKit Sl Eg
set_option maxRecDepth 10000
section
variable {E:Env}{Es:List Ent}{s most:Nat}
structure RpG where
 M:List Ent
 id:Nat
 k:Nat
 r:Nat
 tr:List UInt8
 ti:List UInt8
structure RhfG where
 M:List Ent
 r:Nat
 tr:List UInt8
def qFk (hE:Seat E){a k:Nat}{t:List UInt8}(ha:Be (rls Es) a t)(hk:1≤k)(hk2:k≤100000)(hl:k*t.length≤400)(hroom:Es.length+146*k≤most):
  Ct E 136 [uPt s,.int .i64 (a:Nat),.int .i64 (k:Nat)] [bR s most Es] (BeP s most Es (Eg.rep k t) (146*k)):=by
 refine bO (hE.fn Tryz.func136) O O O (fun R=>?_);simp only[dX,uV,uW];refine gg12 ?_
 refine eQ (fun q:RpG=>[(0,uPt s),(1,.int .i64 (q.id:Nat)),(2,.int .i64 (q.k:Nat)),(8,.int .i64 (q.r:Nat))]) (fun q=>[bR s most (Es++q.M),R]) (fun q=>q.k)
  (fun q=>Be (rls (Es++q.M)) q.id q.ti∧Be (rls (Es++q.M)) q.r q.tr∧1≤q.k∧q.k≤100000∧q.tr.length+q.k*q.ti.length≤400∧q.tr++Eg.rep q.k q.ti=Eg.rep k t∧q.M.length+146*q.k≤146*k) ⟨[],a,k,0,[],t⟩ ⟨by rw[aj];exact ha,Be.zero _,hk,hk2,by simp only[di];omega,rfl,by simp⟩ ⟨rfl,rfl,rfl,rfl,trivial⟩ ?_ ?_
 ·rw[aj];exact uI
 rintro⟨M,id,q,r,tr,ti⟩⟨hid,hr,hq1,hq2,hlen,hgoal,hM⟩;simp only at hid hr hq1 hq2 hlen hgoal hM ⊢;have hEM:(Es++M).length=Es.length+M.length:=aa;refine gg6 ?_;refine nM (fun x:RhfG=>[(0,uPt s),(1,.int .i64 (id:Nat)),(2,.int .i64 (q:Nat)),(8,.int .i64 (x.r:Nat))]) (fun x=>[bR s most (Es++x.M),R]) (fun x=>Be (rls (Es++x.M)) id ti∧Be (rls (Es++x.M)) x.r x.tr∧x.tr.length+(q/2)*(ti.length+ti.length)≤400∧x.tr++Eg.rep (q/2) (ti++ti)=Eg.rep k t∧x.M.length+146*q≤146*k+73) ?_ ?_
 ·refine gg7 ?_;refine bE O (fun h1=>?_) (fun h1=>?_)
  ·obtain⟨h,rfl⟩:∃h,q=2*h+1:=⟨q/2,oO⟩;have e1:(2*h+1)*ti.length=h*(ti.length+ti.length)+ti.length:=by rw[ou,zo,qf 2 h,tu,Nat.two_mul]
   have e2:(2*h+1)/2=h:=oO;have hl2:tr.length+ti.length≤400:=oO;refine gg5 ?_;refine uX (nW (most:=most) (Es:=Es++M) hE hr hid hl2 oO) O ?_;rintro _ _⟨M2,id2,rfl,hM2,hb2,rfl⟩;simp only[uV,uW];have hid2:=hid.more M2;rw[ah Es]at hb2 hid2 ⊢;refine gg15 ?_;refine fZ (⟨M++M2,id2,tr++ti⟩:RhfG) ⟨hid2,hb2,by simp only[aa];rw[e2];omega,(Eg.rep_odd tr ti oO).trans hgoal,by simp only[aa];omega⟩ ⟨rfl,rfl,rfl,rfl,trivial⟩ uI
  obtain⟨h,rfl⟩:∃h,q=2*h:=⟨q/2,oO⟩;have e1:2*h*ti.length=h*(ti.length+ti.length):=by rw[qf 2 h,tu,Nat.two_mul]
  have e2:2*h/2=h:=oO;refine gg1 ?_;refine fZ (⟨M,r,tr⟩:RhfG) ⟨hid,hr,by simp only;rw[e2];omega,(Eg.rep_even tr ti oO).trans hgoal,by simp only;omega⟩ ⟨rfl,rfl,rfl,rfl,trivial⟩ uI
 rintro⟨M1,r1,tr1⟩⟨k1,k2,k3,k4,k5⟩;simp only at k1 k2 k3 k4 k5 ⊢;have hEM1:(Es++M1).length=Es.length+M1.length:=aa;refine gg5 ?_;refine l_eq 24 (.int .i64 ((q/2:Nat):Int)) O (bW oO) ?_;refine gg9 ?_;refine bE O (fun h2=>?_) (fun h2=>?_)
 ·have hz:q/2=0:=oO;rw[hz]at k4;refine gg12 ?_;exact uZ O (.tmp O (.tmp O .nil)) ⟨M1,r1,O,oO,by rw[←k4];show Be _ _ (tr1++[]);rw[aj];exact k2,rfl⟩
 have hq0:0<q/2:=oO;have hmul:=uy (ti.length+ti.length) hq0;refine gg7 ?_;refine uX (nW (most:=most) (Es:=Es++M1) hE k1 k1 oO oO) O ?_;rintro _ _⟨M2,id2,rfl,hM2,hb2,rfl⟩;simp only[uV,uW];have k2':=k2.more M2;rw[ah Es]at hb2 k2' ⊢;refine gg16 ?_;refine bS (ι:=RpG) (j:=⟨M1++M2,id2,q/2,r1,tr1,ti++ti⟩) ⟨hb2,k2',hq0,by simp only;omega,by simp only[aa];exact k3,k4,by simp only[aa];omega⟩ (by simp only;omega) ⟨rfl,rfl,rfl,rfl,trivial⟩ uI
def qRx (hE:Seat E){a k:Nat}{t:List UInt8}(ha:Be (rls Es) a t)(hk2:k≤100000)(hl:k*t.length≤400)(hl1:t.length≤400)(hroom:Es.length+146*k≤most):
  Ct E 109 [uPt s,.int .i64 (a:Nat),.int .i64 (k:Nat)] [bR s most Es] (BeP s most Es (Eg.rep k t) (146*k)):=by
 have ea:=ha.ev.ev;have hla:=ha.len;refine bO (hE.fn Tryz.func109) O O O (fun R=>?_);simp only[dX,uV,uW];refine gg10 ?_;refine uX (mH hE ha.le) O ?_;rintro _ _⟨rfl,rfl⟩;simp only[uV,uW];rw[ea];refine gg34 ?_;refine bE O (fun h0=>?_) (fun h0=>?_)
 ·exfalso;omega
 refine gg6 ?_;refine uX (sI hE ha.le) O ?_;rintro _ _⟨rfl,rfl⟩;simp only[uV,uW];refine gg3 ?_;refine uU (cZ (hE.t O) (fun b10=>?_));refine gg20 ?_;have hlm:(txt (rls Es) a).length*k≤1000000000:=by rw[hla,qf];omega
 refine uX (ct_lnMul (a:=(txt (rls Es) a).length) (k:=k) hE hlm oO oO) O ?_;rintro _ _⟨rfl,rfl⟩;simp only[uV,uW];refine gg22 ?_;refine eF 49 O (fun h1=>?_) (fun h1=>?_)
 ·obtain rfl:k=0:=by omega
  refine gg14 ?_;apply cB
  ·rfl
  ·(apply Rs.tmp rfl;apply Rs.tmp rfl;exact Rs.nil)
  ·exact⟨[],0,O,au _,Be.zero _,O⟩
  rw[aj];exact uI
 refine gg7 ?_;refine bE O (fun h2=>?_) (fun h2=>?_)
 ·obtain rfl:a=0:=by omega
  have ht:=ha.tx;rw[kN]at ht;subst ht;refine gg8 ?_;apply cB
  ·rfl
  ·(apply Rs.tmp rfl;apply Rs.tmp rfl;exact Rs.nil)
  ·refine⟨[],0,O,au _,?_,O⟩;have:Eg.rep k ([]:List UInt8)=[]:=dh (by rw[Eg.rep_length];simp);rw[this];exact Be.zero _
  rw[aj];exact uI
 refine gg7 ?_;refine uX (qFk (most:=most) hE ha oO hk2 hl hroom) O ?_;rintro _ _⟨M,id,rfl,hM,hb,rfl⟩;simp only[uV,uW];refine gg7 ?_;exact uZ O (.tmp O (.tmp O .nil)) ⟨M,id,O,hM,hb,O⟩
end
section
variable {E:Env}{Es:List Ent}{s most:Nat}
def Dl (n d:Nat):Prop:=n≤2^d∧(d=0∨2^(d-1)<n)
def Dl.join {n k d1 d2:Nat}(h1:Dl k d1)(hk:k=n/2)(hn:2≤n)(h2:Dl (n-k) d2):d1≤d2+1∧d2≤d1+1∧Dl n (1+max d1 d2):=by
 obtain⟨a1,a2⟩:=h1;obtain⟨b1,b2⟩:=h2
 have le:d1≤d2:=by
  refine Classical.byContradiction fun h=>?_
  have p:=oZ (n:=2) oO (show d2≤d1-1 by omega);omega
 have ge:d2≤d1+1:=by
  refine Classical.byContradiction fun h=>?_
  have p:=oZ (n:=2) oO (show d1+1≤d2-1 by omega);have q:2^(d1+1)=2^d1*2:=xn ..;have r:0<2^d1:=Nat.pow_pos oO;omega
 have hm:1+max d1 d2=d2+1:=oO;have q:2^(d2+1)=2^d2*2:=xn ..;rw[hm];refine⟨oO,ge,by rw[q];omega,.inr ?_⟩;rw[dw];rcases jr d2 with rfl| h
 ·show 1<n;omega
 have r:2^(d2-1)<n-k:=b2.resolve_left oO;have e:2^d2=2^(d2-1)*2:=by rw[←xn];congr 1;omega
 omega
def qUm (hE:Seat E):∀(n:Nat){Es:List Ent}{bs:List UInt8}{g o c:Nat}{q:HP},bs.length=n→1≤n→n≤65536→n≤c→(∀k,q k→RdAt E.w0 g o (byC bs) k)→Es.length+2*n≤most→
  Ct E 107 [uPt s,.slice (some ⟨g,o,none⟩) n c] [bR s most Es,q]
   (fun v Q=>∃(M:List Ent)(id d:Nat),v= .tuple #[.int .i64 (id:Nat),.nilIface]∧M.length+1≤2*n∧Bl (rls (Es++M)) id bs d∧Dl n d∧Q=[bR s most (Es++M),q]):=by
 intro n;induction n using Nat.strongRecOn with
 |ind n ih=>
 intro Es bs g o c q hbn hn1 hn2 hnc hq hroom;have hbl:=qNe bs;have hmx:dC=1152921504606846976:=rfl;refine bO (hE.fn Tryz.func107) O O O (fun R=>?_);simp only[dX,uV,uW];refine gg14 ?_;refine bE O (fun h=>?_) (fun h=>?_)
 ·obtain⟨b,rfl⟩:=nz.1 (show bs.length=1 by omega);have f0:(byC [b])[0]?=some (.int .u8 (b.toNat:Nat)):=rfl;have hr1:Es.length<most:=oO;refine gg6 ?_;refine uX (qUv (s:=s) (most:=most) (Es:=Es) hE b hr1) O ?_;rintro _ _⟨M,id,rfl,hM,hid,hrl,rfl⟩;simp only[uV,uW];refine gg8 ?_
  have hbl:Bl (rls (Es++M)) id [b] 0:=by
   obtain⟨i,rfl⟩:∃i,id=i+1:=⟨id-1,oO⟩;rw[dw]at hrl;exact⟨hid,Ev.letter hrl,gN hrl,by rw[dep,qM hrl]⟩
  exact uZ O (.tmp O (.tmp O .nil)) ⟨M,id,0,O,oO,hbl,⟨oO,.inl O⟩,O⟩
 obtain⟨k,hk⟩:∃k,k=n/2:=⟨_,rfl⟩;have hk1:1≤k∧k<n∧n-k<n:=oO;have hl1:(bs.take k).length=k:=by rw[jv];omega
 have hl2:(bs.drop k).length=n-k:=by rw[lw];omega
 have hq1:∀x,q x→RdAt E.w0 g o (byC (bs.take k)) x:=fun x hx i v hv=>by
  have e:byC (bs.take k)=(byC bs).take k:=by simp[byC,qg]
  rw[e,mf]at hv;split at hv
  ·exact hq x hx i v hv
  cases hv
 have hq2:∀x,q x→RdAt E.w0 g (o+k) (byC (bs.drop k)) x:=fun x hx i v hv=>by
  have e:byC (bs.drop k)=(byC bs).drop k:=by simp[byC,qy]
  rw[e,pz]at hv;have:=hq x hx (k+i) v hv;rwa [←oV]at this
 refine gg9 ?_;refine l_eq 24 (.int .i64 (k:Nat)) O (bW oO) ?_;refine uB (fU k O O (hE.t O) O oO) ?_;refine uX (ih k hk1.2.1 (Es:=Es) (bs:=bs.take k) (g:=g) (o:=o) (c:=c) (q:=q) hl1 hk1.1 oO oO hq1 oO) O ?_;rintro _ _⟨M1,i1,d1,rfl,hM1,hb1,hd1,rfl⟩;simp only[uV,uW];refine gg24 ?_;refine l_eq 37 (.int .i64 (k:Nat)) O (bW oO) ?_;refine uB (gD (l:=k) (h:=n) O (hE.t O) ⟨_,O⟩ O oO oO) ?_;refine l_eq 38 (.slice (some ⟨g,o+k,none⟩) (n-k) (c-k)) O (by rw[if_neg oO,qh,Sl.addr_add]) ?_;have hr2:(Es++M1).length+2*(n-k)≤most:=by rw[aa];omega
 refine uX (ih (n-k) hk1.2.2 (Es:=Es++M1) (bs:=bs.drop k) (g:=g) (o:=o+k) (c:=c-k) (q:=q) hl2 oO oO oO hq2 hr2) O ?_;rintro _ _⟨M2,i2,d2,rfl,hM2,hb2,hd2,rfl⟩;simp only[uV,uW];refine gg15 ?_;obtain⟨c1,c2,c3⟩:=hd1.join hk oO hd2;have hb1':=hb1.more M2;have hlen:(bs.take k).length+(bs.drop k).length≤dC:=by rw[hl1,hl2];omega
 have hr3:(Es++M1++M2).length<most:=by rw[aa,aa];omega
 refine gg7 ?_;refine uX (pV (s:=s) (most:=most) (Es:=Es++M1++M2) hE hb1' hb2 c1 c2 hlen hr3) O ?_;rintro _ _⟨M3,id,d,rfl,hM3,hb3,hlo,hhi,rfl⟩;simp only[uV,uW];obtain rfl:d=1+max d1 d2:=by omega
 rw[iw]at hb3;have ea:Es++M1++M2++M3=Es++(M1++(M2++M3)):=by simp only[ah]
 rw[ea]at hb3 ⊢;refine gg7 ?_;exact uZ O (.tmp O (.tmp O .nil)) ⟨M1++(M2++M3),id,_,O,by simp only[aa];omega,hb3,c3,rfl⟩
def qBu (hE:Seat E){bs:List UInt8}{a:Option Addr}{c:Nat}{q:HP}(hq:Rdb E.w0 a (byC bs) q)(hn:bs.length≤65536)(hc:bs.length≤c)(hroom:Es.length+2*bs.length≤most):
  Ct E 78 [uPt s,.slice a bs.length c] [bR s most Es,q]
   (fun v Q=>∃(M:List Ent)(id:Nat),v= .tuple #[.int .i64 (id:Nat),.nilIface]∧M.length≤2*bs.length∧Be (rls (Es++M)) id bs∧Q=[bR s most (Es++M),q]):=by
 refine bO (hE.fn Tryz.func78) O O O (fun R=>?_);simp only[dX,uV,uW];refine gg24 ?_;refine bE O (fun h1=>?_) (fun h1=>?_)
 ·exfalso;omega
 refine gg10 ?_;refine bE O (fun h2=>?_) (fun h2=>?_)
 ·obtain rfl:bs=[]:=dh oO;refine gg8 ?_;apply cB
  ·rfl
  ·(apply Rs.tmp rfl;apply Rs.tmp rfl;exact Rs.nil)
  ·exact⟨[],0,O,au _,Be.zero _,O⟩
  rw[aj];exact uI
 obtain⟨g,o,rfl,hq'⟩:=hq (fun e=>h2 (by have:=qNe bs;rw[e]at this;simp at this;omega));refine gg6 ?_;refine uX (qUm (s:=s) (most:=most) hE bs.length (Es:=Es) (bs:=bs) (g:=g) (o:=o) (c:=c) (q:=q) O oO hn hc hq' hroom) O ?_;rintro _ _⟨M,id,d,rfl,hM,hbl,hd,rfl⟩;simp only[uV,uW];refine gg7 ?_;exact uZ O (.tmp O (.tmp O .nil)) ⟨M,id,O,oO,hbl.be,O⟩
end
section
variable {E:Env}{Es:List Ent}{s most:Nat}
def qUo (hE:Seat E){x:Nat}(hx:x≤Es.length)(hs:Es.length≤1048576):Ct E 98 [uPt s,.int .i64 (x:Nat)] [bR s most Es] (fun v Q=>v= .bool true∧Q=[bR s most Es]):=by
 refine bO (hE.fn Tryz.func98) O O O (fun R=>?_);simp only[dX,uV,uW];refine gg15 ?_;refine uX (qFm hE) O ?_;rintro _ _⟨rfl,rfl⟩;simp only[uV,uW];refine gg7 ?_;exact uZ O (.tmp O .nil) ⟨bf Value.bool (ma oO),O⟩
def qPr (hE:Seat E){b6 b7 bm z c:Nat}{p:Option Addr}{S:List Nat}(hz:1≤z)(hS:S.length≤1048576):
  Ct E 103 [.int .i64 (z:Nat),uPt b7,uPt b6] [cells b7 [.map (some bm)] 210,cells b6 [.slice p S.length c] 26,mapF bm .i64 (yF (0::S)),sl p c 56 1 S.length (idC S)]
   (fun v Q=>v= .tuple #[]∧∃p' c',Q=[cells b7 [.map (some bm)] 210,cells b6 [.slice p' (if z∈S then S else S++[z]).length c'] 26,mapF bm .i64 (yF (0::(if z∈S then S else S++[z]))),sl p' c' 56 1 (if z∈S then S else S++[z]).length (idC (if z∈S then S else S++[z]))]):=by
 have hm1:E.P.underlying 210=some (.map 56 4):=by rw[hE.P];kernel_rfl
 have hm2:E.P.underlying 56=some (.int .i64):=by rw[hE.P];kernel_rfl
 have hm3:∀w,(zeroValue 4).run E.P w= .ok (.bool false) w:=fun w=>by rw[hE.P];kernel_rfl
 refine bO (hE.fn Tryz.func103) O O O (fun R=>?_);simp only[dX,uV,uW];refine gg4 ?_;by_cases hin:z∈S
 ·rw[if_pos hin];refine uB (nH hm1 hm2 hm3 O O uK (seenF_in (og _ hin))) ?_;refine gg5 ?_;exact uZe O .nil ⟨O,p,c,O⟩
 rw[if_neg hin]
 have hout:z∉0::S:=fun h=>by
  rcases iq.1 h with h| h
  ·omega
  exact hin h
 refine uB (nH hm1 hm2 hm3 O O uK (qYm hout)) ?_;refine gg8 ?_;refine uU ?_;apply qQ (kt:=56) (et:=4) (by rw[hE.P];kernel_rfl) (by rw[hE.P];kernel_rfl) O O O
 ·exact uK
 refine gg2 ?_;rw[qMf];refine gg3 ?_;refine uU ?_;refine aU (hE.t O) (hE.t O) O O O (fun b12=>?_);refine uU ?_;apply bU (hE.t O) (hE.t O) O O O
 ·exact uK
 ·exact uK
 ·rfl
 ·rfl
 ·omega
 ·omega
 ·(unfold maxLen;omega)
 intro g13 c13 n13 x13 hn13 hx13;refine gg2 ?_;obtain rfl:n13=(S++[z]).length:=by rw[aa,az];omega
 obtain rfl:x13=idC (S++[z]):=by rw[hx13,lI];rfl
 exact uZe O .nil ⟨O,some ⟨g13,0,none⟩,c13,O⟩
def seen0:setF (fun _:Int=>(none:Option Value)) 0 (.bool true)=yF (0::[]):=by
 have h:(fun _:Int=>(none:Option Value))=yF []:=by funext x;simp[yF]
 rw[h];exact qMf [] 0
structure RhG where
 i:Nat
 j:Nat
 S:List Nat
 p:Option Addr
 c:Nat
def ct_Reach (hE:Seat E){id g:Nat}(h1:1≤id)(h2:id≤Es.length)(hn:Es.length<65536):
  Ct E 73 [uPt s,.slice (some ⟨g,0,none⟩) 1 1] [bR s most Es,cells g [.int .i64 (id:Nat)] 56]
   (fun v Q=>∃p c V,v= .tuple #[.slice (some ⟨p,0,none⟩) V.length c,.nilIface]∧V.Nodup∧V.Pairwise (· ≤ ·)∧(∀x,x∈V↔Rea (rls Es) id x)∧Q=[bR s most Es,sl (some ⟨p,0,none⟩) c 56 1 V.length (idC V)]):=by
 refine eU (p:=bR s most Es) uK (fun _ h=>dS h) (fun hsay=>?_);have hw:=hsay.1;have hLl:=bQ Es;have hgo:goFn E.P 103=true:=hE.f oK;refine bO (hE.fn Tryz.func73) O O O (fun R=>?_);simp only[dX,uV,uW];refine gg18 ?_;refine uU (cZ (hE.t O) (fun b6=>?_));refine gg4 ?_;refine uU ?_;refine qDa .i64 (fun b19=>?_);refine uU ?_;apply qLh (kt:=56) (et:=4) (by rw[hE.P];kernel_rfl) (by rw[hE.P];kernel_rfl) O O O
 ·exact uK
 refine gg1 ?_;refine uU (cZ (hE.t O) (fun b7=>?_));refine gg18 ?_;rw[seen0];have f0:[Value.int .i64 (id:Nat)][0]?=some (.int .i64 (id:Nat)):=rfl;refine yL 2 ?_;refine gg24 ?_;refine uX (qUo (x:=id) hE h2 oO) O ?_;rintro _ _⟨rfl,rfl⟩;simp only[uV,uW];refine gg9 ?_;refine qAh (gU (t:=56) (sz:=1)) ?_;refine uU ?_;apply qHw (hx:=O) (ha:=O) (hf:=hgo)
 ·exact qPr (b6:=b6) (b7:=b7) (bm:=b19) (z:=id) (p:=none) (c:=0) (S:=[]) hE h1 (au _)
 ·exact uK
 rintro _ _⟨rfl,p0,c0,rfl⟩;rw[if_neg (vw),jq];simp only[uV,uW];refine gg28 ?_;refine eQ (fun x:RhG=>[(0,uPt s),(6,uPt b6),(8,.func (.func 103) #[] ⟨[uPt b7,uPt b6]⟩),(11,.int .i64 (x.i:Nat))]) (fun x=>[bR s most Es,cells b7 [.map (some b19)] 210,cells b6 [.slice x.p x.S.length x.c] 26,mapF b19 .i64 (yF (0::x.S)),sl x.p x.c 56 1 x.S.length (idC x.S),R]) (fun x=>Es.length-x.i) (fun x=>RchI (rls Es) id x.i x.S) ⟨0,0,[id],p0,c0⟩ (RchI.start h1 oO) ⟨O,O,O,O,trivial⟩ uI ?_;rintro⟨i,_,S,p,c⟩hI;simp only at hI ⊢;have hSl:=hI.len;have hib:=hI.ib;refine gg9 ?_;refine bE O (fun e2=>?_) (fun e2=>?_)
 ·have hil:i<S.length:=oO;obtain⟨x,hx⟩:∃x,S[i]?=some x:=⟨_,ag hil⟩;have hxb:=(hI.rch x (ay hx)).le;obtain⟨n,rfl⟩:∃n,x=n+1:=⟨x-1,oO⟩;obtain⟨y,hy⟩:∃y,Es[n]?=some y:=⟨_,ag oO⟩;have hyr:(rls Es)[n+1-1]?=some y.r:=by rw[dw];exact wL hy
  have hkn:(kids y.r).length≤2:=by cases y.r<;>simp[kids]
  refine jG (p:=sl p c 56 1 S.length (idC S)) uK (fun _ h=>fA h oO) ?_;rintro⟨gp,rfl⟩;have f1:=gL hx (((i:Nat):Int).toNat) oO;have f2:=gL hx (0+((i:Nat):Int).toNat) oO;refine gg11 ?_;refine uX (kZ hE hy) O ?_;rintro _ _⟨rfl,rfl⟩;simp only[uV,uW];refine gg3 ?_;refine uU (cZ (hE.t O) (fun b12=>?_));refine gg17 ?_;refine uX (qHk hE y.r) O ?_;rintro _ _⟨pk,ck,rfl,rfl⟩;simp only[uV,uW];refine gg5 ?_;refine jG (p:=sl pk ck 56 1 (kids y.r).length (idC (kids y.r))) uK (fun _ h=>fun hpos=>fA h hpos) ?_;intro hpk;clear f1 f2 hil hSl hib e2
  refine eQ (fun x:RhG=>[(0,uPt s),(6,uPt b6),(8,.func (.func 103) #[] ⟨[uPt b7,uPt b6]⟩),(11,.int .i64 (i:Nat)),(56,.slice pk (kids y.r).length ck),(57,.int .i64 ((kids y.r).length:Nat)),(58,.int .i64 (x.j:Nat))]) (fun x=>[bR s most Es,cells b7 [.map (some b19)] 210,cells b6 [.slice x.p x.S.length x.c] 26,mapF b19 .i64 (yF (0::x.S)),sl x.p x.c 56 1 x.S.length (idC x.S),sl pk ck 56 1 (kids y.r).length (idC (kids y.r)),R]) (fun x=>(kids y.r).length-x.j)
   (fun x=>x.j≤(kids y.r).length∧RchI (rls Es) id i x.S∧x.S[i]?=some (n+1)∧∀t k,t<x.j→(kids y.r)[t]?=some k→k∈x.S) ⟨0,0,S,some ⟨gp,0,none⟩,c⟩ ⟨au _,hI,hx,fun t k h=>absurd h (Nat.not_lt_zero _)⟩ ⟨rfl,rfl,rfl,rfl,rfl,rfl,rfl,trivial⟩ uI ?_
  clear hI hx;rintro⟨_,j,S,p,c⟩⟨hj,hI,hx,hall⟩;simp only at hj hI hx hall ⊢;have hSl:=hI.len;refine gg6 ?_;refine bE O (fun e3=>?_) (fun e3=>?_)
  ·have hjl:j<(kids y.r).length:=oO;obtain⟨gk,rfl⟩:=hpk oO;obtain⟨z,hz⟩:∃z,(kids y.r)[j]?=some z:=⟨_,ag hjl⟩;have hzk:=ay hz;have hz1:=(nD (hw.ok _ _ hyr) z hzk).1;have f1:=gL hz (((j:Nat):Int).toNat) oO;refine gg14 ?_;refine uU ?_;apply qHw (hx:=O) (ha:=O) (hf:=hgo)
   ·exact qPr (b6:=b6) (b7:=b7) (bm:=b19) (z:=z) (p:=p) (c:=c) (S:=S) hE hz1 oO
   ·exact uK
   rintro _ _⟨rfl,p1,c1,rfl⟩;simp only[uV,uW];by_cases hin:z∈S
   ·rw[if_pos hin];refine gg7 ?_;refine bS (ι:=RhG) (j:=⟨0,j+1,S,p1,c1⟩) ⟨by simp only;omega,hI,hx,fun t k ht hk=>?_⟩ (by simp only;omega) ⟨rfl,rfl,rfl,rfl,rfl,rfl,bf some (bW (by simp only;omega)),trivial⟩ uI;rcases ed t j with h| h
    ·exact hall t k h hk
    obtain rfl:t=j:=by simp only at ht;omega
    rw[hz]at hk;cases hk
    exact hin
   rw[if_neg hin];have hI2:=hI.more hw (ay hx) hyr hzk hin;refine gg7 ?_;refine bS (ι:=RhG) (j:=⟨0,j+1,S++[z],p1,c1⟩) ⟨by simp only;omega,hI2,by simp only;rw[ak (ae.1 hx).1];exact hx,fun t k ht hk=>?_⟩ (by simp only;omega) ⟨rfl,rfl,rfl,rfl,rfl,rfl,bf some (bW (by simp only;omega)),trivial⟩ uI;rcases ed t j with h| h
   ·exact fu _ (hall t k h hk)
   obtain rfl:t=j:=by simp only at ht;omega
   rw[hz]at hk;cases hk
   simp
  have hii:=(ae.1 hx).1;refine gg11 ?_
  refine bS (ι:=RhG) (j:=⟨i+1,0,S,p,c⟩) (hI.next hx hyr fun k hk=>by
   obtain⟨t,ht⟩:=kg hk;exact hall t k (by have:=(ae.1 ht).1;omega) ht) (by have:=(ae.1 hx).1;simp only;omega) ⟨rfl,rfl,rfl,bf some (bW (by simp only;omega)),trivial⟩ uI
 obtain rfl:i=S.length:=by omega
 have hS0:0<S.length:=(ae.1 hI.hd).1;refine jG (p:=sl p c 56 1 S.length (idC S)) uK (fun _ h=>fA h hS0) ?_;rintro⟨gp,rfl⟩;refine gg8 ?_;refine uX (qSj (l:=S) hE oO) O ?_;rintro _ _⟨V,rfl,hVl,hVp,hVs,rfl⟩;rw[←hVl];simp only[uV,uW];refine gg10 ?_;exact uZ O (.tmp O (.tmp O .nil)) ⟨gp,c,V,O,hVp.nodup_iff.2 hI.nd,hVs,fun x=>hVp.mem_iff.trans (hI.all x),O⟩
end
section
variable {E:Env}{Es:List Ent}{s most bm:Nat}{f:Int→Option Value}
def Rea.ev {L:List Rl}(hw:Wf L){n x:Nat}(h:Rea L n x):Ev L n→Ev L x:=by
 induction h with
 |self _=>exact id
 |kid hr hk hx ih=>
  intro he
  refine ih ?_
  rcases he.rule hw with⟨b,hg,h0⟩|⟨l,r,hg,h1,h2,h3,h4,el,er,_⟩
  ·rw[hr]at hg
   cases hg
   simp[kids]at hk
  rw[hr]at hg
  cases hg
  simp[kids]at hk
  rcases hk with rfl|rfl<;>assumption
def Rea.le2 {L:List Rl}(hw:Wf L){n x:Nat}(h:Rea L n x):x≤n:=by
 induction h with
 |self _=>exact ai _
 |kid hr hk hx ih=>
  have:=nD (hw.ok _ _ hr) _ hk
  omega
def Rea.power {L:List Rl}{j x a k:Nat}(hg:L[j]?=some (.power a k))(h:Rea L (j+1) x):x=j+1∨Rea L a x:=by
 cases h with
 |self _=>exact .inl rfl
 |kid hr hk hx=>
  rw[hg]at hr
  cases hr
  simp[kids]at hk
  subst hk
  exact .inr hx
def Pw (L:List Rl)(id a k:Nat)(t:List UInt8):Prop:=Be L id (Eg.rep k t)∨∃j,id=j+1∧L[j]?=some (.power a k)∧Be L a t∧2≤k
def qVa (hE:Seat E){a k:Nat}{t:List UInt8}(ha:Be (rls Es) a t)(hk:k≤1000)(hl:t.length≤400)(hroom:Es.length<most):
  Ct E 112 [uPt s,.int .i64 (a:Nat),.int .i64 (k:Nat)] [bR s most Es]
   (fun v Q=>∃(M:List Ent)(id:Nat),v= .tuple #[.int .i64 (id:Nat),.nilIface]∧M.length≤1∧Pw (rls (Es++M)) id a k t∧Q=[bR s most (Es++M)]):=by
 have hal:=ha.le;rcases ed k 2 with hk2|hk2
 ·refine bO (hE.fn Tryz.func112) O O O (fun R=>?_);simp only[dX,uV,uW];refine gg21 ?_;refine uX (wY (i:=a) hE hal) O ?_;rintro _ _⟨rfl,rfl⟩;simp only[uV,uW];refine gg9 ?_;refine bE O (fun g0=>?_) (fun g0=>?_)
  ·exfalso;omega
  refine gg8 ?_;refine eF 30 O (fun g1=>?_) (fun g1=>?_)
  ·obtain rfl:k=0:=by omega
   refine gg14 ?_;apply cB
   ·rfl
   ·(apply Rs.tmp rfl;apply Rs.tmp rfl;exact Rs.nil)
   ·exact⟨[],0,O,au _,.inl (Be.zero _),O⟩
   rw[aj];exact uI
  obtain rfl:k=1:=by omega
  refine gg7 ?_;refine bE O (fun g2=>?_) (fun g2=>?_)
  ·obtain rfl:a=0:=by omega
   have ht:=ha.tx;rw[kN]at ht;subst ht;refine gg8 ?_;apply cB
   ·rfl
   ·(apply Rs.tmp rfl;apply Rs.tmp rfl;exact Rs.nil)
   ·exact⟨[],0,O,au _,.inl (by rw[Eg.rep_one];exact Be.zero _),O⟩
   rw[aj];exact uI
  refine gg19 ?_;apply cB
  ·rfl
  ·(apply Rs.tmp rfl;apply Rs.tmp rfl;exact Rs.nil)
  ·exact⟨[],a,O,au _,.inl (by rw[Eg.rep_one,aj];exact ha),O⟩
  rw[aj];exact uI
 rcases jr a with rfl|ha0
 ·have ht:=ha.tx;rw[kN]at ht;subst ht;have hre:Eg.rep k ([]:List UInt8)=[]:=dh (by rw[Eg.rep_length];simp);refine bO (hE.fn Tryz.func112) O O O (fun R=>?_);simp only[dX,uV,uW];refine gg21 ?_;refine uX (wY (i:=0) hE hal) O ?_;rintro _ _⟨rfl,rfl⟩;simp only[uV,uW];refine gg9 ?_;refine bE O (fun g0=>?_) (fun g0=>?_)
  ·exfalso;omega
  refine gg8 ?_;refine eF 30 O (fun g1=>?_) (fun g1=>?_)
  ·exfalso;omega
  refine gg16 ?_;apply cB
  ·rfl
  ·(apply Rs.tmp rfl;apply Rs.tmp rfl;exact Rs.nil)
  ·exact⟨[],0,O,au _,.inl (by rw[hre];exact Be.zero _),O⟩
  rw[aj];exact uI
 obtain⟨i,rfl⟩:∃i,a=i+1:=⟨a-1,oO⟩;obtain⟨xl,hxl⟩:∃x,Es[i]?=some x:=⟨_,ag hal⟩;refine eU (p:=bR s most Es) uK (fun _ h=>dS h) (fun hsay=>?_);have htx:xl.t=t:=by rw[hsay.2.1 _ _ hxl,ha.tx]
 have hmul:t.length*k≤400*1000:=xx hl hk;refine(qPp (s:=s) (most:=most) hE hxl hk2 (by rw[htx];exact jh hmul (by decide)) hroom).mono fun v Q=>?_
 rintro⟨M,id,rfl,hM,hid,hr,rfl⟩;refine⟨M,id,O,hM,.inr ⟨id-1,oO,hr,ha.more M,hk2⟩,O⟩
def qUk (hE:Seat E){x:Nat}(hx:Ev (rls Es) x):Ct E 145 [uPt s,.int .i64 (x:Nat),.map (some bm)] [bR s most Es,mapF bm .i64 f] (fun v Q=>v= .tuple #[.int .i64 (x:Nat),.nilIface]∧Q=[bR s most Es,mapF bm .i64 f]):=by
 have hxl:=hx.le;rw[bQ]at hxl;refine bO (hE.fn Tryz.func145) O O O (fun R=>?_);simp only[dX,uV,uW];refine gg10 ?_;refine uX (mH hE hxl) O ?_;rintro _ _⟨rfl,rfl⟩;simp only[uV,uW];rw[hx.ev];refine gg33 ?_;exact uZ O (.tmp O (.tmp O .nil)) ⟨O,O⟩
def qUl (hE:Seat E){j a k:Nat}{t:List UInt8}(hg:(rls Es)[j]?=some (.power a k))(ha:Be (rls Es) a t)(hf:f (a:Nat)=some (.int .i64 (a:Nat)))(hk2:2≤k)(hk:k≤1000)(hl:k*t.length≤400)(hroom:Es.length+146*k≤most):
  Ct E 145 [uPt s,.int .i64 ((j+1:Nat):Int),.map (some bm)] [bR s most Es,mapF bm .i64 f]
   (fun v Q=>∃(M:List Ent)(id:Nat),v= .tuple #[.int .i64 (id:Nat),.nilIface]∧M.length≤146*k∧Be (rls (Es++M)) id (Eg.rep k t)∧Q=[bR s most (Es++M),mapF bm .i64 f]):=by
 refine eU (p:=bR s most Es) uK (fun _ h=>dS h) (fun hsay=>?_);obtain⟨en,hent,hr'⟩:=yB hg;have hjl:=(ae.1 hent).1;have hev:evn (rls Es) (j+1)=false:=by unfold evn;rw[sM hg (hsay.1.ok _ _ hg)]
 have hm1:E.P.underlying 111=some (.map 56 56):=by rw[hE.P];kernel_rfl
 have hm2:E.P.underlying 56=some (.int .i64):=by rw[hE.P];kernel_rfl
 have hm3:∀w,(zeroValue 56).run E.P w= .ok (.int .i64 0) w:=fun w=>by rw[hE.P];kernel_rfl
 refine bO (hE.fn Tryz.func145) O O O (fun R=>?_);simp only[dX,uV,uW];refine gg10 ?_;refine uX (mH (x:=j+1) hE hjl) O ?_;rintro _ _⟨rfl,rfl⟩;simp only[uV,uW];rw[hev];refine gg30 ?_;refine uX (kZ hE hent) O ?_;rintro _ _⟨rfl,rfl⟩;simp only[uV,uW];rw[hr'];refine gg3 ?_;refine uU (cZ (hE.t O) (fun b10=>?_));refine gg29 ?_;refine uB (nH hm1 hm2 hm3 O O uK hf) ?_;refine l_eq 38 (.int .i64 (a:Nat)) O O ?_;refine gg2 ?_;refine uX (qFk (most:=most) hE ha oO oO hl hroom) O ?_;rintro _ _⟨M,id,rfl,hM,hb,rfl⟩;simp only[uV,uW];refine gg8 ?_;exact uZ O (.tmp O (.tmp O .nil)) ⟨M,id,O,hM,hb,O⟩
structure OfG3 where
 k:Nat
 M:List Ent
 f:Int→Option Value
def ct_bOf (hE:Seat E){id a kk:Nat}{t:List UInt8}(hpw:Pw (rls Es) id a kk t)(hk:kk≤1000)(hl:kk*t.length≤400)(hroom:Es.length+146*kk≤most)(hE6:Es.length<65536):
  Ct E 113 [uPt s,.int .i64 (id:Nat)] [bR s most Es] (BeP s most Es (Eg.rep kk t) (146*kk)):=by
 refine eU (p:=bR s most Es) uK (fun _ h=>dS h) (fun hsay=>?_);have hw:=hsay.1;rcases hpw with hbe|⟨j,rfl,hg,ha,hk2⟩
 ·refine bO (hE.fn Tryz.func113) O O O (fun R=>?_);simp only[dX,uV,uW];refine gg10 ?_;refine uX (mH hE hbe.le) O ?_;rintro _ _⟨rfl,rfl⟩;simp only[uV,uW];rw[hbe.ev.ev];refine gg33 ?_;apply cB
  ·rfl
  ·(apply Rs.tmp rfl;apply Rs.tmp rfl;exact Rs.nil)
  ·exact⟨[],id,O,au _,by rw[aj];exact hbe,rfl⟩
  rw[aj];exact uI
 have hjl:=(ae.1 hg).1;rw[bQ]at hjl;have hok:=hw.ok _ _ hg;have hev:evn (rls Es) (j+1)=false:=by unfold evn;rw[sM hg hok]
 simp only[Rl.ok]at hok;have hm1:E.P.underlying 111=some (.map 56 56):=by rw[hE.P];kernel_rfl
 have hm2:E.P.underlying 56=some (.int .i64):=by rw[hE.P];kernel_rfl
 have hm3:∀w,(zeroValue 56).run E.P w= .ok (.int .i64 0) w:=fun w=>by rw[hE.P];kernel_rfl
 refine bO (hE.fn Tryz.func113) O O O (fun R=>?_);simp only[dX,uV,uW];refine gg10 ?_;refine uX (mH (x:=j+1) hE hjl) O ?_;rintro _ _⟨rfl,rfl⟩;simp only[uV,uW];rw[hev];refine gg30 ?_;refine uU ?_;refine aU (hE.t O) (hE.t O) O O O (fun b26=>?_);refine uX (ct_Reach (id:=j+1) (g:=b26) hE oO hjl hE6) O ?_;rintro _ _⟨p,c,V,rfl,hV1,hV2,hV3,rfl⟩;simp only[uV,uW];have hVle:∀x∈V,x≤j+1:=fun x hx=>((hV3 x).1 hx).le2 hw
 have hVj:j+1∈V:=(hV3 _).2 (.self (by rw[bQ];omega))
 have hVa:a∈V:=(hV3 _).2 (.kid (k:=a) (x:=a) hg (by simp[kids]) (by
  obtain⟨n,rfl⟩:∃n,a=n+1:=⟨a-1,oO⟩;exact .self (by rw[bQ];omega)))
 have hVev:∀x∈V,x≠j+1→Ev (rls Es) x:=fun x hx hne=>(((hV3 x).1 hx).power hg).elim (fun e=>absurd e hne) fun h=>h.ev hw ha.ev
 have hVlast:∀k,V[k]?=some (j+1)→k+1=V.length:=fun k hk=>by
  have hkl:=(ae.1 hk).1;refine Classical.byContradiction fun hne=>?_
  obtain⟨y,hy⟩:∃y,V[k+1]?=some y:=⟨_,ag oO⟩;have h1:=rq.1 hV2 k (k+1) hkl oO oO;rw[ag hkl]at hk;rw[ag oO]at hy;have hk':=lm hk;have h2:=hVle _ (List.getElem_mem (by omega:k+1<V.length));have h3:=rq.1 (uj.1 hV1) k (k+1) hkl oO oO;omega
 have hVn:V.length≤Es.length:=by
  have:=AccOk.len (L:=rls Es) (acc:=V) ⟨hV1,fun x hx=>((hV3 x).1 hx).le⟩;rwa [bQ]at this
 refine gg21 ?_;refine uU ?_;refine qGa .i64 (kt:=56) (et:=56) (by rw[hE.P];kernel_rfl) O (fun b35=>?_);refine gg12 ?_
 refine eQ (fun q:OfG3=>[(0,uPt s),(1,.int .i64 ((j+1:Nat):Int)),(9,.map (some b35)),(36,.slice (some ⟨p,0,none⟩) V.length c),(37,.int .i64 (V.length:Nat)),(38,.int .i64 (q.k:Nat))]) (fun q=>[bR s most (Es++q.M),mapF b35 .i64 q.f,sl (some ⟨p,0,none⟩) c 56 1 V.length (idC V),R]) (fun q=>V.length-q.k)
  (fun q=>q.k≤V.length∧(((∀i x,i<q.k→V[i]?=some x→x≠j+1∧q.f (x:Nat)=some (.int .i64 (x:Nat)))∧q.M=[])∨(q.k=V.length∧∃y:Nat,q.f ((j+1:Nat):Int)=some (.int .i64 (y:Nat))∧Be (rls (Es++q.M)) y (Eg.rep kk t)∧q.M.length≤146*kk))) ⟨0,[],fun _=>none⟩ ⟨au _,.inl ⟨fun i x h=>absurd h (Nat.not_lt_zero _),rfl⟩⟩ ⟨rfl,rfl,rfl,rfl,rfl,rfl,trivial⟩ ?_ ?_
 ·rw[aj];exact uI
 rintro⟨k,M,f⟩⟨hkl,hI⟩;simp only at hkl hI ⊢;refine gg6 ?_;refine bE O (fun h1=>?_) (fun h1=>?_)
 ·have hklt:k<V.length:=oO;rcases hI with⟨hI,rfl⟩|⟨hI,_⟩
  ·obtain⟨x,hx⟩:∃x,V[k]?=some x:=⟨_,ag hklt⟩;have hxV:=ay hx;have f0:=gL hx (((k:Nat):Int).toNat) oO;rw[aj];by_cases hxj:x=j+1
   ·subst hxj;have hkk:=hVlast k hx
    have hfa:f (a:Nat)=some (.int .i64 (a:Nat)):=by
     obtain⟨i,hi⟩:=kg hVa;have hil:=(ae.1 hi).1;refine(hI i a ?_ hi).2;refine Classical.byContradiction fun hn=>?_
     obtain rfl:i=k:=by omega
     rw[hx]at hi;cases hi
     omega
    refine gg18 ?_;refine uX (qUl (f:=f) (bm:=b35) (most:=most) hE hg ha hfa hk2 hk hl hroom) O ?_;rintro _ _⟨M,y,rfl,hM,hb,rfl⟩;simp only[uV,uW];refine gg3 ?_;refine uU ?_;apply qQ (kt:=56) (et:=56) (by rw[hE.P];kernel_rfl) (by rw[hE.P];kernel_rfl) O O O
    ·exact uK
    refine gg17 ?_;refine bS (ι:=OfG3) (j:=⟨k+1,M,setF f ((j+1:Nat):Int) (.int .i64 (y:Nat))⟩) ⟨by simp only;omega,.inr ⟨hkk,y,if_pos rfl,hb,hM⟩⟩ (by simp only;omega) ⟨rfl,rfl,rfl,rfl,rfl,bf some (bW (by simp only;omega)),trivial⟩ uI
   refine gg18 ?_;refine uX (qUk (f:=f) (bm:=b35) hE (hVev x hxV hxj)) O ?_;rintro _ _⟨rfl,rfl⟩;simp only[uV,uW];refine gg3 ?_;refine uU ?_;apply qQ (kt:=56) (et:=56) (by rw[hE.P];kernel_rfl) (by rw[hE.P];kernel_rfl) O O O
   ·exact uK
   refine gg17 ?_;refine bS (ι:=OfG3) (j:=⟨k+1,[],setF f (x:Nat) (.int .i64 (x:Nat))⟩) ⟨by simp only;omega,.inl ⟨fun i y hi hy=>?_,rfl⟩⟩ (by simp only;omega) ⟨rfl,rfl,rfl,rfl,rfl,bf some (bW (by simp only;omega)),trivial⟩ ?_
   ·simp only at hi ⊢;rcases ed i k with h| h
    ·obtain⟨g1,g2⟩:=hI i y h hy;refine⟨g1,?_⟩;unfold setF;by_cases e:(y:Int)=(x:Int)
     ·rw[if_pos e,e]
     rw[if_neg e];exact g2
    obtain rfl:i=k:=by omega
    rw[hx]at hy;cases hy
    exact⟨hxj,if_pos O⟩
   rw[aj];exact uI
  exfalso;omega
 obtain rfl:k=V.length:=by omega
 rcases hI with⟨hI,_⟩|⟨_,y,hfy,hby,hM⟩
 ·exfalso;obtain⟨i,hi⟩:=kg hVj;exact(hI i _ (ae.1 hi).1 hi).1 O
 refine gg9 ?_;refine uB (nH hm1 hm2 hm3 O O uK hfy) ?_;refine gg5 ?_;exact uZ O (.tmp O (.tmp O .nil)) ⟨M,y,O,hM,hby,O⟩
end
