import Derived.Test.YtnicahfnolhgbaaGreatDoorQ69
import Derived.Test.YtnicahfnolhgbaaGreatDoorQ84
set_option linter.all false
set_option maxHeartbeats 1000000
namespace Go.Proofs.YtnicahfnolhgbaaGreatDoor
open Go Go.RowKit Sl Eg
set_option maxRecDepth 10000
section
variable {E:Bp}{Es:List Bj}{s most:Nat}
structure ZJ where
 M:List Bj
 id:Nat
 k:Nat
 r:Nat
 tr:List UInt8
 ti:List UInt8
structure Qf where
 M:List Bj
 r:Nat
 tr:List UInt8
def qGf (hE:BP E){a k t}(ha:Be (BO Es) a t)(hk:1<=k)(hI:k<=100000)(hl:k*t.length<=400)(hG:Es.length+146*k<=most):
  Ct E 97 [uPt s,BK a,BK k] [bR s most Es] (Pn s most Es (Eg.rep k t) (146*k)):=by
 refine bO (hE.fn Tryz.func97) O O O (fun R=>?_);simp only[dS,uV,uW];refine Bq ?_
 refine dX (fun q:ZJ=>[(0,uPt s),(1,BK (q.id)),(2,BK (q.k)),(8,BK (q.r))]) (fun q=>[bR s most (Es++q.M),R]) (fun q=>q.k)
  (fun q=>Be (BO (Es++q.M)) q.id q.ti/\Be (BO (Es++q.M)) q.r q.tr/\1<=q.k/\q.k<=100000/\q.tr.length+q.k*q.ti.length<=400/\q.tr++Eg.rep q.k q.ti=Eg.rep k t/\q.M.length+146*q.k<=146*k) ⟨[],a,k,0,[],t⟩ ⟨by rw[ax];exact ha,Be.zero _,hk,hI,by simp only[iw];omega,rfl,by simp⟩ BC ?_ ?_
 ·rw[ax];exact uI
 rintro⟨M,id,q,r,tr,ti⟩⟨hD,hr,hJ,hK,hF,hA,hM⟩;simp only at hD hr hJ hK hF hA hM ⊢;have hQ:(Es++M).length=Es.length+M.length:=aa;refine CB ?_;refine jT (fun x:Qf=>[(0,uPt s),(1,BK id),(2,BK q),(8,BK (x.r))]) (fun x=>[bR s most (Es++x.M),R]) (fun x=>Be (BO (Es++x.M)) id ti/\Be (BO (Es++x.M)) x.r x.tr/\x.tr.length+(q/2)*(ti.length+ti.length)<=400/\x.tr++Eg.rep (q/2) (ti++ti)=Eg.rep k t/\x.M.length+146*q<=146*k+73) ?_ ?_
 ·refine Bi ?_;refine bE O (fun h1=>?_) (fun h1=>?_)
  ·obtain⟨h,rfl⟩:∃h,q=2*h+1:=⟨q/2,oO⟩;have e1:(2*h+1)*ti.length=h*(ti.length+ti.length)+ti.length:=by rw[qc,AB,oN 2 h,vg,Nat.two_mul]
   have e2:(2*h+1)/2=h:=oO;have hL:tr.length+ti.length<=400:=oO;refine Bw ?_;refine uX (nY (most:=most) (Es:=Es++M) hE hr hD hL oO) O ?_;rintro _ _⟨M2,id2,rfl,hN,hB,rfl⟩;simp only[uV,uW];have hC:=hD.more M2;rw[ah Es]at hB hC ⊢;refine CK ?_;refine eX (⟨M++M2,id2,tr++ti⟩:Qf) ⟨hC,hB,by simp only[aa];rw[e2];omega,(Eg.rep_odd tr ti oO).trans hA,by simp only[aa];omega⟩ BC uI
  obtain⟨h,rfl⟩:∃h,q=2*h:=⟨q/2,oO⟩;have e1:2*h*ti.length=h*(ti.length+ti.length):=by rw[oN 2 h,vg,Nat.two_mul]
  have e2:2*h/2=h:=oO;refine Bv ?_;refine eX (⟨M,r,tr⟩:Qf) ⟨hD,hr,by simp only;rw[e2];omega,(Eg.rep_even tr ti oO).trans hA,BD⟩ BC uI
 rintro⟨M1,r1,tr1⟩⟨k1,k2,k3,k4,k5⟩;simp only at k1 k2 k3 k4 k5 ⊢;have hO:(Es++M1).length=Es.length+M1.length:=aa;refine Bw ?_;refine BU 24 (BL ((q/2:Nat):Int)) O (bW oO) ?_;refine Bu ?_;refine bE O (fun h2=>?_) (fun h2=>?_)
 ·have hz:q/2=0:=oO;rw[hz]at k4;refine Bq ?_;exact uZ O (.tmp O (.tmp O .nil)) ⟨M1,r1,O,oO,by rw[<-k4];show Be _ _ (tr1++[]);rw[ax];exact k2,rfl⟩
 have hH:0<q/2:=oO;have hP:=wh (ti.length+ti.length) hH;refine Bi ?_;refine uX (nY (most:=most) (Es:=Es++M1) hE k1 k1 oO oO) O ?_;rintro _ _⟨M2,id2,rfl,hN,hB,rfl⟩;simp only[uV,uW];have k2':=k2.more M2;rw[ah Es]at hB k2' ⊢;refine CX ?_;refine bS (ι:=ZJ) (j:=⟨M1++M2,id2,q/2,r1,tr1,ti++ti⟩) ⟨hB,k2',hH,BD,by simp only[aa];exact k3,k4,by simp only[aa];omega⟩ BD BC uI
def qTe (hE:BP E){a k t}(ha:Be (BO Es) a t)(hB:k<=100000)(hl:k*t.length<=400)(hF:t.length<=400)(hA:Es.length+146*k<=most):
  Ct E 62 [uPt s,BK a,BK k] [bR s most Es] (Pn s most Es (Eg.rep k t) (146*k)):=by
 have ea:=ha.ev.ev;have hC:=ha.len;refine bO (hE.fn Tryz.func62) O O O (fun R=>?_);simp only[dS,uV,uW];refine Bc ?_;refine BH (mE hE ha.le) O ?_;rw[ea];refine IP ?_;refine bE O (fun h0=>?_) (fun h0=>?_)
 ·exfalso;omega
 refine CB ?_;refine BH (sO hE ha.le) O ?_;refine CG ?_;refine uU (dA (hE.t O) (fun hG=>?_));refine FH ?_;have hD:(txt (BO Es) a).length*k<=1000000000:=by rw[hC,oN];omega
 refine BH (Jv (a:=(txt (BO Es) a).length) (k:=k) hE hD oO oO) O ?_;refine Df ?_;refine dV 49 O (fun h1=>?_) (fun h1=>?_)
 ·obtain rfl:k=0:=by omega
  refine CU ?_;apply cK
  ·rfl
  ·(apply Rs.tmp rfl;apply Rs.tmp rfl;exact Rs.nil)
  ·exact⟨[],0,O,av _,Be.zero _,O⟩
  rw[ax];exact uI
 refine Bi ?_;refine bE O (fun h2=>?_) (fun h2=>?_)
 ·obtain rfl:a=0:=by omega
  have ht:=ha.tx;rw[jI]at ht;subst ht;refine Br ?_;apply cK
  ·rfl
  ·(apply Rs.tmp rfl;apply Rs.tmp rfl;exact Rs.nil)
  ·refine⟨[],0,O,av _,?_,O⟩;have:Eg.rep k ([]:List UInt8)=[]:=dw (by rw[Eg.rep_length];simp);rw[this];exact Be.zero _
  rw[ax];exact uI
 refine Bi ?_;refine uX (qGf (most:=most) hE ha oO hB hl hA) O ?_;rintro _ _⟨M,id,rfl,hM,hb,rfl⟩;simp only[uV,uW];refine Bi ?_;exact uZ O (.tmp O (.tmp O .nil)) ⟨M,id,O,hM,hb,O⟩
end
section
variable {E:Bp}{Es:List Bj}{s most:Nat}
def Dl (n d:Nat):Prop:=n<=2^d/\(d=0\/2^(d-1)<n)
def Dl.join {n k d1 d2}(h1:Dl k d1)(hk:k=n/2)(hn:2<=n)(h2:Dl (n-k) d2):d1<=d2+1/\d2<=d1+1/\Dl n (1+max d1 d2):=by
 obtain⟨a1,a2⟩:=h1;obtain⟨b1,b2⟩:=h2
 have le:d1<=d2:=by
  refine Classical.byContradiction fun h=>?_
  have p:=ol (n:=2) oO (show d2<=d1-1 by omega);omega
 have ge:d2<=d1+1:=by
  refine Classical.byContradiction fun h=>?_
  have p:=ol (n:=2) oO (show d1+1<=d2-1 by omega);have q:2^(d1+1)=2^d1*2:=zh ..;have r:0<2^d1:=Nat.pow_pos oO;omega
 have hm:1+max d1 d2=d2+1:=oO;have q:2^(d2+1)=2^d2*2:=zh ..;rw[hm];refine⟨oO,ge,by rw[q];omega,.inr ?_⟩;rw[fu];rcases jo d2 with rfl| h
 ·show 1<n;omega
 have r:2^(d2-1)<n-k:=b2.resolve_left oO;have e:2^d2=2^(d2-1)*2:=by rw[<-zh];congr 1;omega
 omega
def qWh (hE:BP E):∀(n:Nat){Es:List Bj}{bs:List UInt8}{g o c:Nat}{q:HP},bs.length=n->1<=n->n<=65536->n<=c->(∀k,q k->FN E.w0 g o (Bd bs) k)->Es.length+2*n<=most->
  Ct E 79 [uPt s,.slice (some ⟨g,o,none⟩) n c] [bR s most Es,q]
   (fun v Q=>∃(M:List Bj)(id d:Nat),v= .tuple #[BK id,.nilIface]/\M.length+1<=2*n/\Bl (BO (Es++M)) id bs d/\Dl n d/\Q=[bR s most (Es++M),q]):=by
 intro n;induction n using Nat.strongRecOn with
 |ind n ih=>
 intro Es bs g o c q hV hW hX hY hq hG;have hH:=fK bs;have hZ:dC=1152921504606846976:=rfl;refine bO (hE.fn Tryz.func79) O O O (fun R=>?_);simp only[dS,uV,uW];refine CU ?_;refine bE O (fun h=>?_) (fun h=>?_)
 ·obtain⟨b,rfl⟩:=oZ.1 (show bs.length=1 by omega);have f0:(Bd [b])[0]?=some (.int .u8 (b.toNat:Nat)):=rfl;have hK:Es.length<most:=oO;refine CB ?_;refine uX (qLo (s:=s) (most:=most) (Es:=Es) hE b hK) O ?_;rintro _ _⟨M,id,rfl,hM,hL,hA,rfl⟩;simp only[uV,uW];refine Br ?_
  have hH:Bl (BO (Es++M)) id [b] 0:=by
   obtain⟨i,rfl⟩:∃i,id=i+1:=⟨id-1,oO⟩;rw[fu]at hA;exact⟨hL,Ev.letter hA,fP hA,by rw[dep,mF hA]⟩
  exact uZ O (.tmp O (.tmp O .nil)) ⟨M,id,0,O,oO,hH,⟨oO,.inl O⟩,O⟩
 obtain⟨k,hk⟩:∃k,k=n/2:=⟨_,rfl⟩;have hB:1<=k/\k<n/\n-k<n:=oO;have hI:(bs.take k).length=k:=by rw[ig];omega
 have hJ:(bs.drop k).length=n-k:=by rw[lw];omega
 have hN:∀x,q x->FN E.w0 g o (Bd (bs.take k)) x:=fun x hx i v hv=>by
  have e:Bd (bs.take k)=(Bd bs).take k:=by simp[Bd,qo]
  rw[e,ni]at hv;split at hv
  ·exact hq x hx i v hv
  cases hv
 have hO:∀x,q x->FN E.w0 g (o+k) (Bd (bs.drop k)) x:=fun x hx i v hv=>by
  have e:Bd (bs.drop k)=(Bd bs).drop k:=by simp[Bd,qp]
  rw[e,om]at hv;have:=hq x hx (k+i) v hv;rwa [<-qa]at this
 refine Bu ?_;refine BU 24 (BK k) O (bW oO) ?_;refine uB (gF k O O (hE.t O) O oO) ?_;refine uX (ih k hB.2.1 (Es:=Es) (bs:=bs.take k) (g:=g) (o:=o) (c:=c) (q:=q) hI hB.1 oO oO hN oO) O ?_;rintro _ _⟨M1,i1,d1,rfl,ha,hP,hQ,rfl⟩;simp only[uV,uW];refine Dv ?_;refine BU 37 (BK k) O (bW oO) ?_;refine uB (gL (l:=k) (h:=n) O (hE.t O) ⟨_,O⟩ O oO oO) ?_;refine BU 38 (.slice (some ⟨g,o+k,none⟩) (n-k) (c-k)) O (by rw[if_neg oO,oV,Sl.addr_add]) ?_;have hR:(Es++M1).length+2*(n-k)<=most:=by rw[aa];omega
 refine uX (ih (n-k) hB.2.2 (Es:=Es++M1) (bs:=bs.drop k) (g:=g) (o:=o+k) (c:=c-k) (q:=q) hJ oO oO oO hO hR) O ?_;rintro _ _⟨M2,i2,d2,rfl,hb,hS,hT,rfl⟩;simp only[uV,uW];refine CK ?_;obtain⟨c1,c2,c3⟩:=hQ.join hk oO hT;have hC:=hP.more M2;have hD:(bs.take k).length+(bs.drop k).length<=dC:=by rw[hI,hJ];omega
 have hU:(Es++M1++M2).length<most:=by rw[aa,aa];omega
 refine Bi ?_;refine uX (pY (s:=s) (most:=most) (Es:=Es++M1++M2) hE hC hS c1 c2 hD hU) O ?_;rintro _ _⟨M3,id,d,rfl,hc,hF,hd,he,rfl⟩;simp only[uV,uW];obtain rfl:d=1+max d1 d2:=by omega
 rw[dh]at hF;have ea:Es++M1++M2++M3=Es++(M1++(M2++M3)):=by simp only[ah]
 rw[ea]at hF ⊢;refine Bi ?_;exact uZ O (.tmp O (.tmp O .nil)) ⟨M1++(M2++M3),id,_,O,by simp only[aa];omega,hF,c3,rfl⟩
def Ws (hE:BP E){bs a c q}(hq:Cv E.w0 a (Bd bs) q)(hn:bs.length<=65536)(hc:bs.length<=c)(hA:Es.length+2*bs.length<=most):
  Ct E 49 [uPt s,.slice a bs.length c] [bR s most Es,q]
   (fun v Q=>∃(M:List Bj)(id:Nat),v= .tuple #[BK id,.nilIface]/\M.length<=2*bs.length/\Be (BO (Es++M)) id bs/\Q=[bR s most (Es++M),q]):=by
 refine bO (hE.fn Tryz.func49) O O O (fun R=>?_);simp only[dS,uV,uW];refine Dv ?_;refine bE O (fun h1=>?_) (fun h1=>?_)
 ·exfalso;omega
 refine Bc ?_;refine bE O (fun h2=>?_) (fun h2=>?_)
 ·obtain rfl:bs=[]:=dw oO;refine Br ?_;apply cK
  ·rfl
  ·(apply Rs.tmp rfl;apply Rs.tmp rfl;exact Rs.nil)
  ·exact⟨[],0,O,av _,Be.zero _,O⟩
  rw[ax];exact uI
 obtain⟨g,o,rfl,hB⟩:=hq (fun e=>h2 (by have:=fK bs;rw[e]at this;simp at this;omega));refine CB ?_;refine uX (qWh (s:=s) (most:=most) hE bs.length (Es:=Es) (bs:=bs) (g:=g) (o:=o) (c:=c) (q:=q) O oO hn hc hB hA) O ?_;rintro _ _⟨M,id,d,rfl,hM,hC,hd,rfl⟩;simp only[uV,uW];refine Bi ?_;exact uZ O (.tmp O (.tmp O .nil)) ⟨M,id,O,oO,hC.be,O⟩
end
section
variable {E:Bp}{Es:List Bj}{s most:Nat}
def qWj (hE:BP E){x}(hx:x<=Es.length)(hs:Es.length<=1048576):Ct E 141 [uPt s,BK x] [bR s most Es] (fun v Q=>v= .bool true/\Q=[bR s most Es]):=by
 refine bO (hE.fn Tryz.func141) O O O (fun R=>?_);simp only[dS,uV,uW];refine CK ?_;refine BH (Rf hE) O ?_;refine Bi ?_;exact uZ O (.tmp O .nil) ⟨au Value.bool (oI oO),O⟩
def qRa (hE:BP E){b6 b7 bm z c p S}(hz:1<=z)(hS:S.length<=1048576):
  Ct E 140 [BK z,uPt b7,uPt b6] [cells b7 [.map (some bm)] 169,cells b6 [.slice p S.length c] 32,Bn bm .i64 (sF (0::S)),sl p c 41 1 S.length (Bg S)]
   (fun v Q=>v= .tuple #[]/\∃p' c',Q=[cells b7 [.map (some bm)] 169,cells b6 [.slice p' (if z∈S then S else S++[z]).length c'] 32,Bn bm .i64 (sF (0::(if z∈S then S else S++[z]))),sl p' c' 41 1 (if z∈S then S else S++[z]).length (Bg (if z∈S then S else S++[z]))]):=by
 have hD:E.P.underlying 169=some (.map 41 4):=hE.uu;have hF:E.P.underlying 41=some (.int .i64):=hE.uu;have hG:∀w,(zeroValue 4).run E.P w= .ok (.bool false) w:=hE.zz;refine bO (hE.fn Tryz.func140) O O O (fun R=>?_);simp only[dS,uV,uW];refine Bz ?_;by_cases hA:z∈S
 ·rw[if_pos hA];refine uB (lY hD hF hG O O uK (qSb (lg _ hA))) ?_;refine Bw ?_;exact Gf O .nil ⟨O,p,c,O⟩
 rw[if_neg hA]
 have hB:z∉0::S:=fun h=>by
  rcases di.1 h with h| h
  ·omega
  exact hA h
 refine uB (lY hD hF hG O O uK (qNp hB)) ?_;refine Br ?_;refine uU ?_;apply lS (kt:=41) (et:=4) hE.uu hE.uu O O O
 ·exact uK
 refine CL ?_;rw[zF];refine CG ?_;refine uU (aU (hE.t O) (hE.t O) O O O (fun hM=>?_));refine uU (BJ (fun hH hI hJ hK hL hC=>?_));refine CL ?_;obtain rfl:hJ=(S++[z]).length:=by rw[aa,bf];omega
 obtain rfl:hK=Bg (S++[z]):=by rw[hC,iF];rfl
 exact Gf O .nil ⟨O,some ⟨hH,0,none⟩,hI,O⟩
def UG:DD (fun _:Int=>(none:Option Value)) 0 (.bool true)=sF (0::[]):=by
 have h:(fun _:Int=>(none:Option Value))=sF []:=by funext x;simp[sF]
 rw[h];exact zF [] 0
structure TG where
 i:Nat
 j:Nat
 S:List Nat
 p:Option Addr
 c:Nat
def Ji (hE:BP E){id g}(h1:1<=id)(h2:id<=Es.length)(hn:Es.length<65536):
  Ct E 106 [uPt s,.slice (BM g) 1 1] [bR s most Es,cells g [BK id] 41]
   (fun v Q=>∃p c V,v= .tuple #[.slice (BM p) V.length c,.nilIface]/\V.Nodup/\V.Pairwise (· <= ·)/\(∀x,x∈V↔En (BO Es) id x)/\Q=[bR s most Es,sl (BM p) c 41 1 V.length (Bg V)]):=by
 refine eF (p:=bR s most Es) uK (fun _ h=>dR h) (fun hD=>?_);have hw:=hD.1;have hV:=bQ Es;have hH:Fy E.P 140=true:=hE.f oK;refine bO (hE.fn Tryz.func106) O O O (fun R=>?_);simp only[dS,uV,uW];refine Cw ?_;refine uU (dA (hE.t O) (fun b6=>?_));refine Bz ?_;refine uU (jS .i64 (fun hB=>?_));refine uU ?_;apply XD (kt:=41) (et:=4) hE.uu hE.uu O O O
 ·exact uK
 refine Bv ?_;refine uU (dA (hE.t O) (fun b7=>?_));refine Cw ?_;rw[UG];have f0:[Value.int .i64 (id:Nat)][0]?=some (BK id):=rfl;refine mV 2 ?_;refine Dv ?_;refine BH (qWj (x:=id) hE h2 oO) O ?_;refine Bu ?_;refine jM (fU (t:=41) (sz:=1)) ?_;refine uU ?_;apply Xf (hx:=O) (ha:=O) (hf:=hH)
 ·exact qRa (b6:=b6) (b7:=b7) (bm:=hB) (z:=id) (p:=none) (c:=0) (S:=[]) hE h1 (av _)
 ·exact uK
 rintro _ _⟨rfl,p0,c0,rfl⟩;rw[if_neg (kw),jw];simp only[uV,uW];refine Nz ?_;refine dX (fun x:TG=>[(0,uPt s),(6,uPt b6),(8,.func (.func 140) #[] ⟨[uPt b7,uPt b6]⟩),(11,BK (x.i))]) (fun x=>[bR s most Es,cells b7 [.map (some hB)] 169,cells b6 [.slice x.p x.S.length x.c] 32,Bn hB .i64 (sF (0::x.S)),sl x.p x.c 41 1 x.S.length (Bg x.S),R]) (fun x=>Es.length-x.i) (fun x=>Fb (BO Es) id x.i x.S) ⟨0,0,[id],p0,c0⟩ (Fb.start h1 oO) BC uI ?_;rintro⟨i,_,S,p,c⟩hI;simp only at hI ⊢;have hJ:=hI.len;have hN:=hI.ib;refine Bu ?_;refine bE O (fun e2=>?_) (fun e2=>?_)
 ·have hK:i<S.length:=oO;obtain⟨x,hx⟩:∃x,S[i]?=some x:=⟨_,ag hK⟩;have hW:=(hI.rch x (ak hx)).le;obtain⟨n,rfl⟩:∃n,x=n+1:=⟨x-1,oO⟩;obtain⟨y,hy⟩:∃y,Es[n]?=some y:=BG;have hF:(BO Es)[n+1-1]?=some y.r:=by rw[fu];exact tX hy
  have hX:(BZ y.r).length<=2:=by cases y.r<;>simp[BZ]
  refine iO (p:=sl p c 41 1 S.length (Bg S)) uK (fun _ h=>eG h oO) ?_;rintro⟨gp,rfl⟩;have f1:=fT hx (((i:Nat):Int).toNat) oO;have f2:=fT hx (0+((i:Nat):Int).toNat) oO;refine Bo ?_;refine BH (kF hE hy) O ?_;refine CG ?_;refine uU (dA (hE.t O) (fun hY=>?_));refine CY ?_;refine uX (Uv hE y.r) O ?_;rintro _ _⟨pk,ck,rfl,rfl⟩;simp only[uV,uW];refine Bw ?_;refine iO (p:=sl pk ck 41 1 (BZ y.r).length (Bg (BZ y.r))) uK (fun _ h=>fun hG=>eG h hG) ?_;intro hO;clear f1 f2 hK hJ hN e2
  refine dX (fun x:TG=>[(0,uPt s),(6,uPt b6),(8,.func (.func 140) #[] ⟨[uPt b7,uPt b6]⟩),(11,BK i),(56,.slice pk (BZ y.r).length ck),(57,BK ((BZ y.r).length)),(58,BK (x.j))]) (fun x=>[bR s most Es,cells b7 [.map (some hB)] 169,cells b6 [.slice x.p x.S.length x.c] 32,Bn hB .i64 (sF (0::x.S)),sl x.p x.c 41 1 x.S.length (Bg x.S),sl pk ck 41 1 (BZ y.r).length (Bg (BZ y.r)),R]) (fun x=>(BZ y.r).length-x.j)
   (fun x=>x.j<=(BZ y.r).length/\Fb (BO Es) id i x.S/\x.S[i]?=some (n+1)/\∀t k,t<x.j->(BZ y.r)[t]?=some k->k∈x.S) ⟨0,0,S,some ⟨gp,0,none⟩,c⟩ ⟨av _,hI,hx,fun t k h=>absurd h (Nat.not_lt_zero _)⟩ BC uI ?_
  clear hI hx;rintro⟨_,j,S,p,c⟩⟨hj,hI,hx,hA⟩;simp only at hj hI hx hA ⊢;have hJ:=hI.len;refine CB ?_;refine bE O (fun e3=>?_) (fun e3=>?_)
  ·have hP:j<(BZ y.r).length:=oO;obtain⟨gk,rfl⟩:=hO oO;obtain⟨z,hz⟩:∃z,(BZ y.r)[j]?=some z:=⟨_,ag hP⟩;have hL:=ak hz;have hQ:=(kH (hw.ok _ _ hF) z hL).1;have f1:=fT hz (((j:Nat):Int).toNat) oO;refine CU ?_;refine uU ?_;apply Xf (hx:=O) (ha:=O) (hf:=hH)
   ·exact qRa (b6:=b6) (b7:=b7) (bm:=hB) (z:=z) (p:=p) (c:=c) (S:=S) hE hQ oO
   ·exact uK
   rintro _ _⟨rfl,p1,c1,rfl⟩;simp only[uV,uW];by_cases hC:z∈S
   ·rw[if_pos hC];refine Bi ?_;refine bS (ι:=TG) (j:=⟨0,j+1,S,p1,c1⟩) ⟨BD,hI,hx,fun t k ht hk=>?_⟩ BD ⟨rfl,rfl,rfl,rfl,rfl,rfl,au some (bW BD),trivial⟩ uI;rcases fw t j with h| h
    ·exact hA t k h hk
    obtain rfl:t=j:=by simp only at ht;omega
    rw[hz]at hk;cases hk
    exact hC
   rw[if_neg hC];have hR:=hI.more hw (ak hx) hF hL hC;refine Bi ?_;refine bS (ι:=TG) (j:=⟨0,j+1,S++[z],p1,c1⟩) ⟨BD,hR,by simp only;rw[aj (ae.1 hx).1];exact hx,fun t k ht hk=>?_⟩ BD ⟨rfl,rfl,rfl,rfl,rfl,rfl,au some (bW BD),trivial⟩ uI;rcases fw t j with h| h
   ·exact cu _ (hA t k h hk)
   obtain rfl:t=j:=by simp only at ht;omega
   rw[hz]at hk;cases hk
   simp
  have hZ:=(ae.1 hx).1;refine Bo ?_
  refine bS (ι:=TG) (j:=⟨i+1,0,S,p,c⟩) (hI.next hx hF fun k hk=>by
   obtain⟨t,ht⟩:=mf hk;exact hA t k (by have:=(ae.1 ht).1;omega) ht) (by have:=(ae.1 hx).1;simp only;omega) ⟨rfl,rfl,rfl,au some (bW BD),trivial⟩ uI
 obtain rfl:i=S.length:=by omega
 have hS:0<S.length:=(ae.1 hI.hd).1;refine iO (p:=sl p c 41 1 S.length (Bg S)) uK (fun _ h=>eG h hS) ?_;rintro⟨gp,rfl⟩;refine Br ?_;refine uX (qGi (l:=S) hE oO) O ?_;rintro _ _⟨V,rfl,hT,hM,hU,rfl⟩;rw[<-hT];simp only[uV,uW];refine Bc ?_;exact uZ O (.tmp O (.tmp O .nil)) ⟨gp,c,V,O,hM.nodup_iff.2 hI.nd,hU,fun x=>hM.mem_iff.trans (hI.all x),O⟩
end
section
variable {E:Bp}{Es:List Bj}{s most bm:Nat}{f:Int->Option Value}
def En.ev {L}(hw:Wf L){n x}(h:En L n x):Ev L n->Ev L x:=by
 induction h with
 |self _=>exact id
 |kid hr hk hx ih=>
  intro he
  refine ih ?_
  rcases he.rule hw with⟨b,hg,h0⟩|⟨l,r,hg,h1,h2,h3,h4,el,er,_⟩
  ·rw[hr]at hg
   cases hg
   simp[BZ]at hk
  rw[hr]at hg
  cases hg
  simp[BZ]at hk
  rcases hk with rfl|rfl<;>assumption
def En.le2 {L}(hw:Wf L){n x}(h:En L n x):x<=n:=by
 induction h with
 |self _=>exact ai _
 |kid hr hk hx ih=>
  have:=kH (hw.ok _ _ hr) _ hk
  omega
def En.power {L j x a k}(hg:L[j]?=some (.power a k))(h:En L (j+1) x):x=j+1\/En L a x:=by
 cases h with
 |self _=>exact .inl rfl
 |kid hr hk hx=>
  rw[hg]at hr
  cases hr
  simp[BZ]at hk
  subst hk
  exact .inr hx
def Pw (L:List Rl)(id a k:Nat)(t:List UInt8):Prop:=Be L id (Eg.rep k t)\/∃j,id=j+1/\L[j]?=some (.power a k)/\Be L a t/\2<=k
def qXb (hE:BP E){a k t}(ha:Be (BO Es) a t)(hk:k<=1000)(hl:t.length<=400)(hA:Es.length<most):
  Ct E 65 [uPt s,BK a,BK k] [bR s most Es]
   (fun v Q=>∃(M:List Bj)(id:Nat),v= .tuple #[BK id,.nilIface]/\M.length<=1/\Pw (BO (Es++M)) id a k t/\Q=[bR s most (Es++M)]):=by
 have hB:=ha.le;rcases fw k 2 with hk2|hk2
 ·refine bO (hE.fn Tryz.func65) O O O (fun R=>?_);simp only[dS,uV,uW];refine DW ?_;refine BH (xY (i:=a) hE hB) O ?_;refine Bu ?_;refine bE O (fun g0=>?_) (fun g0=>?_)
  ·exfalso;omega
  refine Br ?_;refine dV 30 O (fun g1=>?_) (fun g1=>?_)
  ·obtain rfl:k=0:=by omega
   refine CU ?_;apply cK
   ·rfl
   ·(apply Rs.tmp rfl;apply Rs.tmp rfl;exact Rs.nil)
   ·exact⟨[],0,O,av _,.inl (Be.zero _),O⟩
   rw[ax];exact uI
  obtain rfl:k=1:=by omega
  refine Bi ?_;refine bE O (fun g2=>?_) (fun g2=>?_)
  ·obtain rfl:a=0:=by omega
   have ht:=ha.tx;rw[jI]at ht;subst ht;refine Br ?_;apply cK
   ·rfl
   ·(apply Rs.tmp rfl;apply Rs.tmp rfl;exact Rs.nil)
   ·exact⟨[],0,O,av _,.inl (by rw[Eg.rep_one];exact Be.zero _),O⟩
   rw[ax];exact uI
  refine Ci ?_;apply cK
  ·rfl
  ·(apply Rs.tmp rfl;apply Rs.tmp rfl;exact Rs.nil)
  ·exact⟨[],a,O,av _,.inl (by rw[Eg.rep_one,ax];exact ha),O⟩
  rw[ax];exact uI
 rcases jo a with rfl|ha0
 ·have ht:=ha.tx;rw[jI]at ht;subst ht;have hG:Eg.rep k ([]:List UInt8)=[]:=dw (by rw[Eg.rep_length];simp);refine bO (hE.fn Tryz.func65) O O O (fun R=>?_);simp only[dS,uV,uW];refine DW ?_;refine BH (xY (i:=0) hE hB) O ?_;refine Bu ?_;refine bE O (fun g0=>?_) (fun g0=>?_)
  ·exfalso;omega
  refine Br ?_;refine dV 30 O (fun g1=>?_) (fun g1=>?_)
  ·exfalso;omega
  refine CX ?_;apply cK
  ·rfl
  ·(apply Rs.tmp rfl;apply Rs.tmp rfl;exact Rs.nil)
  ·exact⟨[],0,O,av _,.inl (by rw[hG];exact Be.zero _),O⟩
  rw[ax];exact uI
 obtain⟨i,rfl⟩:∃i,a=i+1:=⟨a-1,oO⟩;obtain⟨xl,hF⟩:∃x,Es[i]?=some x:=⟨_,ag hB⟩;refine eF (p:=bR s most Es) uK (fun _ h=>dR h) (fun hC=>?_);have hH:xl.t=t:=by rw[hC.2.1 _ _ hF,ha.tx]
 have hD:t.length*k<=400*1000:=zl hl hk;refine(Xc (s:=s) (most:=most) hE hF hk2 (by rw[hH];exact jv hD (by decide)) hA).mono fun v Q=>?_
 rintro⟨M,id,rfl,hM,hI,hr,rfl⟩;refine⟨M,id,O,hM,.inr ⟨id-1,oO,hr,ha.more M,hk2⟩,O⟩
def qWf (hE:BP E){x}(hx:Ev (BO Es) x):Ct E 107 [uPt s,BK x,.map (some bm)] [bR s most Es,Bn bm .i64 f] (fun v Q=>v= .tuple #[BK x,.nilIface]/\Q=[bR s most Es,Bn bm .i64 f]):=by
 have hA:=hx.le;rw[bQ]at hA;refine bO (hE.fn Tryz.func107) O O O (fun R=>?_);simp only[dS,uV,uW];refine Bc ?_;refine BH (mE hE hA) O ?_;rw[hx.ev];refine RD ?_;exact uZ O (.tmp O (.tmp O .nil)) ⟨O,O⟩
def qWg (hE:BP E){j a k t}(hg:(BO Es)[j]?=some (.power a k))(ha:Be (BO Es) a t)(hf:f (a:Nat)=some (BK a))(hK:2<=k)(hk:k<=1000)(hl:k*t.length<=400)(hA:Es.length+146*k<=most):
  Ct E 107 [uPt s,BL ((j+1:Nat):Int),.map (some bm)] [bR s most Es,Bn bm .i64 f]
   (fun v Q=>∃(M:List Bj)(id:Nat),v= .tuple #[BK id,.nilIface]/\M.length<=146*k/\Be (BO (Es++M)) id (Eg.rep k t)/\Q=[bR s most (Es++M),Bn bm .i64 f]):=by
 refine eF (p:=bR s most Es) uK (fun _ h=>dR h) (fun hC=>?_);obtain⟨en,hB,hD⟩:=yZ hg;have hF:=(ae.1 hB).1;have hG:Fs (BO Es) (j+1)=false:=by unfold Fs;rw[pG hg (hC.1.ok _ _ hg)]
 have hH:E.P.underlying 116=some (.map 41 41):=hE.uu;have hI:E.P.underlying 41=some (.int .i64):=hE.uu;have hJ:∀w,(zeroValue 41).run E.P w= .ok (BL 0) w:=hE.zz;refine bO (hE.fn Tryz.func107) O O O (fun R=>?_);simp only[dS,uV,uW];refine Bc ?_;refine BH (mE (x:=j+1) hE hF) O ?_;rw[hG];refine Hy ?_;refine BH (kF hE hB) O ?_;rw[hD];refine CG ?_;refine uU (dA (hE.t O) (fun hL=>?_));refine Hw ?_;refine uB (lY hH hI hJ O O uK hf) ?_;refine BU 38 (BK a) O O ?_;refine CL ?_;refine uX (qGf (most:=most) hE ha oO oO hl hA) O ?_;rintro _ _⟨M,id,rfl,hM,hb,rfl⟩;simp only[uV,uW];refine Br ?_;exact uZ O (.tmp O (.tmp O .nil)) ⟨M,id,O,hM,hb,O⟩
structure Qd where
 k:Nat
 M:List Bj
 f:Int->Option Value
def Qt (hE:BP E){id a kk:Nat}{t:List UInt8}(hS:Pw (BO Es) id a kk t)(hk:kk<=1000)(hl:kk*t.length<=400)(hB:Es.length+146*kk<=most)(hT:Es.length<65536):
  Ct E 66 [uPt s,.int .i64 (id:Nat)] [bR s most Es] (Pn s most Es (Eg.rep kk t) (146*kk)):=by
 refine eF (p:=bR s most Es) uK (fun _ h=>dR h) (fun hG=>?_);have hw:=hG.1;rcases hS with hH|⟨j,rfl,hg,ha,hU⟩
 ·refine bO (hE.fn Tryz.func66) O O O (fun R=>?_);simp only[dS,uV,uW];refine Bc ?_;refine BH (mE hE hH.le) O ?_;rw[hH.ev.ev];refine RD ?_;apply cK
  ·rfl
  ·(apply Rs.tmp rfl;apply Rs.tmp rfl;exact Rs.nil)
  ·exact⟨[],id,O,av _,by rw[ax];exact hH,rfl⟩
  rw[ax];exact uI
 have hJ:=(ae.1 hg).1;rw[bQ]at hJ;have hP:=hw.ok _ _ hg;have hV:Fs (BO Es) (j+1)=false:=by unfold Fs;rw[pG hg hP]
 simp only[Rl.ok]at hP;have hW:E.P.underlying 116=some (.map 41 41):=hE.uu;have hX:E.P.underlying 41=some (.int .i64):=hE.uu;have hY:∀w,(zeroValue 41).run E.P w= .ok (.int .i64 0) w:=hE.zz;refine bO (hE.fn Tryz.func66) O O O (fun R=>?_);simp only[dS,uV,uW];refine Bc ?_;refine BH (mE (x:=j+1) hE hJ) O ?_;rw[hV];refine Hy ?_;refine uU (aU (hE.t O) (hE.t O) O O O (fun hZ=>?_));refine uX (Ji (id:=j+1) (g:=hZ) hE oO hJ hT) O ?_;rintro _ _⟨p,c,V,rfl,hQ,hc,hC,rfl⟩;simp only[uV,uW];have hK:∀x∈V,x<=j+1:=fun x hx=>((hC x).1 hx).le2 hw
 have hd:j+1∈V:=(hC _).2 (.self (by rw[bQ];omega))
 have he:a∈V:=(hC _).2 (.kid (k:=a) (x:=a) hg (by simp[BZ]) (by
  obtain⟨n,rfl⟩:∃n,a=n+1:=⟨a-1,oO⟩;exact .self (by rw[bQ];omega)))
 have hL:∀x∈V,x≠j+1->Ev (BO Es) x:=fun x hx hR=>(((hC x).1 hx).power hg).elim (fun e=>absurd e hR) fun h=>h.ev hw ha.ev
 have hA:∀k,V[k]?=some (j+1)->k+1=V.length:=fun k hk=>by
  have hD:=(ae.1 hk).1;refine Classical.byContradiction fun hR=>?_
  obtain⟨y,hy⟩:∃y,V[k+1]?=some y:=BG;have h1:=uo.1 hc k (k+1) hD oO oO;rw[ag hD]at hk;rw[ag oO]at hy;have hp:=oH hk;have h2:=hK _ (AR (by omega:k+1<V.length));have h3:=uo.1 (oo.1 hQ) k (k+1) hD oO oO;omega
 have hq:V.length<=Es.length:=by
  have:=DU.len (L:=BO Es) (acc:=V) ⟨hQ,fun x hx=>((hC x).1 hx).le⟩;rwa [bQ]at this
 refine DW ?_;refine uU (qGx .i64 (kt:=41) (et:=41) hE.uu O (fun hF=>?_));refine Bq ?_
 refine dX (fun q:Qd=>[(0,uPt s),(1,.int .i64 ((j+1:Nat):Int)),(9,.map (some hF)),(36,.slice (some ⟨p,0,none⟩) V.length c),(37,.int .i64 (V.length:Nat)),(38,.int .i64 (q.k:Nat))]) (fun q=>[bR s most (Es++q.M),Bn hF .i64 q.f,sl (some ⟨p,0,none⟩) c 41 1 V.length (Bg V),R]) (fun q=>V.length-q.k)
  (fun q=>q.k<=V.length/\(((∀i x,i<q.k->V[i]?=some x->x≠j+1/\q.f (x:Nat)=some (.int .i64 (x:Nat)))/\q.M=[])\/(q.k=V.length/\∃y:Nat,q.f ((j+1:Nat):Int)=some (.int .i64 (y:Nat))/\Be (BO (Es++q.M)) y (Eg.rep kk t)/\q.M.length<=146*kk))) ⟨0,[],fun _=>none⟩ ⟨av _,.inl ⟨fun i x h=>absurd h (Nat.not_lt_zero _),rfl⟩⟩ BC ?_ ?_
 ·rw[ax];exact uI
 rintro⟨k,M,f⟩⟨hD,hI⟩;simp only at hD hI ⊢;refine CB ?_;refine bE O (fun h1=>?_) (fun h1=>?_)
 ·have hN:k<V.length:=oO;rcases hI with⟨hI,rfl⟩|⟨hI,_⟩
  ·obtain⟨x,hx⟩:∃x,V[k]?=some x:=⟨_,ag hN⟩;have hf:=ak hx;have f0:=fT hx (((k:Nat):Int).toNat) oO;rw[ax];by_cases hO:x=j+1
   ·subst hO;have hh:=hA k hx
    have hj:f (a:Nat)=some (.int .i64 (a:Nat)):=by
     obtain⟨i,hi⟩:=mf he;have hr:=(ae.1 hi).1;refine(hI i a ?_ hi).2;refine Classical.byContradiction fun hn=>?_
     obtain rfl:i=k:=by omega
     rw[hx]at hi;cases hi
     omega
    refine Cw ?_;refine uX (qWg (f:=f) (bm:=hF) (most:=most) hE hg ha hj hU hk hl hB) O ?_;rintro _ _⟨M,y,rfl,hM,hb,rfl⟩;simp only[uV,uW];refine CG ?_;refine uU ?_;apply lS (kt:=41) (et:=41) hE.uu hE.uu O O O
    ·exact uK
    refine CY ?_;refine bS (ι:=Qd) (j:=⟨k+1,M,DD f ((j+1:Nat):Int) (.int .i64 (y:Nat))⟩) ⟨BD,.inr ⟨hh,y,if_pos rfl,hb,hM⟩⟩ BD ⟨rfl,rfl,rfl,rfl,rfl,au some (bW BD),trivial⟩ uI
   refine Cw ?_;refine BH (qWf (f:=f) (bm:=hF) hE (hL x hf hO)) O ?_;refine CG ?_;refine uU ?_;apply lS (kt:=41) (et:=41) hE.uu hE.uu O O O
   ·exact uK
   refine CY ?_;refine bS (ι:=Qd) (j:=⟨k+1,[],DD f (x:Nat) (.int .i64 (x:Nat))⟩) ⟨BD,.inl ⟨fun i y hi hy=>?_,rfl⟩⟩ BD ⟨rfl,rfl,rfl,rfl,rfl,au some (bW BD),trivial⟩ ?_
   ·simp only at hi ⊢;rcases fw i k with h| h
    ·obtain⟨g1,g2⟩:=hI i y h hy;refine⟨g1,?_⟩;unfold DD;by_cases e:(y:Int)=(x:Int)
     ·rw[if_pos e,e]
     rw[if_neg e];exact g2
    obtain rfl:i=k:=by omega
    rw[hx]at hy;cases hy
    exact⟨hO,if_pos O⟩
   rw[ax];exact uI
  exfalso;omega
 obtain rfl:k=V.length:=by omega
 rcases hI with⟨hI,_⟩|⟨_,y,hm,ho,hM⟩
 ·exfalso;obtain⟨i,hi⟩:=mf hd;exact(hI i _ (ae.1 hi).1 hi).1 O
 refine Bu ?_;refine uB (lY hW hX hY O O uK hm) ?_;refine Bw ?_;exact uZ O (.tmp O (.tmp O .nil)) ⟨M,y,O,hM,ho,O⟩
end
