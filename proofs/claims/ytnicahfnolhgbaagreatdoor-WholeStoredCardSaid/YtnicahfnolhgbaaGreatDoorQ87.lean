import Derived.Test.YtnicahfnolhgbaaGreatDoorQ86
set_option linter.all false
set_option maxHeartbeats 1000000
namespace Go.Proofs.YtnicahfnolhgbaaGreatDoor
open Go Go.RowKit Sl Eg
set_option maxRecDepth 10000
section
variable {E:Bp}
def Uq:EY:=⟨0,0,0,0,0,[97,98]⟩
def Ur:EY:=⟨1,0,0,0,0,[]⟩
def Us:EY:=⟨3,1,0,1,2,[]⟩
def Tf:DY [] ([Uq,Ur,Us].take 30)=[[97,98],[97,98,97,98],[98,97]]:=by rfl
def Tc:∀x∈[Uq,Ur,Us],x.ok:=fun x hx=>by
 simp only[di,kw,or_false]at hx;rcases hx with rfl|rfl|rfl<;>exact⟨by decide,by decide,by decide,by decide,by decide⟩
def qXh (hE:BP E):Ct E 4 [] [] (fun v Q=>v= .bool true/\Q=[]):=by
 refine bO (hE.fn Tryz.func4) O O O (fun R=>?_);simp only[dS,uV,uW];refine Bc ?_;refine uU (aU (hE.t O) (hE.t O) O O O (fun hA=>?_));refine uX (Jm (l:=[Uq,Ur,Us]) (a:=some ⟨hA,0,none⟩) (c:=3) (q:=cells hA (Fj [Uq,Ur,Us]) 61) hE (fun _=>⟨hA,0,O,VG (fun _ _ h=>h)⟩) (bz O) Tc) O ?_;rintro _ _⟨s,M,ids,p1,p2,c1,c2,rfl,hM,hB,rfl⟩;rw[Tf]at hB ⊢;obtain⟨id,hD,hC⟩:=hB.at (i:=2) (t:=[98,97]) rfl;refine lQ (p:=sl p1 c1 41 1 3 (Bg ids)) uK (fun _ h=>eG h oO) ?_;rintro⟨g1,rfl⟩;refine lQ (p:=sl p2 c2 9 1 3 (Gv [[97,98],[97,98,97,98],[98,97]])) uK (fun _ h=>eG h oO) ?_;rintro⟨g2,rfl⟩;have f2:(Gv [[97,98],[97,98,97,98],[98,97]])[((2:Int)).toNat]?=some (BN [98,97]):=rfl;have h3:([[97,98],[97,98,97,98],[98,97]]:List (List UInt8)).length=3:=rfl;have f1:=fT hD ((2:Int)).toNat O;simp only[uV,uW];refine EK ?_;refine BU 24 (.bool false) O O ?_;refine Bo ?_;refine CW 29 (.bool false) O O ?_;refine Bu ?_;refine BH (sO (x:=id) hE hC.le) O ?_;refine CG ?_;refine uU (dA (hE.t O) (fun b5=>?_));refine Bu ?_;have hF:(txt (BO M) id).length=2:=hC.len;refine Bo ?_;exact uZ O (.tmp O .nil) ⟨au Value.bool (oI oO),O⟩
end
section
variable {E:Bp}{Es:List Bj}{pp tb s most m bm:Nat}{f:Int->Option Value}
def DF.sn {L x y}(h:DF L x y):Sn L (txt L x) y:=⟨h.2.2.2,h.2.1,h.2.2.1⟩
def Sn.of {L x y t}(h:Sn L t y)(hx:x<=L.length)(ht:txt L x=t):DF L x y:=⟨hx,by rw[h.tx,ht],h.gd,by rw[ht];exact h.sg⟩
def qWx (hE:BP E)(hB:Ca E.w0){i en}(hA:Es[i]?=some en)(hl:len (BO Es) (i+1)<=400)(hK:256<len (BO Es) (i+1))(hH:Es.length+400<=most)(hk:Kn (BO Es) f){l r}(hr:en.r= .pair l r):
  Ct E 142 [uPt m,BL ((i+1:Nat):Int)] [cells pp [uPt s,uPt tb] 122,BV tb s (BO Es),bR s most Es,cells m [uPt pp,.map (some bm)] 118,Bn bm .i64 f]
   (fun v Q=>(∃z:Nat,(z=l\/z=r)/\f (z:Nat)=none/\v= .tuple #[BK z,.nilIface]/\Q=[cells pp [uPt s,uPt tb] 122,BV tb s (BO Es),bR s most Es,cells m [uPt pp,.map (some bm)] 118,Bn bm .i64 f])\/
    ∃M y,v= .tuple #[BL 0,.nilIface]/\M.length<=400/\DF (BO (Es++M)) (i+1) y/\Q=[cells pp [uPt s,uPt tb] 122,BV tb s (BO (Es++M)),bR s most (Es++M),cells m [uPt pp,.map (some bm)] 118,Bn bm .i64 (DD f ((i+1:Nat):Int) (BK y))]):=by
 refine eF (p:=bR s most Es) uK (fun _ h=>dR h) (fun hC=>?_);have hQ:i<Es.length:=(ae.1 hA).1;have hL:=hC.2.1 i en hA;have hR:en.t.length=len (BO Es) (i+1):=by rw[hL];rfl
 have hg:(BO Es)[i]?=some (.pair l r):=by rw[tX hA,hr]
 have hI:=hC.1.ok _ _ hg;have hJ:=iK hg hI;obtain⟨hS,hT,hU,hV⟩:=hI;have hW:len (BO Es) (i+1)=len (BO Es) l+len (BO Es) r:=by unfold len;rw[hJ,aa]
 have hD:E.P.underlying 116=some (.map 41 41):=hE.uu;have hF:E.P.underlying 41=some (.int .i64):=hE.uu;have hG:∀w,(zeroValue 41).run E.P w= .ok (BL 0) w:=hE.zz;refine bO (hE.fn Tryz.func142) O O O (fun R=>?_);simp only[dS,uV,uW];refine Bq ?_;refine BH (kC hE) O ?_;refine Bi ?_;refine BH (qM hE hA) O ?_;refine CG ?_;refine uU (dA (hE.t O) (fun b7=>?_));refine Df ?_;refine bE O (fun h=>?_) (fun h=>?_)
 ·exfalso;omega
 refine CB ?_;refine BH (kF hE hA) O ?_;rw[hr];refine CG ?_;refine uU (dA (hE.t O) (fun hX=>?_));refine Df ?_;rcases hfl:f (l:Nat)with _|v0
 ·refine uB (lY hD hF hG O O uK hfl) ?_;refine EK ?_;exact uZ O (.tmp O (.tmp O .nil)) (.inl ⟨l,.inl O,hfl,O,O⟩)
 obtain⟨y1,rfl,hN⟩:=hk.at hfl;refine uB (lY hD hF hG O O uK hfl) ?_;refine TV ?_;rcases hfr:f (r:Nat)with _|v1
 ·refine uB (lY hD hF hG O O uK hfr) ?_;refine EK ?_;exact uZ O (.tmp O (.tmp O .nil)) (.inl ⟨r,.inr O,hfr,O,O⟩)
 obtain⟨y2,rfl,hO⟩:=hk.at hfr;refine uB (lY hD hF hG O O uK hfr) ?_;refine EK ?_;have e1:(txt (BO Es) l).length=len (BO Es) l:=rfl;have e2:(txt (BO Es) r).length=len (BO Es) r:=rfl;refine uX (NZ (Es:=Es) (s:=s) (most:=most) (tb:=tb) (pp:=pp) hE hB hN.sn hO.sn oO oO) O ?_;rintro _ _⟨M,id,rfl,hM,hP,_,rfl⟩;simp only[uV,uW];refine CP ?_;refine BH (ZY (f:=f) (m:=m) (pp:=pp) (bm:=bm) (x:=i+1) (y:=id) hE) O ?_;refine Bw ?_;exact uZ O (.tmp O (.tmp O .nil)) (.inr ⟨M,id,O,oO,hP.of (by rw[bQ,aa];omega) (by rw[dB,jX _ (by rw[bQ];omega),hJ]),O⟩)
end
section
variable {E:Bp}{Es:List Bj}{pp tb s most m bm:Nat}{f:Int->Option Value}
def Kf (f:Int->Option Value)(x:Nat):Bool:=(f (x:Nat)).isSome
def GK (f:Int->Option Value)(y:Nat)(v:Value)(x:Nat):Kf (DD f (y:Nat) v) x=(Kf f x||x==y):=by
 unfold Kf DD;by_cases h:x=y
 ·subst h;simp
 have h':¬((x:Nat):Int)=(y:Nat):=oO;simp[h',h]
structure Pp where
 ids:List Nat
 M:List Bj
 f:Int->Option Value
 g:Nat
 c:Nat
structure OcI (Es:List Bj)(f0:Int->Option Value)(x0:Nat)(q:Pp):Prop where
 chn:FW (BO Es) (Kf q.f) 13 q.ids
 hd:∀z,q.ids.head?=some z->z=x0
 nil:q.ids=[]->Kf q.f x0=true
 TP:q.M.length+rem (BO Es) (Kf q.f) 13 x0<=rem (BO Es) (Kf f0) 13 x0
 kn:Kn (BO (Es++q.M)) q.f
 mono:∀z,Kf f0 z=true->Kf q.f z=true
def Ob (q:Pp):Nat:=match q.ids.getLast? with
 |none=>0
 |some y=>if Kf q.f y=true then 42-q.ids.length else 40-q.ids.length
def TD (Es:List Bj)(x0:Nat)(q:Pp):Nat:=80*rem (BO Es) (Kf q.f) 13 x0+Ob q
def nC {st y M}{f:Int->Option Value}{g c}:Ob ⟨st++[y],M,f,g,c⟩=if Kf f y=true then 41-st.length else 39-st.length:=by
 unfold Ob;simp only[yw,List.getLast?_singleton,Option.some_or,aa,bf];split <;>omega
def LK {M}{f:Int->Option Value}{g c}:Ob ⟨[],M,f,g,c⟩=0:=rfl
def MJ {st y}:(Bg (st++[y])).take (st.length*1)=Bg st:=by
 have h:(Bg st).length=st.length:=by simp[Bg]
 rw[oV,iF,<-h,xe]
def qWi (hE:BP E)(hB:Ca E.w0){x}(hx:Ev (BO Es) x)(hl:len (BO Es) x<=400)(hc:Es.length+rem (BO Es) (Kf f) 13 x<=most)(hk:Kn (BO Es) f):
  Ct E 108 [uPt m,BK x] [cells pp [uPt s,uPt tb] 122,BV tb s (BO Es),bR s most Es,cells m [uPt pp,.map (some bm)] 118,Bn bm .i64 f]
   (fun v Q=>∃M f' y,v= .tuple #[BK y,.nilIface]/\M.length+rem (BO Es) (Kf f') 13 x<=rem (BO Es) (Kf f) 13 x/\(∀z,Kf f z=true->Kf f' z=true)/\Kn (BO (Es++M)) f'/\DF (BO (Es++M)) x y/\Q=[cells pp [uPt s,uPt tb] 122,BV tb s (BO (Es++M)),bR s most (Es++M),cells m [uPt pp,.map (some bm)] 118,Bn bm .i64 f']):=by
 refine eF (p:=bR s most Es) uK (fun _ h=>dR h) (fun hT=>?_);have hw:=hT.1;have h4:fJ=1048576:=rfl;have hi:=hx.le;rw[bQ]at hi;refine bO (hE.fn Tryz.func108) O O O (fun R=>?_);simp only[dS,uV,uW];refine DW ?_;refine BH (kC hE) O ?_;refine CU ?_;refine dV 25 O (fun h1=>?_) (fun h1=>?_)
 ·exfalso;omega
 refine Bo ?_;refine BH (kC hE) O ?_;refine Bv ?_;refine BH (Rf hE) O ?_;refine Bw ?_;refine bE O (fun h2=>?_) (fun h2=>?_)
 ·exfalso;omega
 refine Bu ?_;refine bE O (fun h3=>?_) (fun h3=>?_)
 ·obtain rfl:x=0:=by omega
  refine Br ?_;apply cK
  ·rfl
  ·(apply Rs.tmp rfl;apply Rs.tmp rfl;exact Rs.nil)
  ·exact⟨[],f,0,O,by simp,fun z h=>h,by rw[ax];exact hk,DF.zero _,rfl⟩
  rw[ax];exact uI
 have hU:=hx.dep_le hw hl;have f0:(Bg [x])[0]?=some (BK x):=rfl;have hV:E.P.underlying 116=some (.map 41 41):=hE.uu;have hW:E.P.underlying 41=some (.int .i64):=hE.uu;have hX:∀w,(zeroValue 41).run E.P w= .ok (BL 0) w:=hE.zz;refine Bw ?_;refine uU (aU (hE.t O) (hE.t O) O O O (fun hY=>?_));refine Bw ?_;refine fF (cO (p:=cells hY [BK x] 41) (p':=sl (BM hY) 1 41 1 1 (Bg [x])) uK (gU O (by unfold maxLen;omega))) ?_
 refine dX (fun q:Pp=>[(0,uPt m),(1,BK x),(6,.slice (BM q.g) q.ids.length q.c)]) (fun q=>[cells pp [uPt s,uPt tb] 122,BV tb s (BO (Es++q.M)),bR s most (Es++q.M),cells m [uPt pp,.map (some bm)] 118,Bn bm .i64 q.f,sl (BM q.g) q.c 41 1 q.ids.length (Bg q.ids),R])
  (TD Es x) (OcI Es f x) ⟨[x],[],f,hY,1⟩ ⟨⟨hx,oO,hU,fun y hy=>(by cases hy),trivial⟩,fun z hz=>(by cases hz;rfl),fun h=>(by cases h),by simp,by rw[ax];exact hk,fun z h=>h⟩ BC ?_ ?_
 ·rw[ax];exact uI
 rintro⟨ids,M,f',g,c⟩hI;have h5:=hI;obtain⟨hA,hF,hP,hD,hJ,hC⟩:=hI;simp only at hA hF hP hD hJ hC ⊢;have h6:(Es++M).length=Es.length+M.length:=aa;have hj:=hA.cnt;rcases bq ids with rfl|⟨st,y,rfl⟩
 ·refine Br ?_;refine bE O (fun h=>?_) (fun h=>?_)
  ·exfalso;simp at h
  have hm:=hP O;obtain⟨v,hL⟩:∃v,f' (x:Nat)=some v:=vo.1 hm;obtain⟨y,rfl,hM⟩:=hJ.at hL;refine Bq ?_;refine uB (lY hV hW hX O O uK hL) ?_;refine Bw ?_;exact uZ O (.tmp O (.tmp O .nil)) ⟨M,f',y,O,hD,hC,hJ,hM,O⟩
 rw[bu]at*;obtain⟨ey,h7,h8⟩:=hA.top;have hQ:=ey.le;rw[bQ]at hQ;have hd:(st++[y]).length=st.length+1:=by simp
 have hy:(st++[y])[st.length]?=some y:=by simp
 have f1:=fT hy (((st.length:Nat):Int).toNat) oO;have f2:=fT hy (0+((st.length:Nat):Int).toNat) oO;refine iO (p:=sl (BM g) c 41 1 (st++[y]).length (Bg (st++[y]))) uK (fun _ h=>(lX h).1) (fun hn=>?_);refine Br ?_;refine bE O (fun h=>?_) (fun h=>?_)
 ·refine Bu ?_;refine BU 46 (BK st.length) O (bW oO) ?_;refine CP ?_;rcases hL:f' (y:Nat)with _| v
  ·have hG:Kf f' y=false:=by unfold Kf;rw[hL];rfl
   refine uB (lY hV hW hX O O uK hL) ?_;refine Ci ?_;obtain⟨j,rfl⟩:∃j,y=j+1:=⟨y-1,oO⟩;have hH:(Es++M)[j]?=some ((Es++M)[j]'oO):=ag oO;have hK:Es[j]?=some ((Es++M)[j]'oO):=by rw[<-hH,aj oO]
   generalize(Es++M)[j]'oO=en at hH hK;have he:len (BO (Es++M)) (j+1)=len (BO Es) (j+1):=by rw[dB];exact jB _ (by rw[bQ];omega)
   have hf:=hA.cost_le hw hG hF
   have h9:len (BO Es) (j+1)<=400:=by
    obtain⟨z,hz⟩:∃z,(st++[j+1]).head?=some z:=by cases st with |nil=>exact⟨_,rfl⟩|cons p q=>exact⟨_,rfl⟩
    obtain rfl:=hF z hz;exact jv (hA.short hw z hz) hl
   rcases fw 256 (len (BO Es) (j+1))with h256|h256
   ·rcases ey.rule hw with⟨b,hg,h0⟩|⟨l,r,hg,q1,q2,q3,q4,el,er,gA,gE,gO,ht⟩
    ·exfalso;have:len (BO Es) (j+1)=1:=by unfold len;rw[fP hg];rfl
     omega
    have ho:en.r= .pair l r:=by
     have:=tX hK;rw[hg]at this;exact(oH this).symm
    rw[if_neg oO]at hf;refine uX (qWx (most:=most) (s:=s) (tb:=tb) (Es:=Es++M) (f:=f') (m:=m) (pp:=pp) (bm:=bm) hE hB hH oO oO oO hJ ho) O ?_;rintro _ _(⟨z,hz,hp,rfl,rfl⟩|⟨N,id,rfl,hN,hM,rfl⟩)
    ·have hq:1<=z:=(by rcases hz with rfl|rfl<;>omega);have ez:Ev (BO Es) z:=(by rcases hz with rfl|rfl<;>assumption);simp only[uV,uW];refine DL ?_;refine bE O (fun hO=>?_) (fun hO=>?_)
     ·refine CG ?_;refine uU (aU (hE.t O) (hE.t O) O O O (fun gR=>?_));refine uU (BJ (fun hr hs gT hu hZ ha=>?_));refine CG ?_;obtain rfl:hu=Bg (st++[j+1]++[z]):=by rw[ha,iF (st++[j+1])];rfl
      have hh:(st++[j+1]++[z]).length=st.length+2:=by simp
      subst hZ;refine bS (ι:=Pp) (j:=⟨st++[j+1]++[z],M,f',hr,hs⟩) ⟨hA.push hG h256 (by rw[fu];exact hg) oO oO hz ez hq,fun w hS=>hF w (by cases st<;>exact hS),fun h=>by simp at h,hD,hJ,hC⟩ ?_ ⟨rfl,rfl,by simp only[hh,hd];rfl,trivial⟩ ?_
      ·have hv:Kf f' z=false:=by unfold Kf;rw[hp];rfl
       unfold TD;rw[nC,nC,if_neg (by rw[hv];simp),if_neg (by rw[hG];simp)];simp only;omega
      simp only[hh,hd];exact uI
     exfalso;omega
    obtain⟨n1,n2⟩:=hA.learn (GK f' (j+1) (BK id)) hG (.inr ⟨h256,l,r,by rw[fu];exact hg⟩);obtain⟨z0,hO⟩:∃z,(st++[j+1]).head?=some z:=by cases st with |nil=>exact⟨_,rfl⟩|cons p q=>exact⟨_,rfl⟩
    obtain rfl:=hF z0 hO;have n3:=n2 z0 hO;rw[if_neg oO]at n3;simp only[uV,uW];rw[ah]at hM ⊢;refine DL ?_;refine bE O (fun hR=>?_) (fun hR=>?_)
    ·exact absurd O hR
    refine CL ?_;have hb:Kf (DD f' ((j+1:Nat):Int) (BK id)) (j+1)=true:=by rw[GK];simp
    refine bS (ι:=Pp) (j:=⟨st++[j+1],M++N,DD f' ((j+1:Nat):Int) (BK id),g,c⟩) ⟨n1,hF,fun h=>by simp at h,by simp only[aa];omega,?_,fun z hz=>by show Kf _ z=true;rw[GK,hC z hz];rfl⟩ ?_ BC ?_
    ·simp only;have:=(hJ.ext (BO N));rw[<-dB,ah]at this;exact this.set hM
    ·unfold TD;rw[nC,nC,if_pos hb,if_neg (by rw[hG];simp)];simp only;omega
    exact uI
   rw[if_pos h256]at hf;refine uX (Jt (most:=most) (s:=s) (tb:=tb) (Es:=Es++M) (f:=f') (m:=m) (pp:=pp) (bm:=bm) hE hB hH oO oO) O ?_;rintro _ _⟨N,id,rfl,hN,hM,rfl⟩;obtain⟨n1,n2⟩:=hA.learn (GK f' (j+1) (BK id)) hG (.inl h256);obtain⟨z0,hO⟩:∃z,(st++[j+1]).head?=some z:=by cases st with |nil=>exact⟨_,rfl⟩|cons p q=>exact⟨_,rfl⟩
   obtain rfl:=hF z0 hO;have n3:=n2 z0 hO;rw[if_pos h256]at n3;simp only[uV,uW];rw[ah]at hM ⊢;refine DL ?_;refine bE O (fun hR=>?_) (fun hR=>?_)
   ·exact absurd O hR
   refine CL ?_;have hb:Kf (DD f' ((j+1:Nat):Int) (BK id)) (j+1)=true:=by rw[GK];simp
   refine bS (ι:=Pp) (j:=⟨st++[j+1],M++N,DD f' ((j+1:Nat):Int) (BK id),g,c⟩) ⟨n1,hF,fun h=>by simp at h,by simp only[aa];omega,?_,fun z hz=>by show Kf _ z=true;rw[GK,hC z hz];rfl⟩ ?_ BC ?_
   ·simp only;have:=(hJ.ext (BO N));rw[<-dB,ah]at this;exact this.set hM
   ·unfold TD;rw[nC,nC,if_pos hb,if_neg (by rw[hG];simp)];simp only;omega
   exact uI
  have hG:Kf f' y=true:=by unfold Kf;rw[hL];rfl
  refine uB (lY hV hW hX O O uK hL) ?_;refine BU 55 (.tuple #[v,.bool true]) O O ?_;refine Ci ?_;refine uB (gF st.length O O (hE.t O) oO oO) ?_;refine CB ?_;refine bS (ι:=Pp) (j:=⟨st,M,f',g,c⟩) ⟨hA.pop,fun w hS=>hF w (by cases st with |nil=>cases hS|cons p q=>exact hS),fun h=>?_,hD,hJ,hC⟩ ?_ BC ?_
  ·simp only at h;subst h;obtain rfl:=hF y rfl;exact hG
  ·unfold TD;rw[nC,if_pos hG];simp only;rcases bq st with rfl|⟨st',y',rfl⟩
   ·rw[LK];simp
   rw[bu]at*;rw[nC,if_neg (by rw[hA.last];simp)];have:(st'++[y']).length=st'.length+1:=by simp
   omega
  refine cZ (cO (p:=sl (BM g) c 41 1 (st++[y]).length (Bg (st++[y]))) (p':=sl (BM g) c 41 1 st.length (Bg st)) uK (nK oO MJ (by simp[Bg]))) ?_;exact uI
 exfalso;simp at h
end
section
variable {E:Bp}{Es:List Bj}{pp tb s most m bm:Nat}{f:Int->Option Value}
def YT {L}(hw:Wf L)(M:List Rl){K:Nat->Bool}:∀(n x:Nat),Ev L x->rem (L++M) K n x=rem L K n x:=by
 intro n;induction n with
 |zero=>exact fun _ _=>rfl
 |succ n ih=>
  intro x hx
  have hB:=hx.le
  have hA:len (L++M) x=len L x:=jB M hB
  cases hK:K x with
  |true=>rw[tQ hK,tQ hK]
  |false=>
   rcases fw 256 (len L x)with h| h
   ·obtain⟨i,rfl⟩:∃i,x=i+1:=⟨x-1,by
     rcases jo x with rfl|h'
     ·rw[Xh]at h;omega
     omega⟩
    rcases hx.rule hw with⟨b,hg,h0⟩|⟨l,r,hg,h1,h2,h3,h4,el,er,hD,hE,hF,ht⟩
    ·have:len L (i+1)=1:=by unfold len;rw[fP hg];rfl
     omega
    have hC:(L++M)[i]?=some (.pair l r):=by rw[aj oO];exact hg
    rw[wE hK (by rw[hA];exact h) (by simpa using hC),wE hK h (by simpa using hg),ih l el,ih r er]
   rw[yY hK (by rw[hA];exact h),yY hK h]
def DR (L:List Rl)(f:Int->Option Value)(U:List Nat):Nat:=(U.map (rem L (Kf f) 13)).sum
def qRr {L}{f f':Int->Option Value}(h:∀z,Kf f z=true->Kf f' z=true):∀U:List Nat,DR L f' U<=DR L f U
 |[]=>by simp[DR]
 |u::U=>by
  have a:=VH (L:=L) h 13 u;have b:=qRr (L:=L) h U;show rem L (Kf f') 13 u+DR L f' U<=rem L (Kf f) 13 u+DR L f U;omega
def Lb {L}{f f':Int->Option Value}{x n}(h:∀z,Kf f z=true->Kf f' z=true) (hc:n+rem L (Kf f') 13 x<=rem L (Kf f) 13 x):∀U:List Nat,x∈U->n+DR L f' U<=DR L f U
 |u::U,hx=>by
  have a:=VH (L:=L) h 13 u;have b:=qRr h (L:=L) U;show n+(rem L (Kf f') 13 u+DR L f' U)<=rem L (Kf f) 13 u+DR L f U;rcases di.1 hx with rfl|hx
  ·omega
  have:=Lb (L:=L) (n:=n) h hc U hx;omega
def qZw {L}{f:Int->Option Value}{x}:∀U:List Nat,x∈U->rem L (Kf f) 13 x<=DR L f U
 |u::U,hx=>by
  show rem L (Kf f) 13 x<=rem L (Kf f) 13 u+DR L f U;rcases di.1 hx with rfl|hx
  ·omega
  have:=qZw (L:=L) (f:=f) U hx;omega
def Vr {L}(hw:Wf L){f:Int->Option Value}:∀U:List Nat,(∀u∈U,Ev L u/\len L u<=400)->DR L f U<=12368*U.length
 |[],_=>by simp[DR]
 |u::U,h=>by
  have a:=Rp hw (K:=Kf f) 13 u (h u (nk ..)).1 (h u (nk ..)).2;have b:=Vr hw (f:=f) U fun v hv=>h v (lg _ hv)
  show rem L (Kf f) 13 u+DR L f U<=12368*(U.length+1);omega
structure Yy where
 M:List Bj
 f:Int->Option Value
 ys:List Nat
 g:Nat
 c:Nat
def NV (hE:BP E)(hB:Ca E.w0){xs U p c}(hx:∀x∈xs,x∈U) (hU:∀u∈U,Ev (BO Es) u/\len (BO Es) u<=400) (hn:xs.length<=1000) (hQ:Es.length+DR (BO Es) f U<=most) (hk:Kn (BO Es) f):
  Ct E 70 [uPt m,.slice p xs.length c] [cells pp [uPt s,uPt tb] 122,BV tb s (BO Es),bR s most Es,cells m [uPt pp,.map (some bm)] 118,Bn bm .i64 f,sl p c 41 1 xs.length (Bg xs)]
   (fun v Q=>∃M f' ys g' c',v= .tuple #[.slice (BM g') xs.length c',.nilIface]/\M.length+DR (BO Es) f' U<=DR (BO Es) f U/\(∀z,Kf f z=true->Kf f' z=true)/\Kn (BO (Es++M)) f'/\ys.length=xs.length/\EJ (BO (Es++M)) xs ys/\Q=[cells pp [uPt s,uPt tb] 122,BV tb s (BO (Es++M)),bR s most (Es++M),cells m [uPt pp,.map (some bm)] 118,Bn bm .i64 f',sl p c 41 1 xs.length (Bg xs),sl (BM g') c' 41 1 xs.length (Bg ys)]):=by
 refine eF (p:=bR s most Es) uK (fun _ h=>dR h) (fun hH=>?_);have hw:=hH.1;refine bO (hE.fn Tryz.func70) O O O (fun R=>?_);simp only[dS,uV,uW];refine Bc ?_;refine uU (kE (hE.t O) (hE.t O) O O (by first |omega |exact bz rfl) (by(unfold maxLen;first |omega |exact bz rfl)) (fun hI us13 hT=>?_));refine Bq ?_;refine fF (cO (p:=sl (BM hI) xs.length 41 1 xs.length us13) (p':=sl (BM hI) xs.length 41 1 0 (Bg [])) uK (nK (av _) O BF)) ?_
 refine dX (fun q:Yy=>[(0,uPt m),(6,.slice (BM q.g) q.ys.length q.c),(14,.slice p xs.length c),(15,BK xs.length),(16,BK (q.ys.length))]) (fun q=>[cells pp [uPt s,uPt tb] 122,BV tb s (BO (Es++q.M)),bR s most (Es++q.M),cells m [uPt pp,.map (some bm)] 118,Bn bm .i64 q.f,sl p c 41 1 xs.length (Bg xs),sl (BM q.g) q.c 41 1 q.ys.length (Bg q.ys),R])
  (fun q=>xs.length-q.ys.length) (fun q=>q.ys.length<=xs.length/\q.M.length+DR (BO Es) q.f U<=DR (BO Es) f U/\(∀z,Kf f z=true->Kf q.f z=true)/\Kn (BO (Es++q.M)) q.f/\EJ (BO (Es++q.M)) xs q.ys) ⟨[],f,[],hI,xs.length⟩ ⟨av _,by simp,fun z h=>h,by rw[ax];exact hk,fun i x y _ h=>by simp at h⟩ BC ?_ ?_
 ·rw[ax];exact uI
 rintro⟨M,f',ys,g,c2⟩⟨hV,hM,hA,hJ,hK⟩;simp only at hV hM hA hJ hK ⊢;refine CB ?_;refine bE O (fun h=>?_) (fun h=>?_)
 ·have hW:ys.length<xs.length:=oO;obtain⟨x,hG⟩:∃x,xs[ys.length]?=some x:=⟨_,ag hW⟩;have hL:=hx x (ak hG);obtain⟨hD,hX⟩:=hU x hL;have hf:=qZw (L:=BO Es) (f:=f') U hL;have hY:(Es++M).length+rem (BO (Es++M)) (Kf f') 13 x<=most:=by rw[dB,YT hw _ _ _ hD,aa];omega
  have hZ:len (BO (Es++M)) x<=400:=by rw[dB,jB _ hD.le];exact hX
  have ha:Ev (BO (Es++M)) x:=by rw[dB];exact hD.ext _
  refine iO (p:=sl p c 41 1 xs.length (Bg xs)) uK (fun _ h=>eG h oO) ?_;rintro⟨gx,rfl⟩;have f0:=fT hG (0+((ys.length:Nat):Int).toNat) oO;have f1:=fT hG (((ys.length:Nat):Int).toNat) oO;refine CK ?_;refine uX (qWi (Es:=Es++M) (f:=f') (m:=m) (pp:=pp) (bm:=bm) hE hB ha hZ hY hJ) O ?_;rintro _ _⟨M2,f2,y,rfl,hR,hC,hF,hS,rfl⟩;rw[dB,YT hw _ _ _ hD,YT hw _ _ _ hD]at hR;have hg:=Lb hC hR U hL;simp only[uV,uW];rw[ah]at hF hS ⊢;refine FH ?_;refine uU (aU (hE.t O) (hE.t O) O O O (fun hh=>?_));refine uU (BJ (fun hb hc hi hd hN hO=>?_));refine Br ?_;obtain rfl:hd=Bg (ys++[y]):=by rw[hO,iF];rfl
  have hP:(ys++[y]).length=ys.length+1:=by simp
  subst hN;refine bS (ι:=Yy) (j:=⟨M++M2,f2,ys++[y],hb,hc⟩) ⟨BD,by simp only[aa];omega,fun z hz=>hC z (hA z hz),hF,?_⟩ BD ⟨rfl,by simp only[hP];rfl,rfl,rfl,by simp only[hP];exact au some (bW oO),trivial⟩ ?_
  ·simp only;refine EJ.snoc ?_ hG hS;rw[<-ah,dB];exact hK.ext _
  simp only[hP];exact uI
 have he:ys.length=xs.length:=oO;refine CP ?_;apply cK
 ·rfl
 ·(apply Rs.tmp rfl;apply Rs.tmp rfl;exact Rs.nil)
 ·exact⟨M,f',ys,g,c2,by rw[he];rfl,hM,hA,hJ,he,hK,rfl⟩
 rw[he];exact uI
def Jg (hE:BP E)(hB:Ca E.w0){xs U n}(hC:xs.length=n){p c}(hx:∀x∈xs,x∈U) (hU:∀u∈U,Ev (BO Es) u/\len (BO Es) u<=400) (hn:n<=1000) (hA:Es.length+DR (BO Es) f U<=most) (hk:Kn (BO Es) f):
  Ct E 70 [uPt m,.slice p n c] [cells pp [uPt s,uPt tb] 122,BV tb s (BO Es),bR s most Es,cells m [uPt pp,.map (some bm)] 118,Bn bm .i64 f,sl p c 41 1 n (Bg xs)]
   (fun v Q=>∃M f' ys g' c',v= .tuple #[.slice (BM g') n c',.nilIface]/\M.length+DR (BO Es) f' U<=DR (BO Es) f U/\(∀z,Kf f z=true->Kf f' z=true)/\Kn (BO (Es++M)) f'/\ys.length=n/\EJ (BO (Es++M)) xs ys/\Q=[cells pp [uPt s,uPt tb] 122,BV tb s (BO (Es++M)),bR s most (Es++M),cells m [uPt pp,.map (some bm)] 118,Bn bm .i64 f',sl p c 41 1 n (Bg xs),sl (BM g') c' 41 1 n (Bg ys)]):=by
 subst hC;exact NV hE hB hx hU hn hA hk
end
