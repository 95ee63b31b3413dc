import Derived.Test.YtejcjelmpbkcbaaGreatDoorQ86
set_option linter.all false
set_option maxHeartbeats 1000000
namespace Go.Proofs.YtejcjelmpbkcbaaGreatDoor
open Go Go.RowKit Sl Eg
set_option maxRecDepth 10000
section
variable {E:Env}
def mk1:TMk:=⟨0,0,0,0,0,[97,98]⟩
def mk2:TMk:=⟨1,0,0,0,0,[]⟩
def mk3:TMk:=⟨3,1,0,1,2,[]⟩
def plns3:plns [] ([mk1,mk2,mk3].take 30)=[[97,98],[97,98,97,98],[98,97]]:=by rfl
def mk_ok:∀x∈[mk1,mk2,mk3],x.ok:=fun x hx=>by
 simp only[iq,vw,or_false]at hx;rcases hx with rfl|rfl|rfl<;>exact⟨by decide,by decide,by decide,by decide,by decide⟩
def qVj (hE:Seat E):Ct E 5 [] [] (fun v Q=>v= .bool true∧Q=[]):=by
 refine bO (hE.fn Tryz.func5) O O O (fun R=>?_);simp only[dX,uV,uW];refine gg10 ?_;refine uU ?_;refine aU (hE.t O) (hE.t O) O O O (fun b11=>?_);refine uX (qPj (l:=[mk1,mk2,mk3]) (a:=some ⟨b11,0,none⟩) (c:=3) (q:=cells b11 (mkVs [mk1,mk2,mk3]) 90) hE (fun _=>⟨b11,0,O,qBe (fun _ _ h=>h)⟩) (bi O) mk_ok) O ?_;rintro _ _⟨s,M,ids,p1,p2,c1,c2,rfl,hM,hbs,rfl⟩;rw[plns3]at hbs ⊢;obtain⟨id,hid,hbe⟩:=hbs.at (i:=2) (t:=[98,97]) rfl;refine sZ (p:=sl p1 c1 56 1 3 (idC ids)) uK (fun _ h=>fA h oO) ?_;rintro⟨g1,rfl⟩;refine sZ (p:=sl p2 c2 9 1 3 (tsC [[97,98],[97,98,97,98],[98,97]])) uK (fun _ h=>fA h oO) ?_;rintro⟨g2,rfl⟩;have f2:(tsC [[97,98],[97,98,97,98],[98,97]])[((2:Int)).toNat]?=some (.string ⟨⟨[98,97]⟩⟩):=rfl;have h3:([[97,98],[97,98,97,98],[98,97]]:List (List UInt8)).length=3:=rfl;have f1:=gL hid ((2:Int)).toNat O;simp only[uV,uW];refine gg25 ?_;refine l_eq 24 (.bool false) O O ?_;refine gg11 ?_;refine w_eq 29 (.bool false) O O ?_;refine gg9 ?_;refine uX (sI (x:=id) hE hbe.le) O ?_;rintro _ _⟨rfl,rfl⟩;simp only[uV,uW];refine gg3 ?_;refine uU (cZ (hE.t O) (fun b5=>?_));refine gg9 ?_;have hlen:(txt (rls M) id).length=2:=hbe.len;refine gg11 ?_;exact uZ O (.tmp O .nil) ⟨bf Value.bool (ma oO),O⟩
end
section
variable {E:Env}{Es:List Ent}{pp tb s most m bm:Nat}{f:Int→Option Value}
def SigOf.sn {L:List Rl}{x y:Nat}(h:SigOf L x y):Sn L (txt L x) y:=⟨h.2.2.2,h.2.1,h.2.2.1⟩
def Sn.of {L:List Rl}{x y:Nat}{t:List UInt8}(h:Sn L t y)(hx:x≤L.length)(ht:txt L x=t):SigOf L x y:=⟨hx,by rw[h.tx,ht],h.gd,by rw[ht];exact h.sg⟩
def qUu (hE:Seat E)(hB:Base E.w0){i:Nat}{en:Ent}(hent:Es[i]?=some en)(hl:len (rls Es) (i+1)≤400)(h256:256<len (rls Es) (i+1))(hroom:Es.length+400≤most)(hk:Kn (rls Es) f){l r:Nat}(hr:en.r= .pair l r):
  Ct E 148 [uPt m,.int .i64 ((i+1:Nat):Int)] [cells pp [uPt s,uPt tb] 117,tabP tb s (rls Es),bR s most Es,cells m [uPt pp,.map (some bm)] 113,mapF bm .i64 f]
   (fun v Q=>(∃z:Nat,(z=l∨z=r)∧f (z:Nat)=none∧v= .tuple #[.int .i64 (z:Nat),.nilIface]∧Q=[cells pp [uPt s,uPt tb] 117,tabP tb s (rls Es),bR s most Es,cells m [uPt pp,.map (some bm)] 113,mapF bm .i64 f])∨
    ∃M y,v= .tuple #[.int .i64 0,.nilIface]∧M.length≤400∧SigOf (rls (Es++M)) (i+1) y∧Q=[cells pp [uPt s,uPt tb] 117,tabP tb s (rls (Es++M)),bR s most (Es++M),cells m [uPt pp,.map (some bm)] 113,mapF bm .i64 (setF f ((i+1:Nat):Int) (.int .i64 (y:Nat)))]):=by
 refine eU (p:=bR s most Es) uK (fun _ h=>dS h) (fun hsay=>?_);have hil:i<Es.length:=(ae.1 hent).1;have htx:=hsay.2.1 i en hent;have hle:en.t.length=len (rls Es) (i+1):=by rw[htx];rfl
 have hg:(rls Es)[i]?=some (.pair l r):=by rw[wL hent,hr]
 have hok:=hsay.1.ok _ _ hg;have htp:=jU hg hok;obtain⟨ho1,ho2,ho3,ho4⟩:=hok;have hll:len (rls Es) (i+1)=len (rls Es) l+len (rls Es) r:=by unfold len;rw[htp,aa]
 have hm1:E.P.underlying 111=some (.map 56 56):=by rw[hE.P];kernel_rfl
 have hm2:E.P.underlying 56=some (.int .i64):=by rw[hE.P];kernel_rfl
 have hm3:∀w,(zeroValue 56).run E.P w= .ok (.int .i64 0) w:=fun w=>by rw[hE.P];kernel_rfl
 refine bO (hE.fn Tryz.func148) O O O (fun R=>?_);simp only[dX,uV,uW];refine gg12 ?_;refine uX (jS hE) O ?_;rintro _ _⟨rfl,rfl⟩;simp only[uV,uW];refine gg7 ?_;refine uX (qL hE hent) O ?_;rintro _ _⟨rfl,rfl⟩;simp only[uV,uW];refine gg3 ?_;refine uU (cZ (hE.t O) (fun b7=>?_));refine gg22 ?_;refine bE O (fun h=>?_) (fun h=>?_)
 ·exfalso;omega
 refine gg6 ?_;refine uX (kZ hE hent) O ?_;rintro _ _⟨rfl,rfl⟩;simp only[uV,uW];rw[hr];refine gg3 ?_;refine uU (cZ (hE.t O) (fun b12=>?_));refine gg22 ?_;rcases hfl:f (l:Nat)with _|v0
 ·refine uB (nH hm1 hm2 hm3 O O uK hfl) ?_;refine gg25 ?_;exact uZ O (.tmp O (.tmp O .nil)) (.inl ⟨l,.inl O,hfl,O,O⟩)
 obtain⟨y1,rfl,hs1⟩:=hk.at hfl;refine uB (nH hm1 hm2 hm3 O O uK hfl) ?_;refine gg36 ?_;rcases hfr:f (r:Nat)with _|v1
 ·refine uB (nH hm1 hm2 hm3 O O uK hfr) ?_;refine gg25 ?_;exact uZ O (.tmp O (.tmp O .nil)) (.inl ⟨r,.inr O,hfr,O,O⟩)
 obtain⟨y2,rfl,hs2⟩:=hk.at hfr;refine uB (nH hm1 hm2 hm3 O O uK hfr) ?_;refine gg25 ?_;have e1:(txt (rls Es) l).length=len (rls Es) l:=rfl;have e2:(txt (rls Es) r).length=len (rls Es) r:=rfl;refine uX (ct_Join (Es:=Es) (s:=s) (most:=most) (tb:=tb) (pp:=pp) hE hB hs1.sn hs2.sn oO oO) O ?_;rintro _ _⟨M,id,rfl,hM,hsn,_,rfl⟩;simp only[uV,uW];refine gg13 ?_;refine uX (qBy (f:=f) (m:=m) (pp:=pp) (bm:=bm) (x:=i+1) (y:=id) hE) O ?_;rintro _ _⟨rfl,rfl⟩;simp only[uV,uW];refine gg5 ?_;exact uZ O (.tmp O (.tmp O .nil)) (.inr ⟨M,id,O,oO,hsn.of (by rw[bQ,aa];omega) (by rw[dA,jQ _ (by rw[bQ];omega),htp]),O⟩)
end
section
variable {E:Env}{Es:List Ent}{pp tb s most m bm:Nat}{f:Int→Option Value}
def Kf (f:Int→Option Value)(x:Nat):Bool:=(f (x:Nat)).isSome
def Kf_set (f:Int→Option Value)(y:Nat)(v:Value)(x:Nat):Kf (setF f (y:Nat) v) x=(Kf f x||x==y):=by
 unfold Kf setF;by_cases h:x=y
 ·subst h;simp
 have h':¬((x:Nat):Int)=(y:Nat):=oO;simp[h',h]
structure OcW where
 ids:List Nat
 M:List Ent
 f:Int→Option Value
 g:Nat
 c:Nat
structure OcI (Es:List Ent)(f0:Int→Option Value)(x0:Nat)(q:OcW):Prop where
 chn:Chn (rls Es) (Kf q.f) 13 q.ids
 hd:∀z,q.ids.head?=some z→z=x0
 nil:q.ids=[]→Kf q.f x0=true
 cost:q.M.length+rem (rls Es) (Kf q.f) 13 x0≤rem (rls Es) (Kf f0) 13 x0
 kn:Kn (rls (Es++q.M)) q.f
 mono:∀z,Kf f0 z=true→Kf q.f z=true
def mtop (q:OcW):Nat:=match q.ids.getLast? with
 |none=>0
 |some y=>if Kf q.f y=true then 42-q.ids.length else 40-q.ids.length
def OcM (Es:List Ent)(x0:Nat)(q:OcW):Nat:=80*rem (rls Es) (Kf q.f) 13 x0+mtop q
def mZ {st:List Nat}{y:Nat}{M:List Ent}{f:Int→Option Value}{g c:Nat}:mtop ⟨st++[y],M,f,g,c⟩=if Kf f y=true then 41-st.length else 39-st.length:=by
 unfold mtop;simp only[ww,List.getLast?_singleton,Option.some_or,aa,az];split <;>omega
def mtop_nil {M:List Ent}{f:Int→Option Value}{g c:Nat}:mtop ⟨[],M,f,g,c⟩=0:=rfl
def take_idC {st:List Nat}{y:Nat}:(idC (st++[y])).take (st.length*1)=idC st:=by
 have h:(idC st).length=st.length:=by simp[idC]
 rw[qh,lI,←h,yf]
def qUn (hE:Seat E)(hB:Base E.w0){x:Nat}(hx:Ev (rls Es) x)(hl:len (rls Es) x≤400)(hroom:Es.length+rem (rls Es) (Kf f) 13 x≤most)(hk:Kn (rls Es) f):
  Ct E 116 [uPt m,.int .i64 (x:Nat)] [cells pp [uPt s,uPt tb] 117,tabP tb s (rls Es),bR s most Es,cells m [uPt pp,.map (some bm)] 113,mapF bm .i64 f]
   (fun v Q=>∃M f' y,v= .tuple #[.int .i64 (y:Nat),.nilIface]∧M.length+rem (rls Es) (Kf f') 13 x≤rem (rls Es) (Kf f) 13 x∧(∀z,Kf f z=true→Kf f' z=true)∧Kn (rls (Es++M)) f'∧SigOf (rls (Es++M)) x y∧Q=[cells pp [uPt s,uPt tb] 117,tabP tb s (rls (Es++M)),bR s most (Es++M),cells m [uPt pp,.map (some bm)] 113,mapF bm .i64 f']):=by
 refine eU (p:=bR s most Es) uK (fun _ h=>dS h) (fun hsay=>?_);have hw:=hsay.1;have hmr:fP=1048576:=rfl;have hxl:=hx.le;rw[bQ]at hxl;refine bO (hE.fn Tryz.func116) O O O (fun R=>?_);simp only[dX,uV,uW];refine gg21 ?_;refine uX (jS hE) O ?_;rintro _ _⟨rfl,rfl⟩;simp only[uV,uW];refine gg14 ?_;refine eF 25 O (fun h1=>?_) (fun h1=>?_)
 ·exfalso;omega
 refine gg11 ?_;refine uX (jS hE) O ?_;rintro _ _⟨rfl,rfl⟩;simp only[uV,uW];refine gg1 ?_;refine uX (qFm hE) O ?_;rintro _ _⟨rfl,rfl⟩;simp only[uV,uW];refine gg5 ?_;refine bE O (fun h2=>?_) (fun h2=>?_)
 ·exfalso;omega
 refine gg9 ?_;refine bE O (fun h3=>?_) (fun h3=>?_)
 ·obtain rfl:x=0:=by omega
  refine gg8 ?_;apply cB
  ·rfl
  ·(apply Rs.tmp rfl;apply Rs.tmp rfl;exact Rs.nil)
  ·exact⟨[],f,0,O,by simp,fun z h=>h,by rw[aj];exact hk,SigOf.zero _,rfl⟩
  rw[aj];exact uI
 have hd17:=hx.dep_le hw hl;have f0:(idC [x])[0]?=some (.int .i64 (x:Nat)):=rfl;have hm1:E.P.underlying 111=some (.map 56 56):=by rw[hE.P];kernel_rfl
 have hm2:E.P.underlying 56=some (.int .i64):=by rw[hE.P];kernel_rfl
 have hm3:∀w,(zeroValue 56).run E.P w= .ok (.int .i64 0) w:=fun w=>by rw[hE.P];kernel_rfl
 refine gg5 ?_;refine uU ?_;refine aU (hE.t O) (hE.t O) O O O (fun b39=>?_);refine gg5 ?_;refine iY (cK (p:=cells b39 [.int .i64 (x:Nat)] 56) (p':=sl (some ⟨b39,0,none⟩) 1 56 1 1 (idC [x])) uK (iK O (by unfold maxLen;omega))) ?_
 refine eQ (fun q:OcW=>[(0,uPt m),(1,.int .i64 (x:Nat)),(6,.slice (some ⟨q.g,0,none⟩) q.ids.length q.c)]) (fun q=>[cells pp [uPt s,uPt tb] 117,tabP tb s (rls (Es++q.M)),bR s most (Es++q.M),cells m [uPt pp,.map (some bm)] 113,mapF bm .i64 q.f,sl (some ⟨q.g,0,none⟩) q.c 56 1 q.ids.length (idC q.ids),R])
  (OcM Es x) (OcI Es f x) ⟨[x],[],f,b39,1⟩ ⟨⟨hx,oO,hd17,fun y hy=>(by cases hy),trivial⟩,fun z hz=>(by cases hz;rfl),fun h=>(by cases h),by simp,by rw[aj];exact hk,fun z h=>h⟩ ⟨rfl,rfl,rfl,trivial⟩ ?_ ?_
 ·rw[aj];exact uI
 rintro⟨ids,M,f',g,c⟩hI;have hI0:=hI;obtain⟨hchn,hhd,hnil,hcost,hkn,hmono⟩:=hI;simp only at hchn hhd hnil hcost hkn hmono ⊢;have hEM:(Es++M).length=Es.length+M.length:=aa;have hids:=hchn.cnt;rcases bu ids with rfl|⟨st,y,rfl⟩
 ·refine gg8 ?_;refine bE O (fun h=>?_) (fun h=>?_)
  ·exfalso;simp at h
  have hkx:=hnil O;obtain⟨v,hfx⟩:∃v,f' (x:Nat)=some v:=rz.1 hkx;obtain⟨y,rfl,hsg⟩:=hkn.at hfx;refine gg12 ?_;refine uB (nH hm1 hm2 hm3 O O uK hfx) ?_;refine gg5 ?_;exact uZ O (.tmp O (.tmp O .nil)) ⟨M,f',y,O,hcost,hmono,hkn,hsg,O⟩
 rw[bv]at*;obtain⟨ey,hy1,hdy⟩:=hchn.top;have hylen:=ey.le;rw[bQ]at hylen;have hsl:(st++[y]).length=st.length+1:=by simp
 have hy:(st++[y])[st.length]?=some y:=by simp
 have f1:=gL hy (((st.length:Nat):Int).toNat) oO;have f2:=gL hy (0+((st.length:Nat):Int).toNat) oO;refine jG (p:=sl (some ⟨g,0,none⟩) c 56 1 (st++[y]).length (idC (st++[y]))) uK (fun _ h=>(pM h).1) (fun hcap=>?_);refine gg8 ?_;refine bE O (fun h=>?_) (fun h=>?_)
 ·refine gg9 ?_;refine l_eq 46 (.int .i64 (st.length:Nat)) O (bW oO) ?_;refine gg13 ?_;rcases hfx:f' (y:Nat)with _| v
  ·have hKy:Kf f' y=false:=by unfold Kf;rw[hfx];rfl
   refine uB (nH hm1 hm2 hm3 O O uK hfx) ?_;refine gg19 ?_;obtain⟨j,rfl⟩:∃j,y=j+1:=⟨y-1,oO⟩;have hent:(Es++M)[j]?=some ((Es++M)[j]'oO):=ag oO;have hentE:Es[j]?=some ((Es++M)[j]'oO):=by rw[←hent,ak oO]
   generalize(Es++M)[j]'oO=en at hent hentE;have hlen':len (rls (Es++M)) (j+1)=len (rls Es) (j+1):=by rw[dA];exact mI _ (by rw[bQ];omega)
   have hcl:=hchn.cost_le hw hKy hhd
   have hs4:len (rls Es) (j+1)≤400:=by
    obtain⟨z,hz⟩:∃z,(st++[j+1]).head?=some z:=by cases st with |nil=>exact⟨_,rfl⟩|cons p q=>exact⟨_,rfl⟩
    obtain rfl:=hhd z hz;exact jh (hchn.short hw z hz) hl
   rcases ed 256 (len (rls Es) (j+1))with h256|h256
   ·rcases ey.rule hw with⟨b,hg,h0⟩|⟨l,r,hg,q1,q2,q3,q4,el,er,hdp,hlr,hrl,ht⟩
    ·exfalso;have:len (rls Es) (j+1)=1:=by unfold len;rw[gN hg];rfl
     omega
    have hrr:en.r= .pair l r:=by
     have:=wL hentE;rw[hg]at this;exact(lm this).symm
    rw[if_neg oO]at hcl;refine uX (qUu (most:=most) (s:=s) (tb:=tb) (Es:=Es++M) (f:=f') (m:=m) (pp:=pp) (bm:=bm) hE hB hent oO oO oO hkn hrr) O ?_;rintro _ _(⟨z,hz,hfz,rfl,rfl⟩|⟨N,id,rfl,hN,hsg,rfl⟩)
    ·have hz1:1≤z:=(by rcases hz with rfl|rfl<;>omega);have ez:Ev (rls Es) z:=(by rcases hz with rfl|rfl<;>assumption);simp only[uV,uW];refine gg23 ?_;refine bE O (fun hz0=>?_) (fun hz0=>?_)
     ·refine gg3 ?_;refine uU ?_;refine aU (hE.t O) (hE.t O) O O O (fun b77=>?_);refine uU ?_;apply bU (hE.t O) (hE.t O) O O O
      ·exact uK
      ·exact uK
      ·rfl
      ·rfl
      ·omega
      ·omega
      ·(unfold maxLen;omega)
      intro g78 c78 n78 x78 hn78 hx78;refine gg3 ?_;obtain rfl:x78=idC (st++[j+1]++[z]):=by rw[hx78,lI (st++[j+1])];rfl
      have hzl:(st++[j+1]++[z]).length=st.length+2:=by simp
      subst hn78;refine bS (ι:=OcW) (j:=⟨st++[j+1]++[z],M,f',g78,c78⟩) ⟨hchn.push hKy h256 (by rw[dw];exact hg) oO oO hz ez hz1,fun w hw'=>hhd w (by cases st<;>exact hw'),fun h=>by simp at h,hcost,hkn,hmono⟩ ?_ ⟨rfl,rfl,by simp only[hzl,hsl];rfl,trivial⟩ ?_
      ·have hKz:Kf f' z=false:=by unfold Kf;rw[hfz];rfl
       unfold OcM;rw[mZ,mZ,if_neg (by rw[hKz];simp),if_neg (by rw[hKy];simp)];simp only;omega
      simp only[hzl,hsl];exact uI
     exfalso;omega
    obtain⟨n1,n2⟩:=hchn.learn (Kf_set f' (j+1) (.int .i64 (id:Nat))) hKy (.inr ⟨h256,l,r,by rw[dw];exact hg⟩);obtain⟨z0,hz0⟩:∃z,(st++[j+1]).head?=some z:=by cases st with |nil=>exact⟨_,rfl⟩|cons p q=>exact⟨_,rfl⟩
    obtain rfl:=hhd z0 hz0;have n3:=n2 z0 hz0;rw[if_neg oO]at n3;simp only[uV,uW];rw[ah]at hsg ⊢;refine gg23 ?_;refine bE O (fun hzz=>?_) (fun hzz=>?_)
    ·exact absurd O hzz
    refine gg2 ?_;have hKs:Kf (setF f' ((j+1:Nat):Int) (.int .i64 (id:Nat))) (j+1)=true:=by rw[Kf_set];simp
    refine bS (ι:=OcW) (j:=⟨st++[j+1],M++N,setF f' ((j+1:Nat):Int) (.int .i64 (id:Nat)),g,c⟩) ⟨n1,hhd,fun h=>by simp at h,by simp only[aa];omega,?_,fun z hz=>by show Kf _ z=true;rw[Kf_set,hmono z hz];rfl⟩ ?_ ⟨rfl,rfl,rfl,trivial⟩ ?_
    ·simp only;have:=(hkn.ext (rls N));rw[←dA,ah]at this;exact this.set hsg
    ·unfold OcM;rw[mZ,mZ,if_pos hKs,if_neg (by rw[hKy];simp)];simp only;omega
    exact uI
   rw[if_pos h256]at hcl;refine uX (ct_learn (most:=most) (s:=s) (tb:=tb) (Es:=Es++M) (f:=f') (m:=m) (pp:=pp) (bm:=bm) hE hB hent oO oO) O ?_;rintro _ _⟨N,id,rfl,hN,hsg,rfl⟩;obtain⟨n1,n2⟩:=hchn.learn (Kf_set f' (j+1) (.int .i64 (id:Nat))) hKy (.inl h256);obtain⟨z0,hz0⟩:∃z,(st++[j+1]).head?=some z:=by cases st with |nil=>exact⟨_,rfl⟩|cons p q=>exact⟨_,rfl⟩
   obtain rfl:=hhd z0 hz0;have n3:=n2 z0 hz0;rw[if_pos h256]at n3;simp only[uV,uW];rw[ah]at hsg ⊢;refine gg23 ?_;refine bE O (fun hzz=>?_) (fun hzz=>?_)
   ·exact absurd O hzz
   refine gg2 ?_;have hKs:Kf (setF f' ((j+1:Nat):Int) (.int .i64 (id:Nat))) (j+1)=true:=by rw[Kf_set];simp
   refine bS (ι:=OcW) (j:=⟨st++[j+1],M++N,setF f' ((j+1:Nat):Int) (.int .i64 (id:Nat)),g,c⟩) ⟨n1,hhd,fun h=>by simp at h,by simp only[aa];omega,?_,fun z hz=>by show Kf _ z=true;rw[Kf_set,hmono z hz];rfl⟩ ?_ ⟨rfl,rfl,rfl,trivial⟩ ?_
   ·simp only;have:=(hkn.ext (rls N));rw[←dA,ah]at this;exact this.set hsg
   ·unfold OcM;rw[mZ,mZ,if_pos hKs,if_neg (by rw[hKy];simp)];simp only;omega
   exact uI
  have hKy:Kf f' y=true:=by unfold Kf;rw[hfx];rfl
  refine uB (nH hm1 hm2 hm3 O O uK hfx) ?_;refine l_eq 55 (.tuple #[v,.bool true]) O O ?_;refine gg19 ?_;refine uB (fU st.length O O (hE.t O) oO oO) ?_;refine gg6 ?_;refine bS (ι:=OcW) (j:=⟨st,M,f',g,c⟩) ⟨hchn.pop,fun w hw'=>hhd w (by cases st with |nil=>cases hw'|cons p q=>exact hw'),fun h=>?_,hcost,hkn,hmono⟩ ?_ ⟨O,O,O,trivial⟩ ?_
  ·simp only at h;subst h;obtain rfl:=hhd y rfl;exact hKy
  ·unfold OcM;rw[mZ,if_pos hKy];simp only;rcases bu st with rfl|⟨st',y',rfl⟩
   ·rw[mtop_nil];simp
   rw[bv]at*;rw[mZ,if_neg (by rw[hchn.last];simp)];have:(st'++[y']).length=st'.length+1:=by simp
   omega
  refine cO (cK (p:=sl (some ⟨g,0,none⟩) c 56 1 (st++[y]).length (idC (st++[y]))) (p':=sl (some ⟨g,0,none⟩) c 56 1 st.length (idC st)) uK (nG oO take_idC (by simp[idC]))) ?_;exact uI
 exfalso;simp at h
end
section
variable {E:Env}{Es:List Ent}{pp tb s most m bm:Nat}{f:Int→Option Value}
def qIl {L:List Rl}(hw:Wf L)(M:List Rl){K:Nat→Bool}:∀(n x:Nat),Ev L x→rem (L++M) K n x=rem L K n x:=by
 intro n;induction n with
 |zero=>exact fun _ _=>rfl
 |succ n ih=>
  intro x hx
  have hle:=hx.le
  have hlen:len (L++M) x=len L x:=mI M hle
  cases hK:K x with
  |true=>rw[tH hK,tH hK]
  |false=>
   rcases ed 256 (len L x)with h| h
   ·obtain⟨i,rfl⟩:∃i,x=i+1:=⟨x-1,by
     rcases jr x with rfl|h'
     ·rw[qQe]at h;omega
     omega⟩
    rcases hx.rule hw with⟨b,hg,h0⟩|⟨l,r,hg,h1,h2,h3,h4,el,er,hdp,hlr,hrl,ht⟩
    ·have:len L (i+1)=1:=by unfold len;rw[gN hg];rfl
     omega
    have hg2:(L++M)[i]?=some (.pair l r):=by rw[ak oO];exact hg
    rw[vN hK (by rw[hlen];exact h) (by simpa using hg2),vN hK h (by simpa using hg),ih l el,ih r er]
   rw[yA hK (by rw[hlen];exact h),yA hK h]
def pot' (L:List Rl)(f:Int→Option Value)(U:List Nat):Nat:=(U.map (rem L (Kf f) 13)).sum
def pot_ext {U:List Nat}{L:List Rl}(hw:Wf L)(M:List Rl)(hU:∀u∈U,Ev L u):pot' (L++M) f U=pot' L f U:=by
 unfold pot';congr 1;exact oD fun u hu=>qIl hw M 13 u (hU u hu)
def qQo {L:List Rl}{f f':Int→Option Value}(h:∀z,Kf f z=true→Kf f' z=true):∀U:List Nat,pot' L f' U≤pot' L f U
 |[]=>by simp[pot']
 |u::U=>by
  have a:=qBf (L:=L) h 13 u;have b:=qQo (L:=L) h U;show rem L (Kf f') 13 u+pot' L f' U≤rem L (Kf f) 13 u+pot' L f U;omega
def pot_in {L:List Rl}{f f':Int→Option Value}{x n:Nat}(h:∀z,Kf f z=true→Kf f' z=true) (hc:n+rem L (Kf f') 13 x≤rem L (Kf f) 13 x):∀U:List Nat,x∈U→n+pot' L f' U≤pot' L f U
 |u::U,hx=>by
  have a:=qBf (L:=L) h 13 u;have b:=qQo h (L:=L) U;show n+(rem L (Kf f') 13 u+pot' L f' U)≤rem L (Kf f) 13 u+pot' L f U;rcases iq.1 hx with rfl|hx
  ·omega
  have:=pot_in (L:=L) (n:=n) h hc U hx;omega
def qXy {L:List Rl}{f:Int→Option Value}{x:Nat}:∀U:List Nat,x∈U→rem L (Kf f) 13 x≤pot' L f U
 |u::U,hx=>by
  show rem L (Kf f) 13 x≤rem L (Kf f) 13 u+pot' L f U;rcases iq.1 hx with rfl|hx
  ·omega
  have:=qXy (L:=L) (f:=f) U hx;omega
def qXt {L:List Rl}(hw:Wf L){f:Int→Option Value}:∀U:List Nat,(∀u∈U,Ev L u∧len L u≤400)→pot' L f U≤12368*U.length
 |[],_=>by simp[pot']
 |u::U,h=>by
  have a:=rem_le hw (K:=Kf f) 13 u (h u (oC ..)).1 (h u (oC ..)).2;have b:=qXt hw (f:=f) U fun v hv=>h v (og _ hv)
  show rem L (Kf f) 13 u+pot' L f U≤12368*(U.length+1);omega
structure AlW where
 M:List Ent
 f:Int→Option Value
 ys:List Nat
 g:Nat
 c:Nat
def ct_AllW (hE:Seat E)(hB:Base E.w0){xs U:List Nat}{p:Option Addr}{c:Nat}(hx:∀x∈xs,x∈U) (hU:∀u∈U,Ev (rls Es) u∧len (rls Es) u≤400) (hn:xs.length≤1000) (hroom:Es.length+pot' (rls Es) f U≤most) (hk:Kn (rls Es) f):
  Ct E 87 [uPt m,.slice p xs.length c] [cells pp [uPt s,uPt tb] 117,tabP tb s (rls Es),bR s most Es,cells m [uPt pp,.map (some bm)] 113,mapF bm .i64 f,sl p c 56 1 xs.length (idC xs)]
   (fun v Q=>∃M f' ys g' c',v= .tuple #[.slice (some ⟨g',0,none⟩) xs.length c',.nilIface]∧M.length+pot' (rls Es) f' U≤pot' (rls Es) f U∧(∀z,Kf f z=true→Kf f' z=true)∧Kn (rls (Es++M)) f'∧ys.length=xs.length∧SigL (rls (Es++M)) xs ys∧Q=[cells pp [uPt s,uPt tb] 117,tabP tb s (rls (Es++M)),bR s most (Es++M),cells m [uPt pp,.map (some bm)] 113,mapF bm .i64 f',sl p c 56 1 xs.length (idC xs),sl (some ⟨g',0,none⟩) c' 56 1 xs.length (idC ys)]):=by
 refine eU (p:=bR s most Es) uK (fun _ h=>dS h) (fun hsay=>?_);have hw:=hsay.1;refine bO (hE.fn Tryz.func87) O O O (fun R=>?_);simp only[dX,uV,uW];refine gg10 ?_;refine uU ?_;refine kJ (hE.t O) (hE.t O) O O (by first |omega |exact bi rfl) (by(unfold maxLen;first |omega |exact bi rfl)) (fun b13 us13 hu13=>?_);refine gg12 ?_;refine iY (cK (p:=sl (some ⟨b13,0,none⟩) xs.length 56 1 xs.length us13) (p':=sl (some ⟨b13,0,none⟩) xs.length 56 1 0 (idC [])) uK (nG (au _) O (by simp))) ?_
 refine eQ (fun q:AlW=>[(0,uPt m),(6,.slice (some ⟨q.g,0,none⟩) q.ys.length q.c),(14,.slice p xs.length c),(15,.int .i64 (xs.length:Nat)),(16,.int .i64 (q.ys.length:Nat))]) (fun q=>[cells pp [uPt s,uPt tb] 117,tabP tb s (rls (Es++q.M)),bR s most (Es++q.M),cells m [uPt pp,.map (some bm)] 113,mapF bm .i64 q.f,sl p c 56 1 xs.length (idC xs),sl (some ⟨q.g,0,none⟩) q.c 56 1 q.ys.length (idC q.ys),R])
  (fun q=>xs.length-q.ys.length) (fun q=>q.ys.length≤xs.length∧q.M.length+pot' (rls Es) q.f U≤pot' (rls Es) f U∧(∀z,Kf f z=true→Kf q.f z=true)∧Kn (rls (Es++q.M)) q.f∧SigL (rls (Es++q.M)) xs q.ys) ⟨[],f,[],b13,xs.length⟩ ⟨au _,by simp,fun z h=>h,by rw[aj];exact hk,fun i x y _ h=>by simp at h⟩ ⟨rfl,rfl,rfl,rfl,rfl,trivial⟩ ?_ ?_
 ·rw[aj];exact uI
 rintro⟨M,f',ys,g,c2⟩⟨hle,hM,hmono,hkn,hsl⟩;simp only at hle hM hmono hkn hsl ⊢;refine gg6 ?_;refine bE O (fun h=>?_) (fun h=>?_)
 ·have hlt:ys.length<xs.length:=oO;obtain⟨x,hxi⟩:∃x,xs[ys.length]?=some x:=⟨_,ag hlt⟩;have hxU:=hx x (ay hxi);obtain⟨hx1,hx2⟩:=hU x hxU;have hrx:=qXy (L:=rls Es) (f:=f') U hxU;have hx3:(Es++M).length+rem (rls (Es++M)) (Kf f') 13 x≤most:=by rw[dA,qIl hw _ _ _ hx1,aa];omega
  have hx4:len (rls (Es++M)) x≤400:=by rw[dA,mI _ hx1.le];exact hx2
  have hx5:Ev (rls (Es++M)) x:=by rw[dA];exact hx1.ext _
  refine jG (p:=sl p c 56 1 xs.length (idC xs)) uK (fun _ h=>fA h oO) ?_;rintro⟨gx,rfl⟩;have f0:=gL hxi (0+((ys.length:Nat):Int).toNat) oO;have f1:=gL hxi (((ys.length:Nat):Int).toNat) oO;refine gg15 ?_;refine uX (qUn (Es:=Es++M) (f:=f') (m:=m) (pp:=pp) (bm:=bm) hE hB hx5 hx4 hx3 hkn) O ?_;rintro _ _⟨M2,f2,y,rfl,hM2,hmono2,hkn2,hsg,rfl⟩;rw[dA,qIl hw _ _ _ hx1,qIl hw _ _ _ hx1]at hM2;have hp2:=pot_in hmono2 hM2 U hxU;simp only[uV,uW];rw[ah]at hkn2 hsg ⊢;refine gg20 ?_;refine uU ?_;refine aU (hE.t O) (hE.t O) O O O (fun b31=>?_);refine uU ?_;apply bU (hE.t O) (hE.t O) O O O
  ·exact uK
  ·exact uK
  ·rfl
  ·rfl
  ·omega
  ·omega
  ·(unfold maxLen;omega)
  intro g32 c32 n32 x32 hn32 hx32;refine gg8 ?_;obtain rfl:x32=idC (ys++[y]):=by rw[hx32,lI];rfl
  have hyl:(ys++[y]).length=ys.length+1:=by simp
  subst hn32;refine bS (ι:=AlW) (j:=⟨M++M2,f2,ys++[y],g32,c32⟩) ⟨by simp only;omega,by simp only[aa];omega,fun z hz=>hmono2 z (hmono z hz),hkn2,?_⟩ (by simp only;omega) ⟨rfl,by simp only[hyl];rfl,rfl,rfl,by simp only[hyl];exact bf some (bW oO),trivial⟩ ?_
  ·simp only;refine SigL.snoc ?_ hxi hsg;rw[←ah,dA];exact hsl.ext _
  simp only[hyl];exact uI
 have he:ys.length=xs.length:=oO;refine gg13 ?_;apply cB
 ·rfl
 ·(apply Rs.tmp rfl;apply Rs.tmp rfl;exact Rs.nil)
 ·exact⟨M,f',ys,g,c2,by rw[he];rfl,hM,hmono,hkn,he,hsl,rfl⟩
 rw[he];exact uI
def ct_AllWN (hE:Seat E)(hB:Base E.w0){xs U:List Nat}{n:Nat}(hxn:xs.length=n){p:Option Addr}{c:Nat}(hx:∀x∈xs,x∈U) (hU:∀u∈U,Ev (rls Es) u∧len (rls Es) u≤400) (hn:n≤1000) (hroom:Es.length+pot' (rls Es) f U≤most) (hk:Kn (rls Es) f):
  Ct E 87 [uPt m,.slice p n c] [cells pp [uPt s,uPt tb] 117,tabP tb s (rls Es),bR s most Es,cells m [uPt pp,.map (some bm)] 113,mapF bm .i64 f,sl p c 56 1 n (idC xs)]
   (fun v Q=>∃M f' ys g' c',v= .tuple #[.slice (some ⟨g',0,none⟩) n c',.nilIface]∧M.length+pot' (rls Es) f' U≤pot' (rls Es) f U∧(∀z,Kf f z=true→Kf f' z=true)∧Kn (rls (Es++M)) f'∧ys.length=n∧SigL (rls (Es++M)) xs ys∧Q=[cells pp [uPt s,uPt tb] 117,tabP tb s (rls (Es++M)),bR s most (Es++M),cells m [uPt pp,.map (some bm)] 113,mapF bm .i64 f',sl p c 56 1 n (idC xs),sl (some ⟨g',0,none⟩) c' 56 1 n (idC ys)]):=by
 subst hxn;exact ct_AllW hE hB hx hU hn hroom hk
end
