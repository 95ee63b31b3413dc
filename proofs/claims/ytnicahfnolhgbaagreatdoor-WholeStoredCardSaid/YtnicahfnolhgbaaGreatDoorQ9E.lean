import Derived.Test.YtnicahfnolhgbaaGreatDoorQ9D
set_option linter.all false
set_option maxHeartbeats 1000000
namespace Go.Proofs.YtnicahfnolhgbaaGreatDoor
open Go Go.RowKit Sl Eg
set_option maxRecDepth 10000
variable {E:Bp}{Es:List Bj}{s most:Nat}
def sP (hE:BP E){d v0 v1 v3 v4 v5 v6 v7}:Ct E 32 [uPt d] [cells d [v0,v1,uPt s,v3,v4,v5,v6,v7] 98] (fun v Q=>v= .bool false/\Q=[cells d [v0,v1,uPt s,v3,v4,v5,v6,v7] 98]):=by
 refine bO (hE.fn Tryz.func32) O O O (fun R=>?_);simp only[dS,uV,uW];refine EK ?_;exact uZ O (.tmp O .nil) ⟨O,O⟩
def Wu (hE:BP E){d a n nm}{f:List UInt8->Option Nat}{ch:List UInt8->Bool}{V}:
  Ct E 9 [uPt d] [GG d a nm s f ch V n] (fun v Q=>v=uPt s/\Q=[GG d a nm s f ch V n]):=by
 refine Sl.ct_open (p:=GG d a nm s f ch V n) (ps:=fun i:{i:SV//i.sz=n/\i.ct<=n}=>[cells d [uPt a,BN nm,uPt s,.pointer (BM i.1.l),.map (some i.1.nb),.map (some i.1.cb),.pointer (BM i.1.wb),.bool false] 98,cells i.1.wb [.map (some i.1.mb),BK V.length] 96,dY i.1.nb (Cf f),dY i.1.cb (GD ch),Bn i.1.mb .i64 (Dw V),cells i.1.l [uPt a,BN nm,BK (i.1.ct),BK (i.1.sz),.bool false] 139]) (fun k⟨i,hi,h⟩=>⟨⟨i,hi⟩,h⟩) ?_;rintro⟨i,hi⟩;simp only;refine bO (hE.fn Tryz.func9) O O O (fun R=>?_);simp only[dS,uV,uW];refine Bu ?_;refine BH (sP hE) O ?_;refine Bo ?_;refine jM (fZ (ps:=[cells d [uPt a,BN nm,uPt s,.pointer (BM i.l),.map (some i.nb),.map (some i.cb),.pointer (BM i.wb),.bool false] 98,cells i.wb [.map (some i.mb),BK V.length] 96,dY i.nb (Cf f),dY i.cb (GD ch),Bn i.mb .i64 (Dw V),cells i.l [uPt a,BN nm,BK (i.ct),BK (i.sz),.bool false] 139]) (p:=GG d a nm s f ch V n) uK (fun k h=>⟨i,hi,h⟩)) ?_;refine Bz ?_;exact uZ O (.tmp O .nil) ⟨O,O⟩
def LM (f:List UInt8->Option Nat)(k:List UInt8)(id:Nat):xJ (Cf f) k (BK id)=Cf (Cq f (k,id)):=by
 funext x;unfold xJ Cf Cq;by_cases e:x=k
 ·rw[if_pos e,if_pos e];rfl
 rw[if_neg e,if_neg e]
def NR (ch:List UInt8->Bool)(k:List UInt8):xJ (GD ch) k (.bool true)=GD (fun x=>x==k||ch x):=by
 funext x;unfold xJ GD;by_cases e:x=k
 ·subst e;simp
 simp[e]
def qWl (hE:BP E){d a n id nm k}{f:List UInt8->Option Nat}{ch:List UInt8->Bool}{V}(hk:FM k)(hA:id<=Es.length):
  Ct E 11 [uPt d,BN k,BK id] [GG d a nm s f ch V n,bR s most Es] (fun v Q=>v= .nilIface/\Q=[GG d a nm s (Cq f (k,id)) (fun x=>x==k||ch x) V n,bR s most Es]):=by
 have hs:(⟨⟨k⟩⟩:ByteArray).size=k.length:=rfl;obtain⟨h1,h2⟩:=hk;refine Sl.ct_open (p:=GG d a nm s f ch V n) (ps:=fun i:{i:SV//i.sz=n/\i.ct<=n}=>[cells d [uPt a,BN nm,uPt s,.pointer (BM i.1.l),.map (some i.1.nb),.map (some i.1.cb),.pointer (BM i.1.wb),.bool false] 98,cells i.1.wb [.map (some i.1.mb),BK V.length] 96,dY i.1.nb (Cf f),dY i.1.cb (GD ch),Bn i.1.mb .i64 (Dw V),cells i.1.l [uPt a,BN nm,BK (i.1.ct),BK (i.1.sz),.bool false] 139]) (fun k⟨i,hi,h⟩=>⟨⟨i,hi⟩,h⟩) ?_;rintro⟨i,hi⟩;simp only;refine bO (hE.fn Tryz.func11) O O O (fun R=>?_);simp only[dS,uV,uW];refine Bu ?_;refine BH (sP hE) O ?_;refine Bq ?_;refine dV 13 O (fun c1=>?_) (fun c1=>?_)
 ·exfalso;omega
 refine Bu ?_;refine bE O (fun c2=>?_) (fun c2=>?_)
 ·exfalso;omega
 refine FH ?_;refine dV 26 O (fun c3=>?_) (fun c3=>?_)
 ·exfalso;omega
 refine Bo ?_;refine BH (Rf hE) O ?_;refine Bw ?_;refine bE O (fun c4=>?_) (fun c4=>?_)
 ·exfalso;omega
 refine Bc ?_;refine uU ?_;apply qP (kt:=9) (et:=41) hE.uu hE.uu O O O
 ·exact uK
 refine CL ?_;rw[LM];refine Bi ?_;refine uU ?_;apply qP (kt:=9) (et:=4) hE.uu hE.uu O O O
 ·exact uK
 refine CL ?_;rw[NR];refine fF (fZ (ps:=[cells d [uPt a,BN nm,uPt s,.pointer (BM i.l),.map (some i.nb),.map (some i.cb),.pointer (BM i.wb),.bool false] 98,cells i.wb [.map (some i.mb),BK V.length] 96,dY i.nb (Cf (Cq f (k,id))),dY i.cb (GD (fun x=>x==k||ch x)),Bn i.mb .i64 (Dw V),cells i.l [uPt a,BN nm,BK (i.ct),BK (i.sz),.bool false] 139]) (p:=GG d a nm s (Cq f (k,id)) (fun x=>x==k||ch x) V n) uK (fun k h=>⟨i,hi,h⟩)) ?_;refine CB ?_;exact uZ O (.tmp O .nil) ⟨O,O⟩
def Nf (hE:BP E){d a n id nm k}{f:List UInt8->Option Nat}{ch:List UInt8->Bool}{V}(hk:f k=some id):
  Ct E 18 [uPt d,BN k] [GG d a nm s f ch V n] (fun v Q=>v= .tuple #[BK id,.nilIface]/\Q=[GG d a nm s f ch V n]):=by
 have hA:Cf f k=some (BK id):=by unfold Cf;rw[hk];rfl
 refine Sl.ct_open (p:=GG d a nm s f ch V n) (ps:=fun i:{i:SV//i.sz=n/\i.ct<=n}=>[cells d [uPt a,BN nm,uPt s,.pointer (BM i.1.l),.map (some i.1.nb),.map (some i.1.cb),.pointer (BM i.1.wb),.bool false] 98,cells i.1.wb [.map (some i.1.mb),BK V.length] 96,dY i.1.nb (Cf f),dY i.1.cb (GD ch),Bn i.1.mb .i64 (Dw V),cells i.1.l [uPt a,BN nm,BK (i.1.ct),BK (i.1.sz),.bool false] 139]) (fun k⟨i,hi,h⟩=>⟨⟨i,hi⟩,h⟩) ?_;rintro⟨i,hi⟩;simp only;refine bO (hE.fn Tryz.func18) O O O (fun R=>?_);simp only[dS,uV,uW];refine Bc ?_;refine BH (sP hE) O ?_;refine Bq ?_;refine uB (mO (kt:=9) (et:=41) (z:= BL 0) hE.uu hE.uu hE.zz rfl rfl uK (by assumption)) ?_;refine CK ?_;refine fF (fZ (ps:=[cells d [uPt a,BN nm,uPt s,.pointer (BM i.l),.map (some i.nb),.map (some i.cb),.pointer (BM i.wb),.bool false] 98,cells i.wb [.map (some i.mb),BK V.length] 96,dY i.nb (Cf f),dY i.cb (GD ch),Bn i.mb .i64 (Dw V),cells i.l [uPt a,BN nm,BK (i.ct),BK (i.sz),.bool false] 139]) (p:=GG d a nm s f ch V n) uK (fun k h=>⟨i,hi,h⟩)) ?_;refine Bc ?_;exact uZ O (.tmp O (.tmp O .nil)) ⟨O,O⟩
def Nu (f:List UInt8->Option Nat)(k:Nat):Prop:=∃D:List (List UInt8),D.length<=k/\∀x,f x≠none->x∈D
def Nu.cnt {f:List UInt8->Option Nat}{k n}(h:Nu f k)(hc:GM (Cf f) n):n<=k:=by
 obtain⟨D,h1,h2⟩:=h;obtain⟨M,h3,h4,rfl⟩:=hc
 have:=tO h3 (B:=D) fun x hx=>h2 x (by
  have:=nR.1 hx;rw[h4]at this;unfold Cf at this;intro e;rw[e]at this;exact this O)
 rw[jr]at this;omega
def qWk (hE:BP E){d a n m nm}{f:List UInt8->Option Nat}{ch:List UInt8->Bool}{V}(hf:Nu f m)(hm:m<=60000):
  Ct E 17 [uPt d] [GG d a nm s f ch V n] (fun v Q=>∃l q c,v= .slice q l.length c/\Vw (Cf f) l/\Q=[GG d a nm s f ch V n,sl q c 9 1 l.length (Dh l)]):=by
 have hH:E.P.underlying 91=some (.map 9 41):=hE.uu;refine Sl.ct_open (p:=GG d a nm s f ch V n) (ps:=fun i:{i:SV//i.sz=n/\i.ct<=n}=>[cells d [uPt a,BN nm,uPt s,.pointer (BM i.1.l),.map (some i.1.nb),.map (some i.1.cb),.pointer (BM i.1.wb),.bool false] 98,cells i.1.wb [.map (some i.1.mb),BK V.length] 96,dY i.1.nb (Cf f),dY i.1.cb (GD ch),Bn i.1.mb .i64 (Dw V),cells i.1.l [uPt a,BN nm,BK (i.1.ct),BK (i.1.sz),.bool false] 139]) (fun k⟨i,hi,h⟩=>⟨⟨i,hi⟩,h⟩) ?_;rintro⟨i,hi⟩;simp only;refine eF (p:=dY i.nb (Cf f)) uK (fun _ h=>VC h) ?_;rintro⟨nn,hc⟩;have hn:=hf.cnt hc;refine bO (hE.fn Tryz.func17) O O O (fun R=>?_);simp only[dS,uV,uW];refine Bu ?_;refine BH (sP hE) O ?_;refine CY ?_;refine jM (fU (t:=9) (sz:=1)) ?_;refine uU ?_;apply yQ hH O uK;intro br;refine CG ?_
 refine dX (fun x:Po=>[(0,uPt d),(3,.slice x.q x.D.length x.d),(11,uPt br)]) (fun x=>[Io br i.nb (Cf f) x.done,cells d [uPt a,BN nm,uPt s,.pointer (BM i.l),.map (some i.nb),.map (some i.cb),.pointer (BM i.wb),.bool false] 98,cells i.wb [.map (some i.mb),BK V.length] 96,dY i.cb (GD ch),Bn i.mb .i64 (Dw V),cells i.l [uPt a,BN nm,BK (i.ct),BK (i.sz),.bool false] 139,sl x.q x.d 9 1 x.D.length (Dh x.D),R]) (fun x=>nn+1-x.D.length) (fun x=>x.D.Nodup/\(∀y,y∈x.D↔x.done y=true)/\∀y∈x.D,Cf f y≠none) ⟨[],fun _=>false,none,0⟩ ⟨.nil,fun y=>by simp,fun y h=>by simp at h⟩ BC uI ?_;rintro⟨D,done,q,dd⟩⟨h1,h2,h3⟩;simp only at h1 h2 h3 ⊢;have hO:=kL hc h1 h3;refine CL ?_;refine uU ?_;apply VA O uK
 ·intro hB;refine Bw ?_;refine fF (cO (p:=Io br i.nb (Cf f) done) (p':=dY i.nb (Cf f)) uK (fun k h=>Xr h)) ?_;refine fF (fZ (ps:=[cells d [uPt a,BN nm,uPt s,.pointer (BM i.l),.map (some i.nb),.map (some i.cb),.pointer (BM i.wb),.bool false] 98,cells i.wb [.map (some i.mb),BK V.length] 96,dY i.nb (Cf f),dY i.cb (GD ch),Bn i.mb .i64 (Dw V),cells i.l [uPt a,BN nm,BK (i.ct),BK (i.sz),.bool false] 139]) (p:=GG d a nm s f ch V n) uK (fun k h=>⟨i,hi,h⟩)) ?_
  have hA:∀x,x∈D↔Cf f x≠none:=fun x=>⟨h3 x,fun hx=>by
   cases e:Cf f x with
   |none=>exact absurd e hx
   |some v=>exact(h2 x).2 (hB x v e)⟩
  refine Br ?_;rcases jo D.length with h0|h0
  ·obtain rfl:=si.1 h0;refine BH (sQ hE) O ?_;refine Bu ?_;exact uZ O (.tmp O .nil) ⟨[],q,dd,O,⟨.nil,hA,.nil⟩,O⟩
  refine lQ (p:=sl q dd 9 1 D.length (Dh D)) uK (fun _ h=>eG h h0) ?_;rintro⟨g,rfl⟩;refine uX (wT hE oO) O ?_;rintro _ _⟨l,rfl,hp,hs,rfl⟩;rw[<-hp.length_eq];simp only[uV,uW];refine Bu ?_;exact uZ O (.tmp O .nil) ⟨l,_,dd,O,⟨hp.nodup_iff.2 h1,fun x=>(hp.mem_iff).trans (hA x),hs⟩,O⟩
 intro k v hk hd;refine Bc ?_;refine uB (VM O uK) ?_;refine jM (fun _ h=>eU (fun _ x=>Va x) h) ?_
 have hI:k∉D:=fun h=>by
  have:=(h2 k).1 h;rw[hd]at this;cases this
 refine Bi ?_;refine uU (aU (hE.t O) (hE.t O) O O O (fun hP=>?_));refine uU (BJ (fun hJ hK hL hM hC hD=>?_));refine CG ?_;obtain rfl:hM=Dh (D++[k]):=by rw[hD];unfold Dh;rw[kv];rfl
 obtain rfl:hL=(D++[k]).length:=by rw[hC,aa];rfl
 have hF:(D++[k]).Nodup:=by
  rw[ng];exact⟨h1,by simp,fun a ha b hb e=>by simp at hb;subst hb;subst e;exact hI ha⟩
 have hG:∀y∈D++[k],Cf f y≠none:=fun y hy=>by
  rcases ay.1 hy with hy|hy
  ·exact h3 y hy
  simp at hy;subst hy;rw[hk];simp
 have hN:=kL hc hF hG;refine bS (ι:=Po) (j:=⟨D++[k],fun x=>x==k||done x,some ⟨hJ,0,none⟩,hK⟩) ⟨hF,fun y=>?_,hG⟩ (by simp only[aa,bf]at hN ⊢;omega) BC uI;simp only[ay,bg,wm,beq_iff_eq];rw[h2 y];exact or_comm
end Go.Proofs.YtnicahfnolhgbaaGreatDoor
namespace Sl
open Go Go.RowKit Go.Proofs.YtnicahfnolhgbaaGreatDoor
variable {E:Bp}{n:Nat}{L:Fr}{S S':List HP}{ty:TypeId}{pos:String}{af:Array Edge}{d:Option Nat}{gd:Option (Nat×Bool)}
def Vl {x y:Operand}{b:Nat}{t kt et:TypeId}{V:List Nat}{k:Nat}(ht:E.P.underlying t=some (.map kt et))(hA:E.P.underlying kt=some (.int .i64))(hz:∀w,(zeroValue et).run E.P w= .ok (.int .i64 0) w) (hx:ev L x=some (.map (some b))) (hy:ev L y=some (.int .i64 (k:Nat))) (hm:CO (Bn b .i64 (Dw V)) S S'):
  Yl E n L S ⟨d,.lookup t x y false,ty,pos,af,gd⟩ (.int .i64 (Bh V k:Nat)):=by
 have e:wY false (.int .i64 0) (Dw V (k:Nat))= .int .i64 (Bh V k:Nat):=VY _ _;rw[<-e];exact lY ht hA hz hx hy hm O
end Sl
namespace Go.Proofs.YtnicahfnolhgbaaGreatDoor
open Go Go.RowKit Sl Eg
set_option maxRecDepth 10000
variable {E:Bp}{Es:List Bj}{s most:Nat}
def qOo (hE:BP E){q d}:Ct E 164 [.slice q 0 d,BL 0,BL 0] [] (fun v Q=>v= .tuple #[]/\Q=[]):=by
 refine bO (hE.fn Tryz.func164) O O O (fun R=>?_);simp only[dS,uV,uW];refine Br ?_;refine mV 1 ?_;refine CU ?_;exact Gf O .nil ⟨O,O⟩
def qOw (hE:BP E){q d l}:Ct E 151 [.slice q 0 d,BL 0,BL 0,BL l] [] (fun v Q=>v= .tuple #[]/\Q=[]):=by
 refine bO (hE.fn Tryz.func151) O O O (fun R=>?_);simp only[dS,uV,uW];refine Bo ?_;refine mV 1 ?_;refine DL ?_;refine BH (qOo hE) O ?_;refine Bi ?_;exact uZ O .nil ⟨O,O⟩
def qLt (hE:BP E){q d}:Ct E 124 [.slice q 0 d] [] (fun v Q=>v= .tuple #[]/\Q=[]):=by
 refine bO (hE.fn Tryz.func124) O O O (fun R=>?_);simp only[dS,uV,uW];refine Bq ?_;refine BH (wR hE (k:=0) (by decide)) O ?_;refine BH (qOw hE) O ?_;refine Bv ?_;exact Gf O .nil ⟨O,O⟩
def Kq (ids:List Nat):∀u∈Bg ids,u.oneCell'=true:=fun u h=>by
 obtain⟨x,_,rfl⟩:=jg.1 h;rfl
structure SX where
 i:Nat
 S:List Nat
 sp:Option Addr
 sc:Nat
 St:List Nat
 tp:Option Addr
 tc:Nat
 A:List Nat
def qWo (hE:BP E){d w nb mb c N q v0 v1 v3 v5 v6 v7 v9}{f:List UInt8->Option Nat}{V l}(hV:Fv (BO Es) V)(hN:∀S:List Nat,S.Nodup->(∀x∈S,∃y id,f y=some id/\En (BO Es) id x)->S.length<=N) (hn:N<65536) (hl:∀x∈l,∃id,f x=some id/\id<=Es.length) (gT:l.length<=1000000):
  Ct E 77 [uPt d,uPt w,.slice q l.length c] [cells d [v0,v1,uPt s,v3,.map (some nb),v5,v6,v7] 98,cells w [.map (some mb),v9] 96,dY nb (Cf f),Bn mb .i64 (Dw V),bR s most Es,sl q c 9 1 l.length (Dh l)]
   (fun v Q=>∃W p k,v= .slice p W.length k/\Fv (BO Es) (V++W)/\((∀x∈l,∀id,f x=some id->id=0\/id∈V++W)/\∀x∈W,∃y id,f y=some id/\En (BO Es) id x)/\Q=[cells d [v0,v1,uPt s,v3,.map (some nb),v5,v6,v7] 98,cells w [.map (some mb),v9] 96,dY nb (Cf f),Bn mb .i64 (Dw V),bR s most Es,sl q c 9 1 l.length (Dh l),sl p k 41 1 W.length (Bg W)]):=by
 refine eF (p:=bR s most Es) uK (fun _ h=>dR h) (fun hD=>?_);have hw:=hD.1;have hQ:=hD.2.2;have hW:fJ=1048576:=rfl;have ga:=bQ Es;have hR:E.P.underlying 169=some (.map 41 4):=hE.uu;have hX:E.P.underlying 41=some (.int .i64):=hE.uu;have gb:∀w,(zeroValue 4).run E.P w= .ok (.bool false) w:=hE.zz;have hY:E.P.underlying 94=some (.map 41 3):=hE.uu;have hZ:∀w,(zeroValue 3).run E.P w= .ok (BL 0) w:=hE.zz;have hb:(fun _:Int=>(none:Option Value))=sF []:=by funext x;simp[sF]
 have hc:DD (fun _:Int=>(none:Option Value)) 0 (.bool true)=sF (0::[]):=by
  rw[hb];exact zF [] 0
 refine eF (p:=sl q c 9 1 l.length (Dh l)) uK (fun _ h=>fun hC=>eG h hC) (fun hq=>?_);refine bO (hE.fn Tryz.func77) O O O (fun R=>?_);simp only[dS,uV,uW];refine CP ?_;refine uU (jS .i64 (fun hG=>?_));refine uU ?_;apply XD (kt:=41) (et:=4) hE.uu hE.uu O O O
 ·exact uK
 refine CP ?_;rw[hc];refine fF (fU (t:=41) (sz:=1)) ?_;refine fF (fU (t:=41) (sz:=1)) ?_;refine dX (fun x:SX=>[(0,uPt d),(1,uPt w),(7,.slice x.sp x.S.length x.sc),(8,.slice x.tp 0 x.tc),(9,.map (some hG)),(17,.slice q l.length c),(18,BK l.length),(19,BK (x.i))]) (fun x=>[cells d [v0,v1,uPt s,v3,.map (some nb),v5,v6,v7] 98,cells w [.map (some mb),v9] 96,dY nb (Cf f),Bn mb .i64 (Dw V),bR s most Es,sl q c 9 1 l.length (Dh l),Bn hG .i64 (sF (0::x.S)),sl x.sp x.sc 41 1 x.S.length (Bg x.S),sl x.tp x.tc 41 1 0 [],R]) (fun x=>l.length-x.i) (fun x=>x.i<=l.length/\Gl (BO Es) V [] x.S x.A/\(∀y∈l.take x.i,∀id,f y=some id->id∈x.A)/\∀a∈x.A,∃y,f y=some a) ⟨0,[],none,0,[],none,0,[]⟩ ⟨av _,Gl.nil _ _,(fun y hy=>by simp at hy),fun a h=>by cases h⟩ BC uI ?_;rintro⟨i,S,sp,sc,_,tp,tc,A⟩⟨hi,hI,hA,hB⟩;simp only at hi hI hA hB ⊢;refine CB ?_;refine bE O (fun h1=>?_) (fun h1=>?_)
 ·obtain⟨x,hx⟩:∃x,l[i]?=some x:=BG;obtain⟨gq,rfl⟩:=hq oO;have f0:=Ri hx (((i:Nat):Int).toNat) oO;obtain⟨id,hJ,hd⟩:=hl x (ak hx);have gc:Cf f x=some (BK id):=by unfold Cf;rw[hJ];rfl
  refine Ci ?_;refine uB (mO (kt:=9) (et:=41) (z:= BL 0) hE.uu hE.uu hE.zz rfl rfl uK (by assumption)) ?_;refine uU (aU (hE.t O) (hE.t O) O O O (fun gd=>?_));refine uU (BJ (fun he hf hg hh hK hL=>?_));refine Bz ?_;obtain rfl:hg=([id]:List Nat).length:=hK;obtain rfl:hh=Bg [id]:=by rw[hL];rfl
  have hS:Gl (BO Es) V [id] S (A++[id]):=hI.push oO;have hH:=hI.len;refine dX (fun x:SX=>[(0,uPt d),(1,uPt w),(7,.slice x.sp x.S.length x.sc),(8,.slice x.tp x.St.length x.tc),(9,.map (some hG)),(17,.slice (BM gq) l.length c),(18,BK l.length),(19,BK i)]) (fun x=>[cells d [v0,v1,uPt s,v3,.map (some nb),v5,v6,v7] 98,cells w [.map (some mb),v9] 96,dY nb (Cf f),Bn mb .i64 (Dw V),bR s most Es,sl (BM gq) c 9 1 l.length (Dh l),Bn hG .i64 (sF (0::x.S)),sl x.sp x.sc 41 1 x.S.length (Bg x.S),sl x.tp x.tc 41 1 x.St.length (Bg x.St),R]) (fun x=>2*(Es.length-x.S.length)+x.St.length) (fun x=>Gl (BO Es) V x.St x.S (A++[id])/\x.St.length+2*(Es.length-x.S.length)<=2*Es.length+1) ⟨0,S,sp,sc,[id],some ⟨he,0,none⟩,hf,[]⟩ ⟨hS,by simp only[az,iw];omega⟩ BC uI ?_;clear hS hH hI;rintro⟨_,S,sp,sc,St,tp,tc,_⟩⟨hI,hj⟩;simp only at hI hj ⊢;refine Br ?_;refine bE O (fun h2=>?_) (fun h2=>?_)
  ·rcases bq St with rfl|⟨St',z,rfl⟩
   ·exfalso;simp at h2
   rw[bu]at*;have hm:(St'++[z]).length=St'.length+1:=by rw[aa];rfl
   have ge:=hI.st z BF;refine iO (p:=sl tp tc 41 1 (St'++[z]).length (Bg (St'++[z]))) uK (fun _ h=>And.intro (lX h).1 (eG h oO)) ?_;rintro⟨ho,gt,rfl⟩;have hp:(St'++[z])[St'.length]?=some z:=by rw[bi (ai _),uf];rfl
   have f1:=fT hp ((((St'++[z]).length:Nat):Int)-1).toNat oO;refine FH ?_;refine uB (gF St'.length O O (hE.t O) oO oO) ?_;refine jM (cO (p:=sl (BM gt) tc 41 1 (St'++[z]).length (Bg (St'++[z]))) (p':=sl (BM gt) tc 41 1 St'.length (Bg St')) uK (fun k h=>by have:=zAm (m:=St'.length) h oO;rwa [oV,iF,xq (by simp[Bg])]at this)) ?_;by_cases hF:z∈0::S
   ·have hM:=qSb hF;refine Br ?_;refine uB (lY (kt:=41) (et:=4) (z:= .bool false) hE.uu hE.uu hE.zz rfl rfl uK (by assumption)) ?_;refine CK ?_
    have hs:z=0\/z∈S\/z∈V:=by
     rcases di.1 hF with e| e
     ·exact .inl e
     exact .inr (.inl e)
    refine bS (ι:=SX) (j:=⟨0,S,sp,sc,St',some ⟨gt,0,none⟩,tc,[]⟩) ⟨hI.skip hw hs,BD⟩ BD BC uI
   have hM:=qNp hF;refine Br ?_;refine uB (lY (kt:=41) (et:=4) (z:= .bool false) hE.uu hE.uu hE.zz rfl rfl uK (by assumption)) ?_;refine Bq ?_;refine uB (Vl hY hX hZ O O uK) ?_;refine Bw ?_;refine bE O (fun h3=>?_) (fun h3=>?_)
   ·have hO:z∈V:=by
     by_cases e:z∈V
     ·exact e
     rw[gH.2 e]at h3;simp at h3
    refine CG ?_;refine bS (ι:=SX) (j:=⟨0,S,sp,sc,St',some ⟨gt,0,none⟩,tc,[]⟩) ⟨hI.skip hw (.inr (.inr hO)),BD⟩ BD BC uI
   have hO:z∉V:=fun e=>by
    have:=VE e;omega
   obtain⟨zn,rfl⟩:∃k,z=k+1:=⟨z-1,by
    rcases jo z with e| e
    ·exact absurd (di.2 (.inl e)) hF
    omega⟩
   have ht:zn+1∉S:=fun e=>hF (lg _ e)
   obtain⟨y,hy⟩:∃y,Es[zn]?=some y:=BG;have hu:(BO Es)[zn]?=some y.r:=by unfold BO;rw[bn,hy];rfl
   have hT:=hI.take hw hu ht hO;have hH:=hT.len;have gf:(BZ y.r).length<=2:=(by cases y.r<;>simp[BZ]);rw[aa,bf]at hH;refine CB ?_;refine uU ?_;apply lS (kt:=41) (et:=4) hE.uu hE.uu O O O
   ·exact uK
   refine CL ?_;rw[zF];refine Bz ?_;refine uU (aU (hE.t O) (hE.t O) O O O (fun gg=>?_));refine uU (BJ (fun hv hz h4 h5 h6 hP=>?_));refine Bc ?_;obtain rfl:h4=(S++[zn+1]).length:=by rw[aa,bf];omega
   obtain rfl:h5=Bg (S++[zn+1]):=by rw[hP,iF];rfl
   refine BH (kF hE hy) O ?_;refine CG ?_;refine uU (dA (hE.t O) (fun gh=>?_));refine Bi ?_;refine uX (Uv hE y.r) O ?_;rintro _ _⟨pk,ck,rfl,rfl⟩;simp only[uV,uW];refine lQ (p:=sl pk ck 41 1 (BZ y.r).length (Bg (BZ y.r))) uK (fun _ h=>fun hC=>eG h hC) ?_;intro h7;have h8:Cv E.w0 pk (Bg (BZ y.r)) (sl pk ck 41 1 (BZ y.r).length (Bg (BZ y.r))):=sK (by simp[Bg]) h7
   have h9:(St'.length+(Bg (BZ y.r)).length)*8<=140737488355328:=by
    unfold Bg;rw[jr];omega
   have gA:St'.length+(Bg (BZ y.r)).length<=maxLen:=by
    unfold Bg maxLen;rw[jr];omega
   refine uU (jF (us:=Bg (BZ y.r)) (q:=sl pk ck 41 1 (BZ y.r).length (Bg (BZ y.r))) (hE.t O) (hE.t O) O O O (by simp[Bg]) h8 uK uK (Kq _) h9 gA (fun tp1 tc1 m1 y1 hR gE=>?_));obtain rfl:m1=(St'++BZ y.r).length:=by rw[hR,aa];simp[Bg]
   obtain rfl:y1=Bg (St'++BZ y.r):=by rw[gE,iF]
   refine CG ?_;refine bS (ι:=SX) (j:=⟨0,S++[zn+1],some ⟨hv,0,none⟩,hz,St'++BZ y.r,tp1,tc1,[]⟩) ⟨hT,by simp only[aa,bf];omega⟩ (by simp only[aa,bf];omega) BC uI
  obtain rfl:St=[]:=dw oO;refine Bc ?_;refine bS (ι:=SX) (j:=⟨i+1,S,sp,sc,[],tp,tc,A++[id]⟩) ⟨BD,hI,fun y hy k hk=>?_,fun a ha=>?_⟩ BD ⟨rfl,rfl,rfl,rfl,rfl,rfl,rfl,au some (bW BD),trivial⟩ uI;rw[ed,hx]at hy;rcases ay.1 hy with hy|hy
  ·exact cu _ (hA y hy k hk)
  ·simp at hy;subst hy;rw[hJ]at hk;cases hk
   simp
  rcases ay.1 ha with h| h
  ·exact hB a h
  obtain rfl:=bg.1 h;exact⟨x,hJ⟩
 obtain rfl:i=l.length:=by omega
 rw[nu]at hA;have hH:=hI.len
 have gi:S.length<=N:=hN S hI.nd fun x hx=>by
  have h1:=(hI.rg x hx).1;rcases hI.re x (.inl hx)with e|⟨a,ha,hr⟩
  ·omega
  obtain⟨y,hy⟩:=hB a ha;exact⟨y,a,hy,hr⟩
 refine Br ?_;rcases jo S.length with h0|h0
 ·obtain rfl:=si.1 h0;obtain⟨r1,r2⟩:=hI.lis hV (W:=[]) (List.Perm.refl _) .nil;refine BH (qLt hE) O ?_;refine Bu ?_;exact uZ O (.tmp O .nil) ⟨[],sp,sc,O,r1,⟨fun y hy k hk=>r2 k (hA y hy k hk),fun x h=>by cases h⟩,rfl⟩
 refine lQ (p:=sl sp sc 41 1 S.length (Bg S)) uK (fun _ h=>eG h h0) ?_;rintro⟨gs,rfl⟩;refine uX (qGi (l:=S) hE oO) O ?_;rintro _ _⟨W,rfl,gO,hU,gR,rfl⟩;obtain⟨r1,r2⟩:=hI.lis hV hU gR;have r3:=hI.rea hU;rw[<-gO];simp only[uV,uW];refine Bu ?_;apply cK
 ·rfl
 ·(apply Rs.tmp rfl;exact Rs.nil)
 ·exact⟨W,_,sc,O,r1,⟨fun y hy k hk=>r2 k (hA y hy k hk),fun x h=>by
   obtain⟨a,ha,hr⟩:=r3 x h;obtain⟨y,hy⟩:=hB a ha;exact⟨y,a,hy,hr⟩⟩,rfl⟩
 exact uI
end Go.Proofs.YtnicahfnolhgbaaGreatDoor
namespace Sl
open Go Go.RowKit Go.Proofs.YtnicahfnolhgbaaGreatDoor
variable {E:Bp}{n:Nat}{L:Fr}{S S':List HP}{ty:TypeId}{pos:String}{af:Array Edge}{d:Option Nat}{gd:Option (Nat×Bool)}
def Pd {x y b}{t kt et:TypeId}{f:List UInt8->Option Nat}{k id}(ht:E.P.underlying t=some (.map kt et))(hA:E.P.underlying kt=some .string)(hz:∀w,(zeroValue et).run E.P w= .ok (BL 0) w) (hx:ev L x=some (.map (some b))) (hy:ev L y=some (BN k)) (hm:CO (dY b (Cf f)) S S') (hB:f k=some id):
  Yl E n L S ⟨d,.lookup t x y false,ty,pos,af,gd⟩ (BK id):=
 mO (r:=some (BK id)) (ok:=false) ht hA hz hx hy hm (by unfold Cf;rw[hB];rfl)
end Sl
namespace Go.Proofs.YtnicahfnolhgbaaGreatDoor
open Go Go.RowKit Sl Eg
set_option maxRecDepth 10000
variable {E:Bp}{Es:List Bj}{s most:Nat}
structure Vu where
 i:Nat
 sp:Option Addr
 sc:Nat
 tp:Option Addr
 tc:Nat
structure SS where
 k:Nat
 done:List UInt8
 g:Nat
 c:Nat
def Jn (hE:BP E){d w nb mb c N q v0 v1 v3 v5 v6 v7}{f:List UInt8->Option Nat}{V l}(hV:Fv (BO Es) V)(hN:∀S:List Nat,S.Nodup->(∀x∈S,∃y id,f y=some id/\En (BO Es) id x)->S.length<=N) (hn:N<65536) (hf:∀x id,f x=some id->id<=Es.length) (kA:l.length<=1000000) (ht:∀x∈l,FM x):
  Ct E 44 [uPt d,uPt w,.slice q l.length c] [cells d [v0,v1,uPt s,v3,.map (some nb),v5,v6,v7] 98,dY nb (Cf f),bR s most Es,cells w [.map (some mb),BK V.length] 96,Bn mb .i64 (Dw V),sl q c 9 1 l.length (Dh l)]
   (fun v Q=>∃W g k,v= .slice (BM g) ((Cz (BO Es) V W f l).body V.length).length k/\Fv (BO Es) (V++W)/\((∀x∈l,∀id,f x=some id->id=0\/id∈V++W)/\∀x∈W,∃y id,f y=some id/\En (BO Es) id x)/\((Cz (BO Es) V W f l).body V.length).length<=30+21*N+94*l.length/\Q=[cells d [v0,v1,uPt s,v3,.map (some nb),v5,v6,v7] 98,dY nb (Cf f),bR s most Es,cells w [.map (some mb),BK ((V++W).length)] 96,Bn mb .i64 (Dw (V++W)),sl q c 9 1 l.length (Dh l),sl (BM g) k 5 1 ((Cz (BO Es) V W f l).body V.length).length (Bd ((Cz (BO Es) V W f l).body V.length))]):=by
 refine eF (p:=bR s most Es) uK (fun _ h=>dR h) (fun hO=>?_);have hw:=hO.1;have hu:=hO.2.2;have h2:fJ=1048576:=rfl;have h3:=bQ Es;refine eF (p:=sl q c 9 1 l.length (Dh l)) uK (fun _ h=>fun hD=>eG h hD) (fun hq=>?_);have ha:E.P.underlying 41=some (.int .i64):=hE.uu;have hb:E.P.underlying 94=some (.map 41 3):=hE.uu;have hc:∀w,(zeroValue 3).run E.P w= .ok (BL 0) w:=hE.zz;have h4:E.P.underlying 91=some (.map 9 41):=hE.uu;have h5:E.P.underlying 9=some .string:=hE.uu;have h6:∀w,(zeroValue 41).run E.P w= .ok (BL 0) w:=hE.zz;refine bO (hE.fn Tryz.func44) O O O (fun R=>?_);simp only[dS,uV,uW];refine FH ?_;refine fF (fU (t:=9) (sz:=1)) ?_;refine fF (fU (t:=9) (sz:=1)) ?_
 refine dX (fun x:Vu=>[(0,uPt d),(1,uPt w),(7,.slice x.sp ((l.take x.i).filter fun x=>(f x).isSome).length x.sc),(8,.slice x.tp ((l.take x.i).filter fun x=>(f x).isNone).length x.tc),(25,.slice q l.length c),(26,BK l.length),(27,BK (x.i))]) (fun x=>[cells d [v0,v1,uPt s,v3,.map (some nb),v5,v6,v7] 98,dY nb (Cf f),bR s most Es,cells w [.map (some mb),BK V.length] 96,Bn mb .i64 (Dw V),sl q c 9 1 l.length (Dh l),sl x.sp x.sc 9 1 ((l.take x.i).filter fun x=>(f x).isSome).length (Dh ((l.take x.i).filter fun x=>(f x).isSome)),sl x.tp x.tc 9 1 ((l.take x.i).filter fun x=>(f x).isNone).length (Dh ((l.take x.i).filter fun x=>(f x).isNone)),R]) (fun x=>l.length-x.i) (fun x=>x.i<=l.length) ⟨0,none,0,none,0⟩ (av _) BC uI ?_;rintro⟨i,sp,sc,tp,tc⟩hi;simp only at hi ⊢;refine CB ?_;refine bE O (fun h1=>?_) (fun h1=>?_)
 ·obtain⟨x,hx⟩:∃x,l[i]?=some x:=BG;obtain⟨gq,rfl⟩:=hq oO;have f0:=Ri hx (((i:Nat):Int).toNat) oO;have hd:=um (fun x=>(f x).isSome) (l.take i);have he:=um (fun x=>(f x).isNone) (l.take i);rw[ig]at hd he;cases hH:f x with
  |some id=>
   have h7:Cf f x=some (BK id):=by unfold Cf;rw[hH];rfl
   have e1:=qMh (p:=fun x=>(f x).isSome) hx (by rw[hH];rfl)
   have e2:=qMg (p:=fun x=>(f x).isNone) hx (by rw[hH];rfl)
   refine Cw ?_
   refine uB (mO (kt:=9) (et:=41) (z:= BL 0) hE.uu hE.uu hE.zz rfl rfl uK (by assumption)) ?_
   refine CX ?_
   refine uU (aU (hE.t O) (hE.t O) O O O (fun kB=>?_))
   refine uU (BJ (fun h8 h9 gA gE hg hh=>?_))
   refine Br ?_
   obtain rfl:gA=((l.take (i+1)).filter fun x=>(f x).isSome).length:=by rw[hg,e1,aa];rfl
   obtain rfl:gE=Dh ((l.take (i+1)).filter fun x=>(f x).isSome):=by rw[hh,e1];unfold Dh;rw[kv];rfl
   rw[<-e2]
   refine bS (ι:=Vu) (j:=⟨i+1,some ⟨h8,0,none⟩,h9,tp,tc⟩) BD BD ⟨O,O,O,O,O,O,au some (bW BD),trivial⟩ uI
  |none=>
   have h7:Cf f x=none:=by unfold Cf;rw[hH];rfl
   have e1:=qMg (p:=fun x=>(f x).isSome) hx (by rw[hH];rfl)
   have e2:=qMh (p:=fun x=>(f x).isNone) hx (by rw[hH];rfl)
   refine Cw ?_
   refine uB (mO (kt:=9) (et:=41) (z:= BL 0) hE.uu hE.uu hE.zz rfl rfl uK (by assumption)) ?_
   refine CX ?_
   refine uU (aU (hE.t O) (hE.t O) O O O (fun kO=>?_))
   refine uU (BJ (fun gO gR gT ga hj hk=>?_))
   refine Br ?_
   obtain rfl:gT=((l.take (i+1)).filter fun x=>(f x).isNone).length:=by rw[hj,e2,aa];rfl
   obtain rfl:ga=Dh ((l.take (i+1)).filter fun x=>(f x).isNone):=by rw[hk,e2];unfold Dh;rw[kv];rfl
   rw[<-e1]
   refine bS (ι:=Vu) (j:=⟨i+1,sp,sc,some ⟨gO,0,none⟩,gR⟩) BD BD ⟨O,O,O,O,O,O,au some (bW BD),trivial⟩ uI
 obtain rfl:i=l.length:=by omega
 rw[nu];have hJ:=fun W=>Ja (L:=BO Es) (V:=V) (W:=W) (f:=f) (l:=l)
 obtain⟨S,hS⟩:∃S,S=l.filter fun x=>(f x).isSome:=⟨_,rfl⟩
 obtain⟨T,hT⟩:∃T,T=l.filter fun x=>(f x).isNone:=⟨_,rfl⟩
 have hv:∀x∈S,∃id,f x=some id/\id<=Es.length:=fun x hx=>by
  rw[hS]at hx;have:=(ow.1 hx).2;cases e:f x with
  |none=>rw[e]at this;cases this
  |some id=>exact⟨id,rfl,hf x id e⟩
 have gc:∀x∈S,FM x:=fun x hx=>ht x (by rw[hS]at hx;exact(ow.1 hx).1)
 have gd:∀x∈T,FM x:=fun x hx=>ht x (by rw[hT]at hx;exact(ow.1 hx).1)
 have ka:S.length<=l.length:=by rw[hS];exact um _ _
 have kb:T.length<=l.length:=by rw[hT];exact um _ _
 have hl:∀W:List Nat,(∀x∈S,∀id,f x=some id->id=0\/id∈V++W)->∀x∈l,∀id,f x=some id->id=0\/id∈V++W:=fun W h x hx id hH=>h x (by rw[hS];exact ow.2 ⟨hx,by rw[hH];rfl⟩) id hH
 rw[<-hS,<-hT]at hJ ⊢;refine Bc ?_;refine uX (qWo (N:=N) (V:=V) (l:=S) (v9:= BK V.length) hE hV hN hn hv oO) O ?_;rintro _ _⟨W,pw,cw,rfl,hG,hm,rfl⟩;simp only[uV,uW];have kc:W.length<=N:=hN W (ng.1 hG.acc.1).2.1 hm.2
 have kd:V.length+W.length<=Es.length:=by
  have:=hG.acc.len;rw[aa,h3]at this;exact this
 have ge:=hG.zero;have gf:=gM (n:=W.length) oO;refine Br ?_;refine uX (nG (n:=W.length) hE oO) O ?_;rintro _ _⟨g0,c0,rfl,rfl⟩;simp only[uV,uW];refine lQ (p:=sl pw cw 41 1 W.length (Bg W)) uK (fun _ h=>fun hD=>eG h hD) ?_;intro gg;have gh:(V++W).take V.length=V:=xe;have hF:Dw V=Dw ((V++W).take V.length):=by rw[gh]
 refine Bq ?_;rw[hF]
 refine dX (fun x:SS=>[(0,uPt d),(1,uPt w),(7,.slice sp S.length sc),(8,.slice tp T.length tc),(14,.slice (BM x.g) x.done.length x.c),(58,.slice pw W.length cw),(59,BK W.length),(60,BK (x.k))])
  (fun x=>[cells d [v0,v1,uPt s,v3,.map (some nb),v5,v6,v7] 98,dY nb (Cf f),bR s most Es,cells w [.map (some mb),BK ((V.length+x.k))] 96,Bn mb .i64 (Dw ((V++W).take (V.length+x.k))),sl q c 9 1 l.length (Dh l),sl sp sc 9 1 S.length (Dh S),sl tp tc 9 1 T.length (Dh T),sl pw cw 41 1 W.length (Bg W),sl (BM x.g) x.c 5 1 x.done.length (Bd x.done),R]) (fun x=>W.length-x.k)
  (fun x=>x.k<=W.length/\x.done=BS W.length++FR V.length (Iw (BO Es) V W x.k)/\x.done.length<=10+21*x.k) ⟨0,BS W.length,g0,c0⟩ ⟨av _,by simp[Kj,FR],BD⟩ BC uI ?_
 rintro⟨k,done,g,c1⟩⟨hK,hI,gi⟩;simp only at hK hI gi ⊢;refine CB ?_;refine bE O (fun h=>?_) (fun h=>?_)
 ·have hP:k<W.length:=oO;obtain⟨x,hx⟩:∃x,W[k]?=some x:=⟨_,ag hP⟩;have hW:=JP (V:=V) hx;have ke:=hG.acc.2 x (ak hW);obtain⟨i,rfl⟩:∃i,x=i+1:=⟨x-1,oO⟩;have hL:Es[i]?=some (Es[i]'oO):=ag oO;generalize Es[i]'oO=en at hL;have hX:=tX hL
  have hM:V++W=(V++W).take (V.length+k)++(i+1)::(V++W).drop (V.length+k+1):=by
   have:=dh (V.length+k) (V++W);rw[lK hW]at this;exact this.symm
  have hQ:=hG.ord _ _ _ _ hM hX;have gj:(V++W).take (V.length+k+1)=(V++W).take (V.length+k)++[i+1]:=by rw[ed,hW];rfl
  have gk:((V++W).take (V.length+k)).length=V.length+k:=by rw[ig,aa];omega
  obtain⟨hy,gl⟩:=Xn gj (hw.ok _ _ hX) hQ;rw[gk]at hy
  have ho:gP (V++W) en.r=gP ((V++W).take (V.length+k+1)) en.r:=by
   have:=gl ((V++W).drop (V.length+k+1));rwa [dh]at this
  have hz:0∉(V++W).take (V.length+k+1):=fun h=>ge (mq h)
  have h0:(gP ((V++W).take (V.length+k+1)) en.r).times<=1152921504606846976:=by
   rw[rX];exact qSl hw hX
  have gm:=Xt (V.length+k+1) oO (gP ((V++W).take (V.length+k+1)) en.r) h0;obtain⟨gx,rfl⟩:=gg oO;have f0:=fT hx (0+((k:Nat):Int).toNat) oO;have f1:=fT hx (((k:Nat):Int).toNat) oO;refine Cw ?_;refine BU 68 (BL ((V.length+k+1:Nat):Int)) O (bW oO) ?_;refine CB ?_;refine uN 9 ([cells w [.map (some mb),BL ((V.length+k+1:Nat):Int)] 96]) ?_;refine Bw ?_;apply dG 5 O oK
  ·exact aB O
  ·rfl
  apply dG 6 O oK
  ·exact bA O
  ·rfl
  apply dG 7 O oK
  ·exact EC O
  ·rfl
  apply dG 8 O oK
  ·(apply aO rfl (hE.t rfl) rfl;(repeat(first |rfl|assumption|constructor));done)
  ·rfl
  apply gW O oK oK O;apply lS (kt:=41) (et:=3) hE.uu hE.uu O O O
  ·exact uK
  refine Bv ?_;rw[Yh hW hG.acc.1];refine Bi ?_;refine BH (kF hE hL) O ?_;refine CG ?_;refine uU (dA (hE.t O) (fun hR=>?_));refine Bw ?_;refine uN 8 ([cells w [.map (some mb),BK ((V.length+k+1))] 96,Bn mb .i64 (Dw ((V++W).take (V.length+k+1))),cells hR [BK (Rl.kind (en.r)),.int .u8 (Rl.byte (en.r):Nat),BK (Rl.left (en.r)),BK (Rl.right (en.r)),BK (Rl.times (en.r))] 111]) ?_;refine Bz ?_;apply dG 4 O oK
  ·exact EC O
  ·rfl
  apply dG 5 O oK
  ·(apply aO rfl (hE.t rfl) rfl;(repeat(first |rfl|assumption|constructor));done)
  ·rfl
  apply dG 6 O oK
  ·exact Vl hb ha hc O O uK
  ·rfl
  apply dG 7 O oK
  ·exact EC O
  ·rfl
  apply gW O oK oK O;refine uS ?_;refine CL ?_;refine uN 8 ([cells w [.map (some mb),BK ((V.length+k+1))] 96,Bn mb .i64 (Dw ((V++W).take (V.length+k+1))),cells hR [BK (en.r.kind),.int .u8 (en.r.byte:Nat),BK (Bh ((V++W).take (V.length+k+1)) en.r.left),BK (en.r.right),BK (en.r.times)] 111]) ?_;refine Bz ?_;apply dG 4 O oK
  ·exact EC O
  ·rfl
  apply dG 5 O oK
  ·(apply aO rfl (hE.t rfl) rfl;(repeat(first |rfl|assumption|constructor));done)
  ·rfl
  apply dG 6 O oK
  ·exact Vl hb ha hc O O uK
  ·rfl
  apply dG 7 O oK
  ·exact EC O
  ·rfl
  apply gW O oK oK O;refine uS ?_;refine Bv ?_;refine fF (cO (p:=cells hR [BK (en.r.kind),.int .u8 (en.r.byte:Nat),BK (Bh ((V++W).take (V.length+k+1)) en.r.left),BK (Bh ((V++W).take (V.length+k+1)) en.r.right),BK (en.r.times)] 111) (p':=cells hR [BK (Rl.kind ((gP ((V++W).take (V.length+k+1)) en.r))),.int .u8 (Rl.byte ((gP ((V++W).take (V.length+k+1)) en.r)):Nat),BK (Rl.left ((gP ((V++W).take (V.length+k+1)) en.r))),BK (Rl.right ((gP ((V++W).take (V.length+k+1)) en.r))),BK (Rl.times ((gP ((V++W).take (V.length+k+1)) en.r)))] 111) uK (fun _ h=>by rw[qHj,qHi,qHk hz,Zn hz,rX];exact h)) ?_;refine Bv ?_;refine uH ([cells w [.map (some mb),BL ((V.length+k+1:Nat):Int)] 96,cells hR [BK (Rl.kind ((gP ((V++W).take (V.length+k+1)) en.r))),.int .u8 (Rl.byte ((gP ((V++W).take (V.length+k+1)) en.r)):Nat),BK (Rl.left ((gP ((V++W).take (V.length+k+1)) en.r))),BK (Rl.right ((gP ((V++W).take (V.length+k+1)) en.r))),BK (Rl.times ((gP ((V++W).take (V.length+k+1)) en.r)))] 111]) ?_;refine Bw ?_;apply dH 5 O oK O;refine uC (qXd (r:=gP ((V++W).take (V.length+k+1)) en.r) (n:=V.length+k+1) hE hy oO oO h0) O ?_;rintro _ _⟨gr,cr,rfl,rfl⟩;simp only[uV,uW];refine uE ?_;refine Bc ?_;refine uU ?_
  apply gB (hE.t O) (hE.t O) O O O
  ·exact uK
  ·exact uK
  ·exact gG _
  ·exact gm.1
  ·omega
  ·unfold maxLen;omega
  intro g1 c2 m' x' hA hC;obtain rfl:m'=(done++Co (V.length+k+1) (gP ((V++W).take (V.length+k+1)) en.r)).length:=hA.trans aa.symm;obtain rfl:x'=Bd (done++Co (V.length+k+1) (gP ((V++W).take (V.length+k+1)) en.r)):=hC.trans (fM _ _).symm;clear hA hC;refine Br ?_;refine bS (ι:=SS) (j:=⟨k+1,done++Co (V.length+k+1) (gP ((V++W).take (V.length+k+1)) en.r),g1,c2⟩) ⟨BD,by simp only;rw[qXu hx hX,<-ah,<-hI,ho],by simp only[aa];omega⟩ BD ⟨rfl,rfl,rfl,rfl,rfl,rfl,rfl,au some (bW BD),trivial⟩ ?_;exact uI
 obtain rfl:k=W.length:=by omega
 have gn:(V++W).take (V.length+W.length)=V++W:=fe (by rw[aa];omega);have go:V.length+W.length=(V++W).length:=aa.symm;rw[gn,go];clear h hK;have kf:=gM (n:=S.length) oO;have kh:=gM (n:=T.length) oO;refine Bo ?_;refine uX (nG (n:=S.length) hE oO) O ?_;rintro _ _⟨g2,c2,rfl,rfl⟩;simp only[uV,uW];refine uU ?_;apply gB (hE.t O) (hE.t O) O O O
 ·exact uK
 ·exact uK
 ·exact gG _
 ·exact(jG _)
 ·omega
 ·unfold maxLen;omega
 intro g3 c3 m' x' hA hC;obtain rfl:m'=(done++BS S.length).length:=hA.trans aa.symm;obtain rfl:x'=Bd (done++BS S.length):=hC.trans (fM _ _).symm;clear hA hC;have ki:(done++BS S.length).length=done.length+(BS S.length).length:=aa;refine lQ (p:=sl sp sc 9 1 S.length (Dh S)) uK (fun _ h=>fun hD=>eG h hD) ?_;intro gp;refine Bq ?_
 refine dX (fun x:SS=>[(0,uPt d),(1,uPt w),(8,.slice tp T.length tc),(14,.slice (BM x.g) x.done.length x.c),(124,.slice sp S.length sc),(125,BK S.length),(126,BK (x.k))])
  (fun x=>[cells d [v0,v1,uPt s,v3,.map (some nb),v5,v6,v7] 98,dY nb (Cf f),bR s most Es,cells w [.map (some mb),BK ((V++W).length)] 96,Bn mb .i64 (Dw (V++W)),sl q c 9 1 l.length (Dh l),sl sp sc 9 1 S.length (Dh S),sl tp tc 9 1 T.length (Dh T),sl (BM x.g) x.c 5 1 x.done.length (Bd x.done),R]) (fun x=>S.length-x.k)
  (fun x=>x.k<=S.length/\x.done=done++BS S.length++GY (JB (V++W) f (S.take x.k))/\x.done.length<=10+21*W.length+10+52*x.k) ⟨0,done++BS S.length,g3,c3⟩ ⟨av _,by simp[GY,JB],BD⟩ BC uI ?_
 rintro⟨k,dn,g,c1⟩⟨hK,hY,hp⟩;simp only at hK hY hp ⊢;refine CB ?_;refine bE O (fun h=>?_) (fun h=>?_)
 ·have hP:k<S.length:=oO;obtain⟨x,hx⟩:∃x,S[k]?=some x:=⟨_,ag hP⟩;obtain⟨id,hH,gt⟩:=hv x (ak hx);have hr:=gc x (ak hx);have gu:=hr.2;obtain⟨gs,rfl⟩:=gp oO;have f0:=Ri hx (((k:Nat):Int).toNat) oO;have kj:=qG (V++W) id;have gv:=gM (n:=x.length) oO;have kk:=gM (n:=Bh (V++W) id) oO;have gw:(eY x).length=(BS x.length).length+x.length:=aa;have hs:0<(eY x).length:=by have:=jG x.length;omega
  refine CK ?_;refine uU (Xe O (hE.t O) (hE.t O) (hE.t O) (fun gb cb=>?_));refine uX (wQ (g:=gb) (c:=cb) (bs:=x) hE oO) O ?_;rintro _ _⟨g4,c4,rfl,rfl⟩;simp only[uV,uW];refine uU ?_;apply gB (hE.t O) (hE.t O) O O O
  ·exact uK
  ·exact uK
  ·exact gG _
  ·exact hs
  ·omega
  ·unfold maxLen;omega
  intro g5 c5 m' x' hA hC;obtain rfl:m'=(dn++eY x).length:=hA.trans aa.symm;obtain rfl:x'=Bd (dn++eY x):=hC.trans (fM _ _).symm;clear hA hC;have gy:(dn++eY x).length=dn.length+(eY x).length:=aa;refine CG ?_;refine uH ([cells d [v0,v1,uPt s,v3,.map (some nb),v5,v6,v7] 98,dY nb (Cf f),bR s most Es,cells w [.map (some mb),BK ((V++W).length)] 96,Bn mb .i64 (Dw (V++W))]) ?_;refine Bc ?_;refine uD 10 O (Pd h4 h5 h6 O O (by((repeat constructor);done)) hH) ?_;refine uD 11 O (Vl hb ha hc O O (by((repeat constructor);done))) ?_;refine Bv ?_;apply dH 13 O oK O;refine uC (nG (n:=Bh (V++W) id) hE oO) O ?_;rintro _ _⟨g6,c6,rfl,rfl⟩;simp only[uV,uW];refine uE ?_;apply dH 14 O oK O;apply gB (hE.t O) (hE.t O) O O O
  ·exact uK
  ·exact uK
  ·exact gG _
  ·exact(jG _)
  ·omega
  ·unfold maxLen;omega
  intro g7 c7 m' x' hA hC;obtain rfl:m'=(dn++eY x++BS (Bh (V++W) id)).length:=hA.trans aa.symm;obtain rfl:x'=Bd (dn++eY x++BS (Bh (V++W) id)):=hC.trans (fM _ _).symm;clear hA hC;have kl:(dn++eY x++BS (Bh (V++W) id)).length=(dn++eY x).length+(BS (Bh (V++W) id)).length:=aa;refine uE ?_;refine Br ?_;refine bS (ι:=SS) (j:=⟨k+1,dn++eY x++BS (Bh (V++W) id),g7,c7⟩) ⟨BD,by simp only;rw[qUy (V++W) hx hH,hY];simp only[ah],BD⟩ BD ⟨rfl,rfl,rfl,rfl,rfl,rfl,au some (bW BD),trivial⟩ ?_;exact uI
 obtain rfl:k=S.length:=by omega
 rw[nu]at hY;clear h hK;refine Bo ?_;refine uX (nG (n:=T.length) hE oO) O ?_;rintro _ _⟨g8,c8,rfl,rfl⟩;simp only[uV,uW];refine uU ?_;apply gB (hE.t O) (hE.t O) O O O
 ·exact uK
 ·exact uK
 ·exact gG _
 ·exact(jG _)
 ·omega
 ·unfold maxLen;omega
 intro g9 c9 m' x' hA hC;obtain rfl:m'=(dn++BS T.length).length:=hA.trans aa.symm;obtain rfl:x'=Bd (dn++BS T.length):=hC.trans (fM _ _).symm;clear hA hC;have km:(dn++BS T.length).length=dn.length+(BS T.length).length:=aa;refine lQ (p:=sl tp tc 9 1 T.length (Dh T)) uK (fun _ h=>fun hD=>eG h hD) ?_;intro gz;refine Bq ?_
 refine dX (fun x:SS=>[(0,uPt d),(1,uPt w),(14,.slice (BM x.g) x.done.length x.c),(157,.slice tp T.length tc),(158,BK T.length),(159,BK (x.k))])
  (fun x=>[cells d [v0,v1,uPt s,v3,.map (some nb),v5,v6,v7] 98,dY nb (Cf f),bR s most Es,cells w [.map (some mb),BK ((V++W).length)] 96,Bn mb .i64 (Dw (V++W)),sl q c 9 1 l.length (Dh l),sl tp tc 9 1 T.length (Dh T),sl (BM x.g) x.c 5 1 x.done.length (Bd x.done),R]) (fun x=>T.length-x.k)
  (fun x=>x.k<=T.length/\x.done=dn++BS T.length++Mw (T.take x.k)/\x.done.length<=10+21*W.length+10+52*S.length+10+42*x.k) ⟨0,dn++BS T.length,g9,c9⟩ ⟨av _,by simp[Mw],BD⟩ BC uI ?_
 rintro⟨k,dm,g,c1⟩⟨hK,hZ,hU⟩;simp only at hK hZ hU ⊢;refine CB ?_;refine bE O (fun h=>?_) (fun h=>?_)
 ·have hP:k<T.length:=oO;obtain⟨x,hx⟩:∃x,T[k]?=some x:=⟨_,ag hP⟩;have hr:=gd x (ak hx);have gu:=hr.2;obtain⟨gs,rfl⟩:=gz oO;have f0:=Ri hx (((k:Nat):Int).toNat) oO;have gv:=gM (n:=x.length) oO;have gw:(eY x).length=(BS x.length).length+x.length:=aa;have hs:0<(eY x).length:=by have:=jG x.length;omega
  refine CU ?_;refine uU (Xe O (hE.t O) (hE.t O) (hE.t O) (fun gb cb=>?_));refine uX (wQ (g:=gb) (c:=cb) (bs:=x) hE oO) O ?_;rintro _ _⟨g4,c4,rfl,rfl⟩;simp only[uV,uW];refine uU ?_;apply gB (hE.t O) (hE.t O) O O O
  ·exact uK
  ·exact uK
  ·exact gG _
  ·exact hs
  ·omega
  ·unfold maxLen;omega
  intro g5 c5 m' x' hA hC;obtain rfl:m'=(dm++eY x).length:=hA.trans aa.symm;obtain rfl:x'=Bd (dm++eY x):=hC.trans (fM _ _).symm;clear hA hC;have gy:(dm++eY x).length=dm.length+(eY x).length:=aa;refine Br ?_;refine bS (ι:=SS) (j:=⟨k+1,dm++eY x,g5,c5⟩) ⟨BD,by simp only;rw[KR hx,hZ];simp only[ah],BD⟩ BD ⟨rfl,rfl,rfl,rfl,rfl,au some (bW BD),trivial⟩ ?_;exact uI
 obtain rfl:k=T.length:=by omega
 rw[nu]at hZ
 have hB:dm=(Cz (BO Es) V W f l).body V.length:=by
  rw[hJ W,hZ,hY,hI]
 rw[hB]at hU ⊢;refine Bq ?_;exact uZ O (.tmp O .nil) ⟨W,g,c1,O,hG,⟨hl W hm.1,hm.2⟩,oO,O⟩
end Go.Proofs.YtnicahfnolhgbaaGreatDoor
namespace Sl
open Go Go.RowKit Go.Proofs.YtnicahfnolhgbaaGreatDoor
variable {E:Bp}{n:Nat}{L:Fr}{H H':List HP}
def OP {K:Value->List HP->Prop}{op p φ}(ht:CO p H H')(h:∀k,p k->φ) (hw:φ->Ld E n L H op K):Ld E n L H op K:=
 fun Q next a w g hn=>by
 obtain⟨_,_,_,_,hp,_⟩:=ht.out g.hp.hp
 exact hw (h _ hp) Q next a w g hn
end Sl
namespace Go.Proofs.YtnicahfnolhgbaaGreatDoor
open Go Go.RowKit Sl Eg
set_option maxRecDepth 10000
section
variable {E:Bp}{Es:List Bj}{s most:Nat}
def IL (ch:List UInt8->Bool)(k:Nat):Prop:=∃D:List (List UInt8),D.length<=k/\∀x,ch x=true->x∈D/\FM x
def Ya {ch:List UInt8->Bool}{x}:GD ch x≠none↔ch x=true:=by
 unfold GD;by_cases h:ch x=true
 ·simp[h]
 simp[h]
def IL.cnt {ch:List UInt8->Bool}{k n}(h:IL ch k)(hc:GM (GD ch) n):n<=k:=by
 obtain⟨D,h1,h2⟩:=h;obtain⟨M,h3,h4,rfl⟩:=hc
 have:=tO h3 (B:=D) fun x hx=>(h2 x (by
  have:=nR.1 hx;rw[h4]at this;exact Ya.1 this)).1
 rw[jr]at this;omega
def IL.set {ch:List UInt8->Bool}{k}(h:IL ch k){x}(hx:FM x):IL (fun y=>y==x||ch y) (k+1):=by
 obtain⟨D,h1,h2⟩:=h;refine⟨x::D,by rw[az];omega,fun y hy=>?_⟩;simp only[wm,beq_iff_eq]at hy;rcases hy with rfl|hy
 ·exact⟨nk,hx⟩
 exact⟨lg _ (h2 y hy).1,(h2 y hy).2⟩
def qOi (hE:BP E){p d a n m N nm n1}{f:List UInt8->Option Nat}{ch:List UInt8->Bool}{V x0 x1}(hp:p.up)(hS:p.fin.up)(hT:FM nm)(hV:Fv (BO Es) V)(hf:∀x id,f x=some id->id<=Es.length)
  (hc:IL ch m) (hN:∀S:List Nat,S.Nodup->(∀x∈S,∃y id,f y=some id/\En (BO Es) id x)->S.length<=N) (hH:N<65536) (ht:21*N+94*m<=1000000) (hu:n=Ht x0) (hv:Ht x0<=15000000):
  Ct E 15 [uPt d] [GG d a nm s f ch V n,bR s most Es,Dt a nm n1 x0 x1 p]
   (fun v Q=>v= .nilIface/\(((∀x,ch x=false)/\Q=[GG d a nm s f ch V n,bR s most Es,Dt a nm n1 x0 x1 p])\/
    ∃W l,(l.Nodup/\(∀x,x∈l↔ch x=true)/\Fv (BO Es) (V++W)/\(∀x id,ch x=true->f x=some id->id=0\/id∈V++W)/\((Cz (BO Es) V W f l).body V.length).length<=30+21*N+94*m/\l.length<=m)/\
     Q=[GG d a nm s f (fun _=>false) (V++W) (n+(Et ((Cz (BO Es) V W f l).pay V.length)).length),bR s most Es,Dt a nm n1 (some ⟨(JO x0 (Et ((Cz (BO Es) V W f l).pay V.length))).data,(JO x0 (Et ((Cz (BO Es) V W f l).pay V.length))).data.length⟩) x1 p.fin.fin])):=by
 have hU:E.P.underlying 92=some (.map 9 4):=hE.uu;refine Sl.ct_open (p:=GG d a nm s f ch V n) (ps:=fun i:{i:SV//i.sz=n/\i.ct<=n}=>[cells d [uPt a,BN nm,uPt s,.pointer (BM i.1.l),.map (some i.1.nb),.map (some i.1.cb),.pointer (BM i.1.wb),.bool false] 98,cells i.1.wb [.map (some i.1.mb),BK V.length] 96,dY i.1.nb (Cf f),dY i.1.cb (GD ch),Bn i.1.mb .i64 (Dw V),cells i.1.l [uPt a,BN nm,BK (i.1.ct),BK (i.1.sz),.bool false] 139]) (fun k⟨i,hi,h⟩=>⟨⟨i,hi⟩,h⟩) ?_;rintro⟨i,hi⟩;simp only;refine eF (p:=dY i.cb (GD ch)) uK (fun _ h=>VC h) ?_;rintro⟨nn,hB⟩;have hn:=hc.cnt hB;refine bO (hE.fn Tryz.func15) O O O (fun R=>?_);simp only[dS,uV,uW];refine Bu ?_;refine BH (sP hE) O ?_;refine Dv ?_;refine uB (qVg (kt:=9) (et:=4) hE.uu O uK (by assumption)) ?_;refine CG ?_;refine bE O (fun h0=>?_) (fun h0=>?_)
 ·obtain rfl:nn=0:=by omega
  refine fF (fZ (ps:=[cells d [uPt a,BN nm,uPt s,.pointer (BM i.l),.map (some i.nb),.map (some i.cb),.pointer (BM i.wb),.bool false] 98,cells i.wb [.map (some i.mb),BK V.length] 96,dY i.nb (Cf f),dY i.cb (GD ch),Bn i.mb .i64 (Dw V),cells i.l [uPt a,BN nm,BK (i.ct),BK (i.sz),.bool false] 139]) (p:=GG d a nm s f ch V n) uK (fun k h=>⟨i,hi,h⟩)) ?_;refine Bi ?_;apply cK
  ·rfl
  ·(apply Rs.tmp rfl;exact Rs.nil)
  ·refine⟨O,.inl ⟨fun x=>?_,O⟩⟩;have:=hB.none x;cases e:ch x with
   |false=>rfl
   |true=>exact absurd this (Ya.2 e)
  exact uI
 refine CU ?_;refine jM (fU (t:=9) (sz:=1)) ?_;refine uU ?_;apply yQ hU O uK;intro br;refine CG ?_;refine dX (fun x:Po=>[(0,uPt d),(3,.slice x.q x.D.length x.d),(24,uPt br)]) (fun x=>[Io br i.cb (GD ch) x.done,cells d [uPt a,BN nm,uPt s,.pointer (BM i.l),.map (some i.nb),.map (some i.cb),.pointer (BM i.wb),.bool false] 98,cells i.wb [.map (some i.mb),BK V.length] 96,dY i.nb (Cf f),Bn i.mb .i64 (Dw V),cells i.l [uPt a,BN nm,BK (i.ct),BK (i.sz),.bool false] 139,bR s most Es,Dt a nm n1 x0 x1 p,sl x.q x.d 9 1 x.D.length (Dh x.D),R]) (fun x=>nn+1-x.D.length) (fun x=>x.D.Nodup/\(∀y,y∈x.D↔x.done y=true)/\∀y∈x.D,GD ch y≠none) ⟨[],fun _=>false,none,0⟩ ⟨.nil,fun y=>by simp,fun y h=>by simp at h⟩ BC uI ?_;rintro⟨D,done,q,dd⟩⟨h1,h2,h3⟩;simp only at h1 h2 h3 ⊢;have hw:=kL hB h1 h3;refine CL ?_;refine uU ?_;apply VA O uK
 ·intro hI;refine Bw ?_;refine fF (cO (p:=Io br i.cb (GD ch) done) (p':=dY i.cb (GD ch)) uK (fun k h=>Xr h)) ?_
  have hC:∀x,x∈D↔GD ch x≠none:=fun x=>⟨h3 x,fun hx=>by
   cases e:GD ch x with
   |none=>exact absurd e hx
   |some v=>exact(h2 x).2 (hI x v e)⟩
  have hF:0<D.length:=by
   rcases jo D.length with h| h
   ·exfalso;obtain rfl:=si.1 h;obtain⟨M,m1,m2,m3⟩:=hB;cases M with
    |nil=>exact h0 (by rw[<-m3];rfl)
    |cons x M=>
     have:=(hC x.1).2 (by rw[<-m2];simp[List.lookup])
     simp at this
   exact h
  refine iO (p:=sl q dd 9 1 D.length (Dh D)) uK (fun _ h=>eG h hF) ?_;rintro⟨g,rfl⟩;refine Br ?_;refine uX (wT hE oO) O ?_;rintro _ _⟨l,rfl,hG,hs,rfl⟩;rw[<-hG.length_eq];have hA:∀x,x∈l↔ch x=true:=fun x=>(hG.mem_iff).trans ((hC x).trans Ya)
  have hW:l.length<=m:=by
   rw[hG.length_eq];omega
  have hX:∀x∈l,FM x:=fun x hx=>by
   obtain⟨D0,_,hD⟩:=hc;exact(hD x ((hA x).1 hx)).2
  simp only[uV,uW];refine Bz ?_;refine uH ([cells d [uPt a,BN nm,uPt s,.pointer (BM i.l),.map (some i.nb),.map (some i.cb),.pointer (BM i.wb),.bool false] 98]) ?_;refine Bc ?_;apply dH 10 O oK O;refine uC (Jn (N:=N) (V:=V) (l:=l) hE hV hN hH hf oO hX) O ?_;rintro _ _⟨W,gb,kb,rfl,hJ,hY,hZ,rfl⟩;obtain⟨bs,hK⟩:∃bs,bs=(Cz (BO Es) V W f l).body V.length:=⟨_,rfl⟩;rw[<-hK]at hZ ⊢;simp only[uV,uW];refine uE ?_;apply dH 11 O oK O;refine OP (p:=sl (BM gb) kb 5 1 bs.length (Bd bs)) uK (fun _ h=>(lX h).1) ?_;intro hL;have he:Cv E.w0 (BM gb) (Bd bs) (sl (BM gb) kb 5 1 bs.length (Bd bs)):=sK (fK _) (fun _=>⟨gb,O⟩);refine uC (qWm (bs:=bs) (a:=a) (n0:=nm) (n1:=n1) (x0:=x0) (x1:=x1) (ct:=i.ct) (sz:=i.sz) hE hp hS hT he hL oO oO oO oO) O ?_;rintro _ _⟨rfl,rfl⟩;simp only[uV,uW];have hg:Fz bs=(Cz (BO Es) V W f l).pay V.length:=by rw[hK];rfl
  rw[hg];refine uE ?_;refine CK ?_;refine uU (eQ (fun hM=>?_));refine Bw ?_
  refine fF (fZ (ps:=[cells d [uPt a,BN nm,uPt s,.pointer (BM i.l),.map (some i.nb),.map (some hM),.pointer (BM i.wb),.bool false] 98,cells i.wb [.map (some i.mb),BK ((V++W).length)] 96,dY i.nb (Cf f),dY hM (fun _=>none),Bn i.mb .i64 (Dw (V++W)),cells i.l [uPt a,BN nm,BK ((i.ct+1)),BK ((i.sz+(Et ((Cz (BO Es) V W f l).pay V.length)).length)),.bool false] 139]) (p:=GG d a nm s f (fun _=>false) (V++W) (n+(Et ((Cz (BO Es) V W f l).pay V.length)).length)) uK (fun k h=>⟨⟨i.l,i.nb,hM,i.wb,i.mb,i.ct+1,i.sz+(Et ((Cz (BO Es) V W f l).pay V.length)).length⟩,⟨BD,by
   have:=wZ ((Cz (BO Es) V W f l).pay V.length);simp only;omega⟩,by rw[qVr];exact h⟩)) ?_
  refine CB ?_;exact uZ O (.tmp O .nil) ⟨O,.inr ⟨W,l,⟨hG.nodup_iff.2 h1,hA,hJ,fun x id hx hh=>hY.1 x ((hA x).2 hx) id hh,by rw[<-hK];omega,hW⟩,rfl⟩⟩
 intro k v hk hd;refine Bc ?_;refine uB (VM O uK) ?_;refine jM (fun _ h=>eU (fun _ x=>Va x) h) ?_
 have hj:k∉D:=fun h=>by
  have:=(h2 k).1 h;rw[hd]at this;cases this
 refine Bi ?_;refine uU (aU (hE.t O) (hE.t O) O O O (fun hz=>?_));refine uU (BJ (fun hl hm ho hq hO hP=>?_));refine CG ?_;obtain rfl:hq=Dh (D++[k]):=by rw[hP];unfold Dh;rw[kv];rfl
 obtain rfl:ho=(D++[k]).length:=by rw[hO,aa];rfl
 have hQ:(D++[k]).Nodup:=by
  rw[ng];exact⟨h1,by simp,fun a ha b hb e=>by simp at hb;subst hb;subst e;exact hj ha⟩
 have hR:∀y∈D++[k],GD ch y≠none:=fun y hy=>by
  rcases ay.1 hy with hy|hy
  ·exact h3 y hy
  simp at hy;subst hy;rw[hk];simp
 have hr:=kL hB hQ hR;refine bS (ι:=Po) (j:=⟨D++[k],fun x=>x==k||done x,some ⟨hl,0,none⟩,hm⟩) ⟨hQ,fun y=>?_,hR⟩ (by simp only[aa,bf]at hr ⊢;omega) BC uI;simp only[ay,bg,wm,beq_iff_eq];rw[h2 y];exact or_comm
end
section
variable {E:Bp}{Es:List Bj}{s most:Nat}
def RX {f:List UInt8->Option Nat}{x}:Cf f x≠none↔f x≠none:=by
 unfold Cf;cases f x<;>simp
end
