import Derived.Test.YtnicahfnolhgbaaGreatDoorQ97
import Derived.Test.YtnicahfnolhgbaaGreatDoorQ98
import Derived.Test.YtnicahfnolhgbaaGreatDoorQ9A
set_option linter.all false
set_option maxHeartbeats 1000000
namespace Go.Proofs.YtnicahfnolhgbaaGreatDoor
open Go Go.RowKit Sl Eg
set_option maxRecDepth 10000
variable {E:Bp}
structure Fl where
 data:List UInt8
 synced:Nat
def RA (c:Nat)(x:Fl):HP:=fun h=>∃i:Option Addr×Nat,dW [cells c [.slice i.1 (x).data.length i.2,.int .i64 ((x).synced:Nat)] 128,sl i.1 i.2 5 1 (x).data.length (Bd (x).data)] h
def Cm:Option Nat->Option Fl->HP
 |none,none=>dW []
 |some c,some x=>RA c x
 |_,_=>fun _=>False
def NA (c:Nat):Value:=uPt c
def Eo (n0 n1:List UInt8)(p0 p1:Option Nat):List UInt8->Option Value:=fun k=>if k=n0 then p0.map NA else if k=n1 then p1.map NA else none
structure Dr where
 off:Bool
 lim:Bool
 left:Nat
def Dr.up (p:Dr):Prop:=p.off=false/\(p.lim=true->1<=p.left/\p.left<=1000000)
def Dr.fin (p:Dr):Dr:=if p.lim then {p with left:=p.left-1}else p
def Dr.on:Dr:=⟨false,false,0⟩
def Dr.on_up:Dr.on.up:=⟨rfl,fun h=>by cases h⟩
structure Qc where
 b:Nat
 p0:Option Nat
 p1:Option Nat
def Dt (a:Nat)(n0 n1:List UInt8)(x0 x1:Option Fl)(p:Dr):HP:=fun h=>∃i:Qc,dW [cells a [.map (some i.b),.bool p.off,.bool p.lim,.int .i64 (p.left:Nat)] 77,dY i.b (Eo n0 n1 i.p0 i.p1),Cm i.p0 x0,Cm i.p1 x1] h
def Ny (n0 n1:List UInt8):Eo n0 n1 none none=fun _=>none:=by funext k;unfold Eo;simp
def vT (n0 n1:List UInt8)(p0 p1:Option Nat):Eo n0 n1 p0 p1 n0=p0.map NA:=by unfold Eo;simp
def qYi (n0 n1:List UInt8)(p0 p1:Option Nat)(c:Nat):xJ (Eo n0 n1 p0 p1) n0 (NA c)=Eo n0 n1 (some c) p1:=by
 funext k;unfold xJ Eo;by_cases h:k=n0
 ·rw[if_pos h,if_pos h];rfl
 rw[if_neg h,if_neg h,if_neg h]
def Kb {n0 n1}(h:n0≠n1)(p0 p1:Option Nat):Eo n0 n1 p0 p1=Eo n1 n0 p1 p0:=by
 funext k;unfold Eo;by_cases h0:k=n0
 ·subst h0;rw[if_pos rfl,if_neg h,if_pos rfl]
 rw[if_neg h0];by_cases h1:k=n1
 ·rw[if_pos h1,if_pos h1]
 rw[if_neg h1,if_neg h1,if_neg h0]
def qRf {a n0 n1 x0 x1 p}(hn:n0≠n1){h}(x:Dt a n0 n1 x0 x1 p h):Dt a n1 n0 x1 x0 p h:=by
 obtain⟨⟨b,p0,p1⟩,hs⟩:=x;refine⟨⟨b,p1,p0⟩,?_⟩;simp only at hs ⊢;rw[<-Kb hn];exact fG (fun _=>fG (fun _=>gK)) hs
def Ri {l i x}(h:l[i]?=some x)(o:Nat)(ho:o=i):(Dh l)[o]?=some (BN x):=by
 subst ho;unfold Dh;rw[bn,h];rfl
def XP {H}:∀k,dW H k->dW (dW []::H) k:=fun k x=>⟨fun _=>none,k,fun _=> .inl rfl,by funext b;simp[join],trivial,x⟩
def Jr (hE:BP E){n0 n1}:Ct E 6 [] [] (fun v Q=>∃a,v=uPt a/\Q=[Dt a n0 n1 none none Dr.on]):=by
 refine bO (hE.fn Tryz.func6) O O O (fun R=>?_);simp only[dS,uV,uW];refine Bi ?_;refine uU (eQ (fun b1=>?_));refine Bv ?_;refine uU (gN O (fun b3=>?_));refine Bz ?_;apply cK
 ·rfl
 ·(apply Rs.tmp rfl;exact Rs.nil)
 ·exact⟨b3,O,O⟩
 refine fZ (ps:=[cells b3 [.map (some b1),.bool Dr.on.off,.bool Dr.on.lim,BK (Dr.on.left)] 77,dY b1 (fun _=>none)]) uK (fun k h=>⟨⟨b1,none,none⟩,?_⟩);rw[Ny];exact fG (fun k h=>fG (fun k h=>XP k (XP k h)) h) h
def FM (x:List UInt8):Prop:=1<=x.length/\x.length<=32
def qTk (hE:BP E){x}(hx:FM x):Ct E 126 [BN x] [] (fun v Q=>v= .bool true/\Q=[]):=by
 obtain⟨h1,h2⟩:=hx;have hs:(⟨⟨x⟩⟩:ByteArray).size=x.length:=rfl;refine bO (hE.fn Tryz.func126) O O O (fun R=>?_);simp only[dS,uV,uW];refine Bo ?_;refine dV 6 O (fun c1=>?_) (fun c1=>?_)
 ·refine Bo ?_;exact uZ O (.tmp O .nil) ⟨au Value.bool (oI oO),O⟩
 exfalso;omega
def qGg (hE:BP E){p:Dr}{a b g c:Nat}{ns:List (List UInt8)}(hn:ns.length<=1000)(hv:∀x∈ns,FM x) (hp:p.up):Ct E 80 [uPt a,.slice (some ⟨g,0,none⟩) ns.length c] [cells a [.map (some b),.bool p.off,.bool p.lim,.int .i64 (p.left:Nat)] 77,sl (some ⟨g,0,none⟩) c 9 1 ns.length (Dh ns)]
  (fun v Q=>v= .nilIface/\Q=[cells a [.map (some b),.bool p.off,.bool p.lim,.int .i64 (p.left:Nat)] 77,sl (some ⟨g,0,none⟩) c 9 1 ns.length (Dh ns)]):=by
 obtain⟨off,lim,left⟩:=p;obtain⟨h1,h2⟩:=hp;simp only at h1 h2 ⊢;subst h1;refine bO (hE.fn Tryz.func80) O O O (fun R=>?_);simp only[dS,uV,uW];refine Dv ?_;refine dX (fun i:Nat=>[(0,uPt a),(10,.slice (some ⟨g,0,none⟩) ns.length c),(11,.int .i64 (ns.length:Nat)),(12,.int .i64 (i:Nat))]) (fun i=>[cells a [.map (some b),.bool (⟨false,lim,left⟩:Dr).off,.bool (⟨false,lim,left⟩:Dr).lim,.int .i64 ((⟨false,lim,left⟩:Dr).left:Nat)] 77,sl (some ⟨g,0,none⟩) c 9 1 ns.length (Dh ns),R]) (fun i=>ns.length-i) (fun i=>i<=ns.length) 0 (av _) BC uI ?_;rintro i hi;refine CB ?_;refine bE O (fun c1=>?_) (fun c1=>?_)
 ·obtain⟨x,hx⟩:∃x,ns[i]?=some x:=BG;have f0:=Ri hx (((i:Nat):Int).toNat) oO;refine CU ?_;refine BH (qTk hE (hv x (ak hx))) O ?_;refine Bo ?_;refine bS (ι:=Nat) (j:=i+1) oO oO ⟨O,O,O,au some (bW oO),trivial⟩ uI
 refine CP ?_;cases lim with
 |false=>
  refine Hw ?_
  exact uZ O (.tmp O .nil) ⟨O,O⟩
 |true=>
  obtain⟨h3,h4⟩:=h2 rfl
  refine CP ?_
  refine bE O (fun c2=>?_) (fun c2=>?_)
  ·exfalso
   simp at c2
   omega
  refine FH ?_
  exact uZ O (.tmp O .nil) ⟨O,O⟩
def Wv (hE:BP E){p:Dr}{a b:Nat}(hp:p.up):Ct E 81 [uPt a] [cells a [.map (some b),.bool p.off,.bool p.lim,.int .i64 (p.left:Nat)] 77] (fun v Q=>v= .tuple #[]/\Q=[cells a [.map (some b),.bool p.fin.off,.bool p.fin.lim,.int .i64 (p.fin.left:Nat)] 77]):=by
 obtain⟨off,lim,left⟩:=p;obtain⟨h1,h2⟩:=hp;simp only at h1 h2 ⊢;subst h1;refine bO (hE.fn Tryz.func81) O O O (fun R=>?_);simp only[dS,uV,uW];refine Br ?_;cases lim with
 |false=>
  refine CL ?_
  exact Gf O .nil ⟨O,O⟩
 |true=>
  obtain⟨h3,h4⟩:=h2 rfl
  refine Bi ?_
  refine BU 10 (.int .i64 ((left-1:Nat):Int)) O (bW oO) ?_
  refine Bz ?_
  exact Gf O .nil ⟨O,O⟩
end Go.Proofs.YtnicahfnolhgbaaGreatDoor
namespace Sl
open Go Go.RowKit
variable {E:Bp}{n:Nat}{L:Fr}{S:List HP}{ty:TypeId}{pos:String}{af:Array Edge}{d:Option Nat}{gd:Option (Nat×Bool)}
def qXy {P}{t k e:TypeId}(hu:P.underlying t=some (.map k e))(p:Option Nat)(w:World):(Op.equal t (.map p) (.map none)).run P w= .ok p.isNone w:=by
 unfold Op.equal;rw[show Op.maxDepth=9999+1 from rfl,Op.equalIn];cases p<;>simp[underlying,program,Sem.run,hu]
def Mg {x}{t yt k e:TypeId}{p}(hx:ev L x=some (.map p))(ht:E.P.underlying t=some (.map k e)):
  Yl E n L S ⟨d,.binOp .eql t x (.const (.map none)) yt,ty,pos,af,gd⟩ (.bool p.isNone):=fun ac w g _=>by
 have hy:ac.eval (.const (.map none))= .map none:=rfl;have h1:∀w,(eqGuard .eql t x (.const (.map none)) (.map p) (.map none)).run E.P w= .ok () w:=fun w=>by unfold eqGuard;split <;>simp
 simp[execOp,h1,binOp,qXy ht,g.ev hx,hy]
end Sl
namespace Go.Proofs.YtnicahfnolhgbaaGreatDoor
open Go Go.RowKit Sl Eg
set_option maxRecDepth 10000
section
variable {E:Bp}
def qLj (hE:BP E){bs a c q}(hq:Cv E.w0 a (Bd bs) q)(hn:bs.length<=1099511627776):Ct E 82 [.slice a bs.length c] [q] (fun v Q=>∃p c',v= .slice p bs.length c'/\Q=[sl p c' 5 1 bs.length (Bd bs),q]):=by
 have hA:(0+(Bd bs).length)*1<=140737488355328:=by rw[fK];omega
 have hB:0+(Bd bs).length<=maxLen:=by rw[fK];unfold maxLen;omega
 refine bO (hE.fn Tryz.func82) O O O (fun R=>?_);simp only[dS,uV,uW];refine Bq ?_;cases a with
 |none=>
  have h0:bs=[]:=by
   rcases bq bs with h|⟨x,y,h⟩
   ·exact h
   obtain⟨g,o,e,_⟩:=hq (QP (by rw[h];simp));cases e
  subst h0
  refine Bv ?_
  refine fF (fU (t:=5) (sz:=1)) ?_
  refine Bi ?_
  exact uZ O (.tmp O .nil) ⟨none,0,O,O⟩
 |some a=>
  refine Bw ?_
  refine uU (qFu (hE.t O) (fun b5=>?_))
  refine Bv ?_
  refine uU (jF (us:=Bd bs) (q:=q) (hE.t O) (hE.t O) O O O (fK _).symm hq uK uK (gG _) hA hB (fun pt ct m1 x1 hC hD=>?_))
  obtain rfl:m1=bs.length:=by rw[hC,fK,jh]
  obtain rfl:x1=Bd bs:=hD
  refine Bz ?_
  exact uZ O (.tmp O .nil) ⟨pt,ct,O,O⟩
def qQx (hE:BP E){p:Dr}{a b c:Nat}{nm:List UInt8}{f:List UInt8->Option Value}:Ct E 150 [uPt a,.string ⟨⟨nm⟩⟩,uPt c] [cells a [.map (some b),.bool p.off,.bool p.lim,.int .i64 (p.left:Nat)] 77,dY b f] (fun v Q=>v= .tuple #[]/\Q=[cells a [.map (some b),.bool p.off,.bool p.lim,.int .i64 (p.left:Nat)] 77,dY b (xJ f nm (NA c))]):=by
 refine bO (hE.fn Tryz.func150) O O O (fun R=>?_);simp only[dS,uV,uW];refine Bi ?_;refine uB (Mg (k:=9) (e:=126) O hE.uu) ?_;refine Bq ?_;refine uU ?_;apply qP (kt:=9) (et:=126) hE.uu hE.uu O O O
 ·exact uK
 refine Bv ?_;exact Gf O .nil ⟨O,O⟩
def JO (x:Option Fl)(bs:List UInt8):Fl:=match x with
 |none=>⟨bs,0⟩
 |some x=>⟨x.data++bs,x.synced⟩
def Ht:Option Fl->Nat
 |none=>0
 |some x=>x.data.length
def xF {i x h}(y:Cm i x h):(i=none/\x=none)\/∃c f,i=some c/\x=some f:=by
 cases i with
 |none=>cases x with
  |none=>exact .inl ⟨rfl,rfl⟩
  |some f=>exact absurd y id
 |some c=>cases x with
  |none=>exact absurd y id
  |some f=>exact .inr ⟨c,f,rfl,rfl⟩
def Ux {a b c n0 n1 fl x1 p q cap iq k}(h:dW [cells a [.map (some b),.bool p.off,.bool p.lim,BK (p.left)] 77,dY b (Eo n0 n1 (some c) iq),cells c [.slice q (fl).data.length cap,BK ((fl).synced)] 128,sl q cap 5 1 (fl).data.length (Bd (fl).data),Cm iq x1] k):Dt a n0 n1 (some fl) x1 p k:=
 ⟨⟨b,some c,iq⟩,fG (fun k h=>fG (fun k h=>mK (ps:=[cells c [.slice q (fl).data.length cap,BK ((fl).synced)] 128,sl q cap 5 1 (fl).data.length (Bd (fl).data)]) (p:=RA c fl) (fun k h=>⟨(q,cap),h⟩) h) h) h⟩
def qOm (hE:BP E){p:Dr}{a c:Nat}{n0 n1 bs:List UInt8}{x0 x1:Option Fl}{e:Option Addr}{q:HP}(hp:p.up)(hn:FM n0)(hq:Cv E.w0 e (Bd bs) q)(hl:Ht x0+bs.length<=16777216):
  Ct E 122 [uPt a,.string ⟨⟨n0⟩⟩,.slice e bs.length c] [Dt a n0 n1 x0 x1 p,q] (fun v Q=>v= .nilIface/\Q=[Dt a n0 n1 (some (JO x0 bs)) x1 p.fin,q]):=by
 have hv:∀x∈[n0],FM x:=fun x h=>by simp at h;subst h;exact hn
 refine Sl.ct_open (p:=Dt a n0 n1 x0 x1 p) (ps:=fun i:Qc=>[cells a [.map (some i.b),.bool p.off,.bool p.lim,.int .i64 (p.left:Nat)] 77,dY i.b (Eo n0 n1 i.p0 i.p1),Cm i.p0 x0,Cm i.p1 x1]) (fun k h=>h) ?_;rintro⟨ib,ip,iq⟩;simp only;refine eF (p:=Cm ip x0) uK (fun _ h=>xF h) (fun hH=>?_);refine bO (hE.fn Tryz.func122) O O O (fun R=>?_);simp only[dS,uV,uW];refine Bc ?_;refine uU (aU (hE.t O) (hE.t O) O O O (fun hF=>?_));refine jM (cO (p:=cells hF [.string ⟨⟨n0⟩⟩] 9) (p':=sl (some ⟨hF,0,none⟩) 1 9 1 1 (Dh [n0])) uK (gU O (by unfold maxLen;omega))) ?_;refine BH (qGg (ns:=[n0]) hE BF hv hp) O ?_;refine Bc ?_;rcases hH with⟨rfl,rfl⟩|⟨c0,x,rfl,rfl⟩
 ·have hI:Eo n0 n1 none iq n0=none:=vT n0 n1 none iq;refine Bu ?_;refine uB (mO (kt:=9) (et:=126) (z:= .pointer none) hE.uu hE.uu hE.zz rfl rfl uK (by assumption)) ?_;refine CY ?_;refine uU (gN O (fun hG=>?_));refine CY ?_;have hJ:bs.length<=16777216:=by have:Ht none=0:=rfl;omega
  refine bE O (fun c2=>?_) (fun c2=>?_)
  ·exfalso;omega
  refine fF (fU (t:=5) (sz:=1)) ?_
  have hA:(0+(Bd bs).length)*1<=140737488355328:=by
   rw[fK];omega
  have hB:0+(Bd bs).length<=maxLen:=by
   rw[fK];unfold maxLen;omega
  refine Bc ?_;refine uU (jF (us:=Bd bs) (q:=q) (hE.t O) (hE.t O) O O O (fK _).symm hq uK uK (gG _) hA hB (fun pt ct m1 y1 hC hD=>?_));obtain rfl:m1=bs.length:=by rw[hC,fK,jh]
  obtain rfl:y1=Bd bs:=hD;refine Bc ?_;refine BH (qQx hE) O ?_;rw[qYi];refine Bw ?_;refine BH (Wv hE hp) O ?_;refine jM (fZ (ps:=[cells a [.map (some ib),.bool p.fin.off,.bool p.fin.lim,.int .i64 (p.fin.left:Nat)] 77,dY ib (Eo n0 n1 (some hG) iq),cells hG [.slice pt ((⟨bs,0⟩:Fl)).data.length ct,.int .i64 (((⟨bs,0⟩:Fl)).synced:Nat)] 128,sl pt ct 5 1 ((⟨bs,0⟩:Fl)).data.length (Bd ((⟨bs,0⟩:Fl)).data),Cm iq x1]) uK (fun k h=>Ux h)) ?_;refine Br ?_;exact uZ O (.tmp O .nil) ⟨O,O⟩
 have hI:Eo n0 n1 (some c0) iq n0=some (NA c0):=vT n0 n1 (some c0) iq;have hK:Ht (some x)=x.data.length:=rfl;refine zJ (p:=RA c0 x) (ps:=fun i:Option Addr×Nat=>[cells c0 [.slice i.1 (x).data.length i.2,.int .i64 ((x).synced:Nat)] 128,sl i.1 i.2 5 1 (x).data.length (Bd (x).data)]) uK (fun k h=>h) ?_;rintro⟨fq,fc⟩;simp only;refine Bu ?_;refine uB (mO (kt:=9) (et:=126) (z:= .pointer none) hE.uu hE.uu hE.zz rfl rfl uK (by assumption)) ?_;refine GN ?_;refine bE O (fun c2=>?_) (fun c2=>?_)
 ·exfalso;omega
 have hA:(x.data.length+(Bd bs).length)*1<=140737488355328:=by
  rw[fK];omega
 have hB:x.data.length+(Bd bs).length<=maxLen:=by
  rw[fK];unfold maxLen;omega
 refine Bc ?_;refine uU (jF (us:=Bd bs) (q:=q) (hE.t O) (hE.t O) O O O (fK _).symm hq uK uK (gG _) hA hB (fun pt ct m1 y1 hC hD=>?_));obtain rfl:m1=(x.data++bs).length:=by rw[hC,fK,aa]
 obtain rfl:y1=Bd (x.data++bs):=by rw[hD,fM]
 refine Bc ?_;refine BH (qQx hE) O ?_;rw[qYi];refine Bw ?_;refine BH (Wv hE hp) O ?_;refine jM (fZ (ps:=[cells a [.map (some ib),.bool p.fin.off,.bool p.fin.lim,.int .i64 (p.fin.left:Nat)] 77,dY ib (Eo n0 n1 (some c0) iq),cells c0 [.slice pt ((⟨x.data++bs,x.synced⟩:Fl)).data.length ct,.int .i64 (((⟨x.data++bs,x.synced⟩:Fl)).synced:Nat)] 128,sl pt ct 5 1 ((⟨x.data++bs,x.synced⟩:Fl)).data.length (Bd ((⟨x.data++bs,x.synced⟩:Fl)).data),Cm iq x1]) uK (fun k h=>Ux h)) ?_;refine Br ?_;exact uZ O (.tmp O .nil) ⟨O,O⟩
end
section
variable {E:Bp}
def qWq (hE:BP E){p:Dr}{a:Nat}{n0 n1:List UInt8}{x:Fl}{x1:Option Fl}(hp:p.up)(hn:FM n0):
  Ct E 123 [uPt a,.string ⟨⟨n0⟩⟩] [Dt a n0 n1 (some x) x1 p] (fun v Q=>v= .nilIface/\Q=[Dt a n0 n1 (some ⟨x.data,x.data.length⟩) x1 p.fin]):=by
 have hv:∀x∈[n0],FM x:=fun x h=>by simp at h;subst h;exact hn
 refine Sl.ct_open (p:=Dt a n0 n1 (some x) x1 p) (ps:=fun i:Qc=>[cells a [.map (some i.b),.bool p.off,.bool p.lim,.int .i64 (p.left:Nat)] 77,dY i.b (Eo n0 n1 i.p0 i.p1),Cm i.p0 ((some x)),Cm i.p1 x1]) (fun k h=>h) ?_;rintro⟨ib,ip,iq⟩;simp only;refine eF (p:=Cm ip ((some x))) uK (fun _ h=>xF h) (fun hB=>?_);rcases hB with⟨_,h⟩|⟨c0,x',rfl,h⟩
 ·cases h
 obtain rfl:=oH h;have hC:Eo n0 n1 (some c0) iq n0=some (NA c0):=vT n0 n1 (some c0) iq;refine bO (hE.fn Tryz.func123) O O O (fun R=>?_);simp only[dS,uV,uW];refine Bc ?_;refine uU (aU (hE.t O) (hE.t O) O O O (fun hA=>?_));refine jM (cO (p:=cells hA [.string ⟨⟨n0⟩⟩] 9) (p':=sl (some ⟨hA,0,none⟩) 1 9 1 1 (Dh [n0])) uK (gU O (by unfold maxLen;omega))) ?_;refine BH (qGg (ns:=[n0]) hE BF hv hp) O ?_;refine Bc ?_;refine zJ (p:=RA c0 x) (ps:=fun i:Option Addr×Nat=>[cells c0 [.slice i.1 (x).data.length i.2,.int .i64 ((x).synced:Nat)] 128,sl i.1 i.2 5 1 (x).data.length (Bd (x).data)]) uK (fun k h=>h) ?_;rintro⟨fq,fc⟩;simp only;refine Bu ?_;refine uB (mO (kt:=9) (et:=126) (z:= .pointer none) hE.uu hE.uu hE.zz rfl rfl uK (by assumption)) ?_;refine RD ?_;refine BH (Wv hE hp) O ?_;refine jM (fZ (ps:=[cells a [.map (some ib),.bool p.fin.off,.bool p.fin.lim,.int .i64 (p.fin.left:Nat)] 77,dY ib (Eo n0 n1 (some c0) iq),cells c0 [.slice fq ((⟨x.data,x.data.length⟩:Fl)).data.length fc,.int .i64 (((⟨x.data,x.data.length⟩:Fl)).synced:Nat)] 128,sl fq fc 5 1 ((⟨x.data,x.data.length⟩:Fl)).data.length (Bd ((⟨x.data,x.data.length⟩:Fl)).data),Cm iq x1]) uK (fun k h=>Ux h)) ?_;refine Br ?_
 exact uZ O (.tmp O .nil) ⟨O,O⟩
def qTj (hE:BP E){p a n0 n1 x1}(hn:FM n0):
  Ct E 50 [uPt a,BN n0] [Dt a n0 n1 none x1 p] (fun v Q=>v= .tuple #[BL 0,.iface 78 (BL 5)]/\Q=[Dt a n0 n1 none x1 p]):=by
 have hv:∀x∈[n0],FM x:=fun x h=>by simp at h;subst h;exact hn
 refine Sl.ct_open (p:=Dt a n0 n1 none x1 p) (ps:=fun i:Qc=>[cells a [.map (some i.b),.bool p.off,.bool p.lim,BK (p.left)] 77,dY i.b (Eo n0 n1 i.p0 i.p1),Cm i.p0 (none),Cm i.p1 x1]) (fun k h=>h) ?_;rintro⟨ib,ip,iq⟩;simp only;refine eF (p:=Cm ip (none)) uK (fun _ h=>xF h) (fun hA=>?_);rcases hA with⟨rfl,_⟩|⟨c0,x',rfl,h⟩
 ·have hB:Eo n0 n1 none iq n0=none:=vT n0 n1 none iq;refine bO (hE.fn Tryz.func50) O O O (fun R=>?_);simp only[dS,uV,uW];refine DL ?_;refine uB (mO (kt:=9) (et:=126) (z:= .pointer none) hE.uu hE.uu hE.zz rfl rfl uK (by assumption)) ?_;refine CK ?_;refine fF (fZ (ps:=[cells a [.map (some ib),.bool p.off,.bool p.lim,BK (p.left)] 77,dY ib (Eo n0 n1 none iq),Cm none none,Cm iq x1]) (p:=Dt a n0 n1 none x1 p) uK (fun k h=>⟨⟨ib,none,iq⟩,h⟩)) ?_;refine Bu ?_;exact uZ O (.tmp O (.tmp O .nil)) ⟨O,O⟩
 cases h
def qTi (hE:BP E){p a n0 n1 x1}(hn:FM n0):
  Ct E 52 [uPt a,BN n0] [Dt a n0 n1 none x1 p] (fun v Q=>v= .tuple #[.slice none 0 0,.iface 78 (BL 5)]/\Q=[Dt a n0 n1 none x1 p]):=by
 have hv:∀x∈[n0],FM x:=fun x h=>by simp at h;subst h;exact hn
 refine Sl.ct_open (p:=Dt a n0 n1 none x1 p) (ps:=fun i:Qc=>[cells a [.map (some i.b),.bool p.off,.bool p.lim,BK (p.left)] 77,dY i.b (Eo n0 n1 i.p0 i.p1),Cm i.p0 (none),Cm i.p1 x1]) (fun k h=>h) ?_;rintro⟨ib,ip,iq⟩;simp only;refine eF (p:=Cm ip (none)) uK (fun _ h=>xF h) (fun hA=>?_);rcases hA with⟨rfl,_⟩|⟨c0,x',rfl,h⟩
 ·have hB:Eo n0 n1 none iq n0=none:=vT n0 n1 none iq;refine bO (hE.fn Tryz.func52) O O O (fun R=>?_);simp only[dS,uV,uW];refine DL ?_;refine uB (mO (kt:=9) (et:=126) (z:= .pointer none) hE.uu hE.uu hE.zz rfl rfl uK (by assumption)) ?_;refine CK ?_;refine fF (fZ (ps:=[cells a [.map (some ib),.bool p.off,.bool p.lim,BK (p.left)] 77,dY ib (Eo n0 n1 none iq),Cm none none,Cm iq x1]) (p:=Dt a n0 n1 none x1 p) uK (fun k h=>⟨⟨ib,none,iq⟩,h⟩)) ?_;refine Bu ?_;exact uZ O (.tmp O (.tmp O .nil)) ⟨O,O⟩
 cases h
def qWp (hE:BP E){p a n0 n1 x x1}(hn:FM n0)(hl:x.data.length<=1099511627776):
  Ct E 52 [uPt a,BN n0] [Dt a n0 n1 (some x) x1 p] (fun v Q=>∃q c,v= .tuple #[.slice q x.data.length c,.nilIface]/\Q=[Dt a n0 n1 (some x) x1 p,sl q c 5 1 x.data.length (Bd x.data)]):=by
 have hv:∀x∈[n0],FM x:=fun x h=>by simp at h;subst h;exact hn
 refine Sl.ct_open (p:=Dt a n0 n1 (some x) x1 p) (ps:=fun i:Qc=>[cells a [.map (some i.b),.bool p.off,.bool p.lim,BK (p.left)] 77,dY i.b (Eo n0 n1 i.p0 i.p1),Cm i.p0 ((some x)),Cm i.p1 x1]) (fun k h=>h) ?_;rintro⟨ib,ip,iq⟩;simp only;refine eF (p:=Cm ip ((some x))) uK (fun _ h=>xF h) (fun hB=>?_);rcases hB with⟨_,h⟩|⟨c0,x',rfl,h⟩
 ·cases h
 obtain rfl:=oH h;have hF:Eo n0 n1 (some c0) iq n0=some (NA c0):=vT n0 n1 (some c0) iq;refine bO (hE.fn Tryz.func52) O O O (fun R=>?_);simp only[dS,uV,uW];refine CU ?_;refine zJ (p:=RA c0 x) (ps:=fun i:Option Addr×Nat=>[cells c0 [.slice i.1 (x).data.length i.2,BK ((x).synced)] 128,sl i.1 i.2 5 1 (x).data.length (Bd (x).data)]) uK (fun k h=>h) ?_;rintro⟨fq,fc⟩;simp only;refine Bu ?_;refine uB (mO (kt:=9) (et:=126) (z:= .pointer none) hE.uu hE.uu hE.zz rfl rfl uK (by assumption)) ?_;refine CK ?_;refine iO (p:=sl fq fc 5 1 x.data.length (Bd x.data)) uK (fun _ h=>fun hA=>eG h hA) ?_;intro hC;have hD:Cv E.w0 fq (Bd x.data) (sl fq fc 5 1 x.data.length (Bd x.data)):=sK (fK _) hC;refine Br ?_;refine uX (qLj hE hD hl) O ?_;rintro _ _⟨q,c,rfl,rfl⟩;simp only[uV,uW];refine jM (fZ (ps:=[cells a [.map (some ib),.bool p.off,.bool p.lim,BK (p.left)] 77,dY ib (Eo n0 n1 (some c0) iq),cells c0 [.slice fq (x).data.length fc,BK ((x).synced)] 128,sl fq fc 5 1 (x).data.length (Bd (x).data),Cm iq x1]) uK (fun k h=>Ux h)) ?_;refine Bw ?_;exact uZ O (.tmp O (.tmp O .nil)) ⟨q,c,O,O⟩
end
section
variable {E:Bp}
def qOq (hE:BP E){q d}:Ct E 110 [.slice q 0 d,BL 0,BL 0] [] (fun v Q=>v= .tuple #[]/\Q=[]):=by
 refine bO (hE.fn Tryz.func110) O O O (fun R=>?_);simp only[dS,uV,uW];refine Br ?_;refine mV 1 ?_;refine CU ?_;exact Gf O .nil ⟨O,O⟩
def qOx (hE:BP E){q d l}:Ct E 73 [.slice q 0 d,BL 0,BL 0,BL l] [] (fun v Q=>v= .tuple #[]/\Q=[]):=by
 refine bO (hE.fn Tryz.func73) O O O (fun R=>?_);simp only[dS,uV,uW];refine Bo ?_;refine mV 1 ?_;refine DL ?_;refine BH (qOq hE) O ?_;refine Bi ?_;exact uZ O .nil ⟨O,O⟩
def sQ (hE:BP E){q d}:Ct E 42 [.slice q 0 d] [] (fun v Q=>v= .tuple #[]/\Q=[]):=by
 have hb:=rC (k:=0) oO;refine bO (hE.fn Tryz.func42) O O O (fun R=>?_);simp only[dS,uV,uW];refine Bq ?_;refine BH (wS hE (k:=0) oO) O ?_;refine BH (qOx hE) O ?_;refine Bv ?_;exact Gf O .nil ⟨O,O⟩
structure Vw (f:List UInt8->Option Value)(l:List (List UInt8)):Prop where
 nd:l.Nodup
 mem:∀x,x∈l↔f x≠none
 srt:l.Pairwise fun a b=>Cr a b<=0
def tO {α:Type}[DecidableEq α]:∀{A B:List α},A.Nodup->(∀x∈A,x∈B)->A.length<=B.length
 |[],B,_,_=>av _
 |a::A,B,hn,h=>by
  have hA:=uq.1 hn;have ha:=h a nk;have:=tO (B:=B.erase a) hA.2 fun x hx=>(List.mem_erase_of_ne (fun e=>hA.1 (by rw[<-e];exact hx))).2 (h x (lg _ hx))
  rw[AP ha]at this;have:=Ac ha;rw[az];omega
def kL {f:List UInt8->Option Value}{n:Nat}(h:GM f n){D:List (List UInt8)}(hd:D.Nodup)(hf:∀x∈D,f x≠none):D.length<=n:=by
 obtain⟨M,h1,h2,rfl⟩:=h;have:=tO hd (B:=M.map (·.1)) fun x hx=>nR.2 (by rw[h2];exact hf x hx)
 rwa [jr]at this
structure Po where
 D:List (List UInt8)
 done:List UInt8->Bool
 q:Option Addr
 d:Nat
def qTh (hE:BP E){p:Dr}{a b n:Nat}{f:List UInt8->Option Value}(hc:GM f n)(hn:n<=60000):Ct E 45 [uPt a] [cells a [.map (some b),.bool p.off,.bool p.lim,.int .i64 (p.left:Nat)] 77,dY b f]
  (fun v Q=>∃l q c,v= .slice q l.length c/\Vw f l/\Q=[cells a [.map (some b),.bool p.off,.bool p.lim,.int .i64 (p.left:Nat)] 77,dY b f,sl q c 9 1 l.length (Dh l)]):=by
 have hH:E.P.underlying 75=some (.map 9 126):=hE.uu;refine bO (hE.fn Tryz.func45) O O O (fun R=>?_);simp only[dS,uV,uW];refine Gp ?_;refine jM (fU (t:=9) (sz:=1)) ?_;refine uU ?_;apply yQ hH O uK;intro br;refine CG ?_;refine dX (fun x:Po=>[(0,uPt a),(3,.slice x.q x.D.length x.d),(11,uPt br)]) (fun x=>[Io br b f x.done,cells a [.map (some b),.bool p.off,.bool p.lim,.int .i64 (p.left:Nat)] 77,sl x.q x.d 9 1 x.D.length (Dh x.D),R]) (fun x=>n+1-x.D.length) (fun x=>x.D.Nodup/\(∀y,y∈x.D↔x.done y=true)/\∀y∈x.D,f y≠none) ⟨[],fun _=>false,none,0⟩ ⟨.nil,fun y=>by simp,fun y h=>by simp at h⟩ BC uI ?_;rintro⟨D,done,q,d⟩⟨h1,h2,h3⟩;simp only at h1 h2 h3 ⊢;have hO:=kL hc h1 h3;refine CL ?_;refine uU ?_;apply VA O uK
 ·intro hB;refine Bw ?_;refine fF (cO (p:=Io br b f done) (p':=dY b f) uK (fun k h=>Xr h)) ?_
  have hA:∀x,x∈D↔f x≠none:=fun x=>⟨h3 x,fun hx=>by
   cases e:f x with
   |none=>exact absurd e hx
   |some v=>exact(h2 x).2 (hB x v e)⟩
  refine Br ?_;rcases jo D.length with h0|h0
  ·obtain rfl:=si.1 h0;refine BH (sQ hE) O ?_;refine Bu ?_;exact uZ O (.tmp O .nil) ⟨[],q,d,O,⟨.nil,hA,.nil⟩,O⟩
  refine lQ (p:=sl q d 9 1 D.length (Dh D)) uK (fun _ h=>eG h h0) ?_;rintro⟨g,rfl⟩;refine uX (wT hE oO) O ?_;rintro _ _⟨l,rfl,hp,hs,rfl⟩;rw[<-hp.length_eq];simp only[uV,uW];refine Bu ?_;exact uZ O (.tmp O .nil) ⟨l,_,d,O,⟨hp.nodup_iff.2 h1,fun x=>(hp.mem_iff).trans (hA x),hs⟩,O⟩
 intro k v hk hd;refine Bc ?_;refine uB (VM O uK) ?_;refine jM (fun _ h=>eU (fun _ x=>Va x) h) ?_
 have hI:k∉D:=fun h=>by
  have:=(h2 k).1 h;rw[hd]at this;cases this
 refine Bi ?_;refine uU (aU (hE.t O) (hE.t O) O O O (fun hP=>?_));refine uU (BJ (fun hJ hK hL hM hC hD=>?_));refine CG ?_;obtain rfl:hM=Dh (D++[k]):=by rw[hD];unfold Dh;rw[kv];rfl
 obtain rfl:hL=(D++[k]).length:=by rw[hC,aa];rfl
 have hF:(D++[k]).Nodup:=by
  rw[ng];exact⟨h1,by simp,fun a ha b hb e=>by simp at hb;subst hb;subst e;exact hI ha⟩
 have hG:∀y∈D++[k],f y≠none:=fun y hy=>by
  rcases ay.1 hy with hy|hy
  ·exact h3 y hy
  simp at hy;subst hy;rw[hk];simp
 have hN:=kL hc hF hG;refine bS (ι:=Po) (j:=⟨D++[k],fun x=>x==k||done x,some ⟨hJ,0,none⟩,hK⟩) ⟨hF,fun y=>?_,hG⟩ (by simp only[aa,bf]at hN ⊢;omega) BC uI;simp only[ay,bg,wm,beq_iff_eq];rw[h2 y];exact Or.comm
end
section
variable {E:Bp}
def JN (x:Option Fl):Prop:=∀y,x=some y->y.synced=y.data.length
def Nw (n0 n1:List UInt8)(p0 p1:Option Nat){n}(h:GM (Eo n0 n1 p0 p1) n):n<=2:=by
 obtain⟨M,h1,h2,rfl⟩:=h
 have:=tO h1 (B:=[n0,n1]) fun x hx=>by
  have:=nR.1 hx;rw[h2]at this;unfold Eo at this;by_cases e0:x=n0
  ·simp[e0]
  rw[if_neg e0]at this;by_cases e1:x=n1
  ·simp[e1]
  rw[if_neg e1]at this;exact absurd O this
 rwa [jr]at this
def Ka {n0 n1 x p0 p1}(h:Eo n0 n1 p0 p1 x≠none):(∃c,p0=some c/\Eo n0 n1 p0 p1 x=some (NA c))\/(∃c,p1=some c/\Eo n0 n1 p0 p1 x=some (NA c)):=by
 unfold Eo at h ⊢;by_cases e0:x=n0
 ·rw[if_pos e0]at h ⊢;cases p0 with
  |none=>exact absurd rfl h
  |some c=>exact .inl ⟨c,rfl,rfl⟩
 rw[if_neg e0]at h ⊢;by_cases e1:x=n1
 ·rw[if_pos e1]at h ⊢;cases p1 with
  |none=>exact absurd rfl h
  |some c=>exact .inr ⟨c,rfl,rfl⟩
 rw[if_neg e1]at h;exact absurd O h
def qOn (hE:BP E){p:Dr}{a kn kc:Nat}{kq:Option Addr}{n0 n1:List UInt8}{x0 x1:Option Fl}(h0:JN x0)(h1:JN x1):
  Ct E 16 [uPt a,.slice kq kn kc] [Dt a n0 n1 x0 x1 p] (fun v Q=>v= .tuple #[]/\Q=[Dt a n0 n1 x0 x1 Dr.on]):=by
 refine Sl.ct_open (p:=Dt a n0 n1 x0 x1 p) (ps:=fun i:Qc=>[cells a [.map (some i.b),.bool p.off,.bool p.lim,.int .i64 (p.left:Nat)] 77,dY i.b (Eo n0 n1 i.p0 i.p1),Cm i.p0 x0,Cm i.p1 x1]) (fun k h=>h) ?_;rintro⟨ib,ip,iq⟩;simp only;refine eF (p:=dY ib (Eo n0 n1 ip iq)) uK (fun _ h=>VC h) ?_;rintro⟨n,hA⟩;have hG:=Nw n0 n1 ip iq hA;refine bO (hE.fn Tryz.func16) O O O (fun R=>?_);simp only[dS,uV,uW];refine CU ?_;refine uX (qTh hE hA oO) O ?_;rintro _ _⟨l,q,c0,rfl,hl,rfl⟩;have hH:=kL hA hl.nd (fun x hx=>(hl.mem x).1 hx);simp only[uV,uW];refine Bw ?_;refine dX (fun i:Nat=>[(0,uPt a),(12,.slice q l.length c0),(13,.int .i64 (l.length:Nat)),(14,.int .i64 (i:Nat))]) (fun i=>[cells a [.map (some ib),.bool p.off,.bool p.lim,.int .i64 (p.left:Nat)] 77,dY ib (Eo n0 n1 ip iq),Cm ip x0,Cm iq x1,sl q c0 9 1 l.length (Dh l),R]) (fun i=>l.length-i) (fun i=>i<=l.length) 0 (av _) BC uI ?_;rintro i hi;refine CB ?_;refine bE O (fun c1=>?_) (fun c1=>?_)
 ·obtain⟨x,hx⟩:∃x,l[i]?=some x:=BG;have f0:=Ri hx (((i:Nat):Int).toNat) oO;have hC:=(hl.mem x).1 (ak hx);refine iO (p:=sl q c0 9 1 l.length (Dh l)) uK (fun _ h=>eG h oO) ?_;rintro⟨g,rfl⟩;rcases Ka hC with⟨c,rfl,hD⟩|⟨c,rfl,hD⟩
  ·refine iO (p:=Cm (some c) x0) uK (fun _ h=>xF h) (fun hB=>?_);rcases hB with⟨h,_⟩|⟨c',x,h,rfl⟩
   ·cases h
   obtain rfl:=oH h;have hF:=h0 x O;refine zJ (p:=RA c x) (ps:=fun i:Option Addr×Nat=>[cells c [.slice i.1 (x).data.length i.2,.int .i64 ((x).synced:Nat)] 128,sl i.1 i.2 5 1 (x).data.length (Bd (x).data)]) uK (fun k h=>h) ?_;rintro⟨fq,fc⟩;simp only;refine Cw ?_;refine uB (mO (kt:=9) (et:=126) (z:= .pointer none) hE.uu hE.uu hE.zz rfl rfl uK (by assumption)) ?_;refine Bz ?_;refine uH ([cells c [.slice fq x.data.length fc,.int .i64 (x.synced:Nat)] 128]) ?_;refine FH ?_;refine bE O (fun c2=>?_) (fun c2=>?_)
   ·refine fF (fZ (ps:=[cells c [.slice fq (x).data.length fc,.int .i64 ((x).synced:Nat)] 128,sl fq fc 5 1 (x).data.length (Bd (x).data)]) (p:=Cm (some c) (some x)) uK (fun k h=>⟨(fq,fc),h⟩)) ?_;refine Br ?_;refine bS (ι:=Nat) (j:=i+1) oO oO ⟨O,O,O,au some (bW oO),trivial⟩ uI
   exfalso;omega
  refine iO (p:=Cm (some c) x1) uK (fun _ h=>xF h) (fun hB=>?_);rcases hB with⟨h,_⟩|⟨c',x,h,rfl⟩
  ·cases h
  obtain rfl:=oH h;have hF:=h1 x O;refine zJ (p:=RA c x) (ps:=fun i:Option Addr×Nat=>[cells c [.slice i.1 (x).data.length i.2,.int .i64 ((x).synced:Nat)] 128,sl i.1 i.2 5 1 (x).data.length (Bd (x).data)]) uK (fun k h=>h) ?_;rintro⟨fq,fc⟩;simp only;refine Cw ?_;refine uB (mO (kt:=9) (et:=126) (z:= .pointer none) hE.uu hE.uu hE.zz rfl rfl uK (by assumption)) ?_;refine Bz ?_;refine uH ([cells c [.slice fq x.data.length fc,.int .i64 (x.synced:Nat)] 128]) ?_;refine FH ?_;refine bE O (fun c2=>?_) (fun c2=>?_)
  ·refine fF (fZ (ps:=[cells c [.slice fq (x).data.length fc,.int .i64 ((x).synced:Nat)] 128,sl fq fc 5 1 (x).data.length (Bd (x).data)]) (p:=Cm (some c) (some x)) uK (fun k h=>⟨(fq,fc),h⟩)) ?_;refine Br ?_;refine bS (ι:=Nat) (j:=i+1) oO oO ⟨O,O,O,au some (bW oO),trivial⟩ uI
  exfalso;omega
 refine Gp ?_;apply xP
 ·rfl
 ·(exact Rs.nil)
 ·exact⟨O,O⟩
 refine cZ uI (fun _ s=>mK (ps:=[cells a [.map (some ib),.bool Dr.on.off,.bool Dr.on.lim,.int .i64 (Dr.on.left:Nat)] 77,dY ib (Eo n0 n1 ip iq),Cm ip x0,Cm iq x1]) (r:=[R]) (p:=Dt a n0 n1 x0 x1 Dr.on) (fun k h=>⟨⟨ib,ip,iq⟩,h⟩) s)
end
section
variable {E:Bp}
def Ku:Nat->Nat->Nat
 |0,x=>x
 |j+1,x=>Je (Ku j x)
def Kv {x}(h:x<4294967296):∀j,Ku j x<4294967296
 |0=>h
 |j+1=>Tv (Kv h j)
def Mv (k:Nat):List Value:=(List.range 16).map fun i=> .int .u32 ((if i<k then Si i else 0:Nat):Int)
def Jc {i}(h:i<16)(o:Nat)(ho:o=i):(Mv 16)[o]?=some (.int .u32 (Si i:Nat)):=by
 subst ho;unfold Mv;rw[bn,lu h];simp[h]
def qVy (k:Nat):(Mv k).length=16:=by simp[Mv]
def NT {k}(h:k<16)(o:Nat)(ho:o=k):bX (Mv k) o (bP (.int .u32 (Si k:Nat)))=Mv (k+1):=by
 subst ho;simp only[bX,bP];unfold Mv;apply mh;intro i;rw[List.getElem?_set];by_cases e:o=i
 ·subst e;rw[if_pos rfl,if_pos (by simpa using h),bn,lu h];simp
 rw[if_neg e,bn,bn];by_cases hi:i<16
 ·rw[lu hi];simp only[ut];have:(i<o)=(i<o+1):=propext ⟨fun h=>by omega,fun h=>by omega⟩;simp only[this]
 rw[oL.2 (by simpa using hi)];rfl
def qLx (hE:BP E){bs a c q}(hq:Cv E.w0 a (Bd bs) q)(hn:bs.length<=1099511627776):Ct E 84 [.slice a bs.length c] [q] (fun v Q=>v= .int .u32 (Ij bs:Nat)/\Q=[q]):=by
 refine bO (hE.fn Tryz.func84) O O O (fun R=>?_);simp only[dS,uV,uW];refine Bi ?_;refine uU (dA (hE.t O) (fun b3=>?_));refine Bu ?_;refine dX (fun k:Nat=>[(0,.slice a bs.length c),(3,uPt b3),(9,BK k)]) (fun k=>[cells b3 (Mv k) 227,q,R]) (fun k=>16-k) (fun k=>k<=16) 0 (av _) BC uI ?_;rintro k hk;refine CB ?_;refine bE O (fun h1=>?_) (fun h1=>?_)
 ·refine CP ?_;refine uB (pX O (hE.t O) (hE.t O) (IR oO oO)) ?_;refine Bc ?_;refine dX (fun j:Nat=>[(0,.slice a bs.length c),(3,uPt b3),(4,BK k),(5,.int .u32 (Ku j k:Nat)),(9,BK k),(14,BK j)]) (fun j=>[cells b3 (Mv k) 227,q,R]) (fun j=>4-j) (fun j=>j<=4) 0 (av _) BC uI ?_;rintro j hj;have hI:=Kv (show k<4294967296 by omega) j;refine CB ?_;refine bE O (fun h2=>?_) (fun h2=>?_)
  ·refine Bi ?_;refine uB (YA 1 1 2 O O oO O O oO) ?_;refine CG ?_;refine bE O (fun h3=>?_) (fun h3=>?_)
   ·have e9:(Ku j k/2)^^^2197175160=Ku (j+1) k:=by
     show _=Je (Ku j k);unfold Je;rw[if_pos oO]
    refine CL ?_;refine uB (sJ 1 2 O O oO O) ?_;refine uB (Vm (j:=2197175160) O O oO oO) ?_;refine Br ?_;refine bS (ι:=Nat) (j:=j+1) oO oO ⟨O,O,O,au (fun n:Nat=>some (Value.int .u32 (n:Int))) e9,O,au some (bW oO),trivial⟩ uI
   have e9:Ku j k/2=Ku (j+1) k:=by
    show _=Je (Ku j k);unfold Je;rw[if_neg oO]
   refine CL ?_;refine uB (sJ 1 2 O O oO O) ?_;refine Br ?_;refine bS (ι:=Nat) (j:=j+1) oO oO ⟨O,O,O,au (fun n:Nat=>some (Value.int .u32 (n:Int))) e9,O,au some (bW oO),trivial⟩ uI
  obtain rfl:j=4:=by omega
  have hF:=qVy k;refine Bu ?_;refine uU ?_;apply bL O O (hE.t O) O
  ·exact uK
  ·rfl
  ·have hJ:(bP (Value.int .u32 ((Ku 4 k:Nat):Int))).length=1:=rfl;rw[hF];omega
  rw[show(Value.int IntKind.u32 ((Ku 4 k:Nat):Int))= .int .u32 ((Si k:Nat):Int)from rfl,NT (k:=k) oO _ oO];refine Bi ?_;refine bS (ι:=Nat) (j:=k+1) oO oO ⟨O,O,au some (bW oO),trivial⟩ uI
 obtain rfl:k=16:=by omega
 refine Ci ?_;refine dX (fun i:Nat=>[(3,uPt b3),(6,.int .u32 (NU (bs.take i):Nat)),(29,.slice a bs.length c),(30,BK bs.length),(31,BK i)]) (fun i=>[cells b3 (Mv 16) 227,q,R]) (fun i=>bs.length-i) (fun i=>i<=bs.length) 0 (av _) BC uI ?_;rintro i hi;have hG:=Yb (bs.take i);refine CB ?_;refine bE O (fun h4=>?_) (fun h4=>?_)
 ·obtain⟨x,hx⟩:∃x,bs[i]?=some x:=BG;obtain⟨g,o,rfl,hK⟩:=hq (QP (by intro e;rw[e]at hx;simp at hx));have f0:=qVn hx (((i:Nat):Int).toNat) oO;have hL:=x.toNat_lt;have e1:NU (bs.take (i+1))=Qp (Qp (NU (bs.take i)^^^x.toNat)):=Jd hx;have hD:=UA hG (show x.toNat<4294967296 by omega);obtain⟨s1,hA⟩:∃s1,s1=NU (bs.take i)^^^x.toNat:=⟨_,rfl⟩;rw[<-hA]at hD e1;have hH:=Yc hD;refine CK ?_;refine uB (pX O (hE.t O) (hE.t O) (IR oO oO)) ?_;refine uB (Vm O O oO oO) ?_;rw[<-hA];refine CG ?_;have f1:=Jc (i:=s1%16) oO (0+((s1%16:Nat):Int).toNat*1) oO;have hM:=Yd (show s1%16<4294967296 by omega);have hN:=qVy 16;refine CG ?_;refine uB (sJ 4 16 O O oO O) ?_;refine Bv ?_;refine uB (YA 15 4 16 O O oO O O oO) ?_;refine CL ?_;refine uB (Vm O O oO oO) ?_;refine CG ?_;refine CW 6 (.int .u32 ((Qp s1:Nat):Int)) O O ?_;obtain⟨s2,hB⟩:∃s2,s2=Qp s1:=⟨_,rfl⟩;rw[<-hB]at hH e1 ⊢;have f2:=Jc (i:=s2%16) oO (0+((s2%16:Nat):Int).toNat*1) oO;have hO:=Yd (show s2%16<4294967296 by omega);refine CL ?_;refine uB (sJ 4 16 O O oO O) ?_;refine Bv ?_;refine uB (YA 15 4 16 O O oO O O oO) ?_;refine CL ?_;refine uB (Vm O O oO oO) ?_;refine Br ?_
  refine bS (ι:=Nat) (j:=i+1) oO oO ⟨O,au (fun n:Nat=>some (Value.int .u32 (n:Int))) e1.symm,O,O,au some (bW oO),trivial⟩ uI
 obtain rfl:i=bs.length:=by omega
 rw[nu];have hC:=Yb bs;refine Br ?_;refine uB (Pf O hC) ?_;refine Bz ?_;exact uZ O (.tmp O .nil) ⟨O,O⟩
end
end Go.Proofs.YtnicahfnolhgbaaGreatDoor
--F23
namespace Go.Proofs.YtnicahfnolhgbaaGreatDoor
open Go Go.RowKit Sl Eg
set_option maxRecDepth 10000
section
variable {E:Bp}
def zAm {p c n m sz}{t:TypeId}{xs k}(h:sl p c t sz n xs k)(hm:m<=n):sl p c t sz m (xs.take (m*sz)) k:=by
 obtain⟨h1,h2⟩:=h;have hA:m*sz<=n*sz:=kg _ hm;refine⟨by rw[ig];omega,?_⟩;rcases h2 with⟨rfl,rfl,rfl⟩|⟨g,cur,rfl,h3,h4,h5,h6,h7⟩
 ·exact .inl ⟨O,oO,O⟩
 exact .inr ⟨g,cur,O,h3,oO,h5,h6,by rw[<-h7,Ao,lm hA]⟩
def qLw (hE:BP E){n c xs p}(hn:n<4294967296)(hl:xs.length<=1099511627776):Ct E 149 [.slice p xs.length c,.int .u32 (n:Nat)] [sl p c 5 1 xs.length (Bd xs)]
  (fun v Q=>∃g c',v= .slice (BM g) (xs++Gx n).length c'/\Q=[sl (BM g) c' 5 1 (xs++Gx n).length (Bd (xs++Gx n))]):=by
 refine bO (hE.fn Tryz.func149) O O O (fun R=>?_);simp only[dS,uV,uW];refine Bu ?_;refine uB (sJ 24 16777216 O O oO O) ?_;refine uB (pX O (hE.t O) (hE.t O) (wI _)) ?_;refine Bv ?_;refine uB (sJ 16 65536 O O oO O) ?_;refine uB (pX O (hE.t O) (hE.t O) (wI _)) ?_;refine Bv ?_;refine uB (sJ 8 256 O O oO O) ?_;refine uB (pX O (hE.t O) (hE.t O) (wI _)) ?_;refine Bv ?_;refine uB (pX O (hE.t O) (hE.t O) (wI _)) ?_;refine uU (aU (hE.t O) (hE.t O) O O O (fun hH=>?_));refine uU (BJ (fun hC hD hF hG hA hB=>?_));refine Bz ?_;obtain rfl:hG=Bd (xs++Gx n):=by rw[hB,fM];rfl
 obtain rfl:hF=(xs++Gx n).length:=by rw[hA,aa];rfl
 exact uZ O (.tmp O .nil) ⟨hC,hD,O,O⟩
def Yi (x y j:Nat)(h:y<2^j):x*2^j|||y=x*2^j+y:=by
 rw[oN x,zk h]
def Td (a b c d:Nat)(ha:a<256)(hb:b<256)(hc:c<256)(hd:d<256):(a*16777216|||b*65536)<4294967296/\((a*16777216|||b*65536)|||c*256)<4294967296/\((a*16777216|||b*65536)|||c*256)|||d=a*16777216+b*65536+c*256+d:=by
 have e1:a*16777216|||b*65536=(a*256+b)*65536:=by
  have:=Yi a (b*65536) 24 oO;rw[show(2:Nat)^24=16777216 from rfl]at this;rw[this];omega
 have e2:(a*256+b)*65536|||c*256=((a*256+b)*256+c)*256:=by
  have:=Yi (a*256+b) (c*256) 16 oO;rw[show(2:Nat)^16=65536 from rfl]at this;rw[this];omega
 have e3:=Yi ((a*256+b)*256+c) d 8 oO;rw[show(2:Nat)^8=256 from rfl]at e3;rw[e1,e2,e3];omega
def qGk (hE:BP E){b0 b1 b2 b3 t a n c q}(hn:n=t.length+4)(hq:Cv E.w0 a (Bd (b0::b1::b2::b3::t)) q):Ct E 83 [.slice a n c] [q] (fun v Q=>v= .int .u32 (Ym b0 b1 b2 b3:Nat)/\Q=[q]):=by
 obtain⟨g,o,rfl,hA⟩:=hq (by simp[Bd]);have h0:=b0.toNat_lt;have h1:=b1.toNat_lt;have h2:=b2.toNat_lt;have h3:=b3.toNat_lt;have f0:(Bd (b0::b1::b2::b3::t))[0]?=some (.int .u8 (b0.toNat:Nat)):=rfl;have f1:(Bd (b0::b1::b2::b3::t))[1]?=some (.int .u8 (b1.toNat:Nat)):=rfl;have f2:(Bd (b0::b1::b2::b3::t))[2]?=some (.int .u8 (b2.toNat:Nat)):=rfl;have f3:(Bd (b0::b1::b2::b3::t))[3]?=some (.int .u8 (b3.toNat:Nat)):=rfl;obtain⟨o1,o2,o3⟩:=Td b0.toNat b1.toNat b2.toNat b3.toNat oO oO oO oO;refine bO (hE.fn Tryz.func83) O O O (fun R=>?_);simp only[dS,uV,uW];refine CB ?_;refine uH ([q]) ?_;refine CL ?_;apply bG 2 O
 ·(apply bJ rfl (hE.t rfl) rfl (by assumption);(focus((repeat constructor);done));(first |((focus exact f0);(focus omega))|((focus exact f1);(focus omega))|((focus exact f2);(focus omega))|((focus exact f3);(focus omega))|((focus assumption);(focus omega))))
 ·with_reducible (repeat(first |exact aF|apply aG|apply aH))
 ·kernel_rfl
 ·rfl
 refine uD 3 O (dI O (hE.t O) (hE.t O) (by first |exact dJ oO oO|exact dK oO oO|exact IR oO oO)) ?_;refine uD 4 O (YB 24 16777216 O O oO O oO) ?_;refine CL ?_;apply bG 7 O
 ·(apply bJ rfl (hE.t rfl) rfl (by assumption);(focus((repeat constructor);done));(first |((focus exact f0);(focus omega))|((focus exact f1);(focus omega))|((focus exact f2);(focus omega))|((focus exact f3);(focus omega))|((focus assumption);(focus omega))))
 ·with_reducible (repeat(first |exact aF|apply aG|apply aH))
 ·kernel_rfl
 ·rfl
 refine uD 8 O (dI O (hE.t O) (hE.t O) (by first |exact dJ oO oO|exact dK oO oO|exact IR oO oO)) ?_;refine uD 9 O (YB 16 65536 O O oO O oO) ?_;refine uD 10 O (Yx O O oO oO) ?_;refine CL ?_;apply bG 13 O
 ·(apply bJ rfl (hE.t rfl) rfl (by assumption);(focus((repeat constructor);done));(first |((focus exact f0);(focus omega))|((focus exact f1);(focus omega))|((focus exact f2);(focus omega))|((focus exact f3);(focus omega))|((focus assumption);(focus omega))))
 ·with_reducible (repeat(first |exact aF|apply aG|apply aH))
 ·kernel_rfl
 ·rfl
 refine uD 14 O (dI O (hE.t O) (hE.t O) (by first |exact dJ oO oO|exact dK oO oO|exact IR oO oO)) ?_;refine uD 15 O (YB 8 256 O O oO O oO) ?_;refine uD 16 O (Yx O O oO oO) ?_;refine CL ?_;apply bG 19 O
 ·(apply bJ rfl (hE.t rfl) rfl (by assumption);(focus((repeat constructor);done));(first |((focus exact f0);(focus omega))|((focus exact f1);(focus omega))|((focus exact f2);(focus omega))|((focus exact f3);(focus omega))|((focus assumption);(focus omega))))
 ·with_reducible (repeat(first |exact aF|apply aG|apply aH))
 ·kernel_rfl
 ·rfl
 refine uD 20 O (dI O (hE.t O) (hE.t O) (by first |exact dJ oO oO|exact dK oO oO|exact IR oO oO)) ?_;refine uD 21 O (Yx O O oO oO) ?_;refine Bz ?_;exact uZ O (.tmp O .nil) ⟨au (fun n:Nat=>Value.int .u32 (n:Int)) o3,O⟩
def qOy (hE:BP E){bs a c q}(hq:Cv E.w0 a (Bd bs) q)(h1:1<=bs.length)(hn:bs.length<=1048576):Ct E 121 [.slice a bs.length c] [q]
  (fun v Q=>∃g c',v= .tuple #[.slice (BM g) (Et bs).length c',.nilIface]/\Q=[sl (BM g) c' 5 1 (Et bs).length (Bd (Et bs)),q]):=by
 have hD:=Jf bs;refine bO (hE.fn Tryz.func121) O O O (fun R=>?_);simp only[dS,uV,uW];refine CU ?_;refine bE O (fun c1=>?_) (fun c1=>?_)
 ·exfalso;omega
 refine Bc ?_;refine bE O (fun c2=>?_) (fun c2=>?_)
 ·exfalso;omega
 have hF:1*(8+bs.length)<=281474976710656:=oO
 have hG:8+bs.length<=maxLen:=by
  unfold maxLen;omega
 refine Bi ?_;refine uU (kE (c:=8+bs.length) (hE.t O) (hE.t O) O O hF hG (fun hB us16 hH=>?_));refine Br ?_;refine uB (dI O (hE.t O) (hE.t O) (by first |exact dJ oO oO|exact dK oO oO|exact IR oO oO)) ?_;refine jM (cO (p:=sl (BM hB) (8+bs.length) 5 1 (8+bs.length) us16) (p':=sl (BM hB) (8+bs.length) 5 1 0 (us16.take (0*1))) uK (fun _ h=>zAm h (av _))) ?_
 have hA:(Gx bs.length).length<=1099511627776:=by
  rw[sM];omega
 refine uX (qLw (n:=bs.length) (xs:=[]) hE oO BF) O ?_;rintro _ _⟨g1,d1,rfl,rfl⟩;rw[jw];simp only[uV,uW];refine Bi ?_;refine BH (qLx hE hq oO) O ?_;refine uX (qLw (n:=Ij bs) (xs:=Gx bs.length) hE hD hA) O ?_;rintro _ _⟨g2,d2,rfl,rfl⟩;simp only[uV,uW]
 have hI:((Gx bs.length++Gx (Ij bs)).length+(Bd bs).length)*1<=140737488355328:=by
  rw[fK,aa,sM,sM];omega
 have hJ:(Gx bs.length++Gx (Ij bs)).length+(Bd bs).length<=maxLen:=by
  rw[fK,aa,sM,sM];unfold maxLen;omega
 have hC:Et bs=Gx bs.length++Gx (Ij bs)++bs:=by
  unfold Et;rw[ah]
 refine Bi ?_;refine uU (jF (us:=Bd bs) (q:=q) (hE.t O) (hE.t O) O O O (fK _).symm hq uK uK (gG _) hI hJ (fun pt ct m1 y1 hK hL=>?_));obtain rfl:m1=(Et bs).length:=by rw[hK,hC,fK,aa (bs:=bs)]
 obtain rfl:y1=Bd (Et bs):=by rw[hL,hC,fM _ bs]
 refine lQ (p:=sl pt ct 5 1 (Et bs).length (Bd (Et bs))) uK (fun _ h=>eG h (by rw[wZ];omega)) ?_;rintro⟨g3,rfl⟩;refine Bw ?_;exact uZ O (.tmp O (.tmp O .nil)) ⟨g3,ct,O,O⟩
end
section
variable {E:Bp}
def qNh {w0 a Bs q m}(h:Cv w0 a (Bd Bs) q):Cv w0 a (Bd (Bs.take m)) q:=fun hA=>by
 obtain⟨g,o,e,hr⟩:=h (QP (by
  intro e;rw[e]at hA;exact hA (by simp[Bd])))
 refine⟨g,o,e,fun u hu i v hv=>hr u hu i v ?_⟩;have e2:Bd (Bs.take m)=(Bd Bs).take m:=by simp[Bd,qo]
 rw[e2,ni]at hv;split at hv
 ·exact hv
 cases hv
abbrev Py:=Option Addr×Nat×List UInt8
abbrev LX (x:Py):HP:=sl x.1 x.2.1 5 1 x.2.2.length (Bd x.2.2)
def FK (l:List Py):HP:=dW (l.map LX)
def Il (l:List Py):List Value:=l.map fun x=> .slice x.1 x.2.2.length x.2.1
def qZo {l x k}(h:dW [FK l,LX x] k):FK (l++[x]) k:=by
 obtain⟨h1,h2,d,e,hl,hx⟩:=h;unfold FK;rw[kv,e];exact mJ hl hx d
def qUs (a b:List Py):Il (a++b)=Il a++Il b:=kv
def qRp {H}(k:PH)(h:dW H k):dW (FK []::H) k:=XP k h
structure ZE where
 i:Nat
 l:List Py
 a:Option Addr
 c:Nat
 q:Option Addr
 d:Nat
def Ke {ps:List (List UInt8)}{i:Nat}{p:List UInt8}(h:ps[i]?=some p):DV (ps.drop i)=Et p++DV (ps.drop (i+1)):=by
 rw[lK h];unfold DV;rw[qz]
def XA:∀(ps:List (List UInt8)),8*ps.length<=(DV ps).length
 |[]=>av _
 |p::ps=>by
  have:=XA ps;have e:DV (p::ps)=Et p++DV ps:=by unfold DV;rw[qz]
  rw[e,aa,wZ,az];omega
def Kg {ps:List (List UInt8)}{i:Nat}{p:List UInt8}(h:ps[i]?=some p):(DV (ps.take (i+1))).length=(DV (ps.take i)).length+(8+p.length):=by
 rw[ed,h];simp only[zm];rw[vU,YK,aa,wZ];omega
def qLv (hE:BP E){ps:List (List UInt8)}(hN:∀p∈ps,1<=p.length/\p.length<=1048576) {a:Option Addr} {c:Nat} {q:HP} (hq:Cv E.w0 a (Bd (DV ps)) q) (hc:(DV ps).length<=c) (hl:(DV ps).length<=1000000000):
  Ct E 53 [.slice a (DV ps).length c] [q]
   (fun v Q=>∃l p' c',v= .tuple #[.slice p' l.length c',.int .i64 ((DV ps).length:Nat)]/\l.map (fun x:Py=>x.2.2)=ps/\Q=[sl p' c' 44 1 l.length (Il l),FK l,q]):=by
 have hO:=XA ps;refine bO (hE.fn Tryz.func53) O O O (fun R=>?_);simp only[dS,uV,uW];refine Cw ?_;refine fF (fU (t:=44) (sz:=1)) ?_;refine fF qRp ?_;refine dX (fun x:ZE=>[(0,.slice x.a (DV (ps.drop x.i)).length x.c),(4,.slice x.q x.l.length x.d),(5,.int .i64 ((DV (ps.take x.i)).length:Nat))]) (fun x=>[FK x.l,sl x.q x.d 44 1 x.l.length (Il x.l),q,R]) (fun x=>ps.length-x.i) (fun x=>x.i<=ps.length/\x.l.map (fun x:Py=>x.2.2)=ps.take x.i/\Cv E.w0 x.a (Bd (DV (ps.drop x.i))) q/\(DV (ps.drop x.i)).length<=x.c) ⟨0,[],a,c,none,0⟩ ⟨av _,O,hq,hc⟩ BC uI ?_;rintro⟨i,l,a1,c1,q1,d1⟩⟨hi,hC,hB,hD⟩;simp only at hi hC hB hD ⊢
 have hY:l.length=i:=by
  have:=au List.length hC;rw[jr,ig]at this;omega
 refine Br ?_;rcases fw i ps.length with hP|hge
 ·obtain⟨p,hp⟩:∃p,ps[i]?=some p:=⟨_,ag hP⟩;obtain⟨ha,hb⟩:=hN p (ak hp);have hA:=Ke hp;have hI:=wZ p;have hJ:(DV (ps.drop i)).length=p.length+8+(DV (ps.drop (i+1))).length:=by rw[hA,aa,hI]
  have hd:=Kg hp
  have he:(DV (ps.take (i+1))).length<=(DV ps).length:=by
   have e:DV ps=DV (ps.take (i+1))++DV (ps.drop (i+1)):=by rw[<-vU,dh]
   rw[e,aa];omega
  refine bE O (fun h1=>?_) (fun h1=>?_)
  ·obtain⟨X,hX⟩:∃X,X=DV (ps.drop (i+1)):=⟨_,rfl⟩;rw[<-hX]at hA hJ;obtain⟨Z,hZ⟩:∃Z,Z=DV (ps.drop i):=⟨_,rfl⟩;rw[<-hZ]at hA hJ hB hD h1;rw[<-hZ];have e4:Z=UInt8.ofNat (p.length/16777216)::UInt8.ofNat (p.length/65536)::UInt8.ofNat (p.length/256)::UInt8.ofNat p.length::((Gx (Ij p)++p)++X):=hA;have e5:Z.drop 4=UInt8.ofNat (Ij p/16777216)::UInt8.ofNat (Ij p/65536)::UInt8.ofNat (Ij p/256)::UInt8.ofNat (Ij p)::(p++X):=by rw[hA];rfl
   have e8:(Z.drop 8).take p.length=p:=by
    have:Z.drop 8=p++X:=by rw[hA];rfl
    rw[this,xq];rfl
   have hK:=hB;rw[e4]at hK;have hL:=kP (k:=4) hB hD;rw[e5]at hL;have hF:=qNh (m:=p.length) (kP (k:=8) hB hD);rw[e8]at hF
   have hQ:Z.length=((Gx (Ij p)++p)++X).length+4:=by
    rw[aa,aa,sM];omega
   have hR:Z.length-4=(p++X).length+4:=by
    rw[aa];omega
   have hS:=Jf p
   have hf:Z.length<=(DV ps).length:=by
    have e:DV ps=DV (ps.take i)++Z:=by rw[hZ,<-vU,dh]
    rw[e,aa];omega
   refine CB ?_;refine BH (qGk hE hQ hK) O ?_;rw[JV oO];refine Bc ?_;refine dV 16 O (fun g1=>?_) (fun g1=>?_)
   ·exfalso;omega
   refine CB ?_;refine dV 20 O (fun g2=>?_) (fun g2=>?_)
   ·exfalso;omega
   refine CP ?_;refine bE O (fun g3=>?_) (fun g3=>?_)
   ·exfalso;omega
   refine Bi ?_;refine uB (jZ (l:=8) (h:=8+p.length) O (hE.t O) ⟨_,O⟩ ⟨_,O⟩ oO oO) ?_;refine BU 30 (.slice (Gq a1 c1 8) p.length (c1-8)) O (au (fun z=>Value.slice _ z _) oO) ?_;refine Bw ?_;refine uH ([q]) ?_;refine Bv ?_;refine uD 2 O (aB O) ?_;refine uD 3 O (jZ (l:=4) (h:=Z.length) O (hE.t O) ⟨_,O⟩ O oO oO) ?_;apply dH 1 O oK O;refine uC (qLx hE hF oO) O ?_;rintro _ _⟨rfl,rfl⟩;simp only[uV,uW];refine uE ?_;apply dH 4 O oK O;refine uC (qGk (a:=Gq a1 c1 4) (c:=c1-4) hE hR hL) O ?_;rintro _ _⟨rfl,rfl⟩;simp only[uV,uW];rw[JV hS];refine uE ?_;refine CG ?_;refine bE O (fun g4=>?_) (fun g4=>?_)
   ·exfalso;exact g4 O
   have e9:Z.drop (8+p.length)=X:=by
    rw[hA];exact List.drop_left' (by rw[hI];omega)
   have hM:=kP (k:=8+p.length) hB hD;rw[e9]at hM;have hg:X.length=Z.length-(8+p.length):=oO;refine CB ?_;refine uX (qLj hE hF oO) O ?_;rintro _ _⟨cp,cc,rfl,rfl⟩;simp only[uV,uW];refine jM (fZ (ps:=[FK l,LX (cp,cc,p)]) (p:=FK (l++[(cp,cc,p)])) uK (fun k h=>qZo h)) ?_;refine uU (aU (hE.t O) (hE.t O) O O O (fun hh=>?_));refine uU (BJ (fun hT hU hV hW hG hH=>?_));refine CG ?_;obtain rfl:hW=Il (l++[(cp,cc,p)]):=by rw[hH,qUs];rfl
   obtain rfl:hV=(l++[((cp,cc,p):Py)]).length:=by rw[hG,aa];rfl
   refine Bw ?_;refine uB (jZ (l:=8+p.length) (h:=Z.length) O (hE.t O) ⟨_,O⟩ O oO oO) ?_;refine BU 45 (.slice (Gq a1 c1 (8+p.length)) X.length (c1-(8+p.length))) O (au (fun z=>Value.slice _ z _) oO) ?_;refine Bo ?_;refine bS (ι:=ZE) (j:=⟨i+1,l++[(cp,cc,p)],Gq a1 c1 (8+p.length),c1-(8+p.length),some ⟨hT,0,none⟩,hU⟩) ⟨BD,?_,by simp only;rw[<-hX];exact hM,by simp only;rw[<-hX];omega⟩ BD ⟨?_,rfl,au some (bW BD),trivial⟩ uI
   ·simp only;rw[kv,hC,ed,hp];rfl
   simp only;rw[<-hX];rfl
  exfalso;omega
 obtain rfl:i=ps.length:=by omega
 have e0:DV (ps.drop ps.length)=[]:=by rw[uj];rfl
 refine bE O (fun h1=>?_) (fun h1=>?_)
 ·exfalso;rw[e0]at h1;simp at h1
 rw[nu]at hC ⊢;refine CU ?_;exact uZ O (.tmp O (.tmp O .nil)) ⟨l,q1,d1,O,hC,O⟩
end
section
variable {E:Bp}
def qOz (hE:BP E){p a n0 n1 x x1 ps}(hn:FM n0)(hC:∀p∈ps,1<=p.length/\p.length<=1048576) (hx:x.data=DV ps) (hl:(DV ps).length<=1000000000):
  Ct E 25 [uPt a,BN n0] [Dt a n0 n1 (some x) x1 p] (fun v Q=>∃l ys q c,v= .tuple #[uPt l,.slice q ys.length c,.nilIface]/\ys.map (fun x:Py=>x.2.2)=ps/\Q=[Dt a n0 n1 (some x) x1 p,cells l [uPt a,BN n0,BK ys.length,BK ((DV ps).length),.bool false] 139,sl q c 44 1 ys.length (Il ys),FK ys]):=by
 have hs:(⟨⟨n0⟩⟩:ByteArray).size=n0.length:=rfl;obtain⟨h1,h2⟩:=hn
 have hD:x.data.length<=1099511627776:=by
  rw[hx];omega
 refine bO (hE.fn Tryz.func25) O O O (fun R=>?_);simp only[dS,uV,uW];refine Dv ?_;refine dV 19 O (fun c1=>?_) (fun c1=>?_)
 ·exfalso;omega
 refine Bu ?_;refine bE O (fun c2=>?_) (fun c2=>?_)
 ·exfalso;omega
 refine Bi ?_;refine uU (gN O (fun hF=>?_));refine Bi ?_;refine uX (qWp hE ⟨h1,h2⟩ hD) O ?_;rintro _ _⟨q,c,rfl,rfl⟩;rw[hx];simp only[uV,uW];refine CK ?_;refine iO (p:=sl q c 5 1 (DV ps).length (Bd (DV ps))) uK (fun _ h=>(lX h).1) ?_;intro hA;refine iO (p:=sl q c 5 1 (DV ps).length (Bd (DV ps))) uK (fun _ h=>fun hB=>eG h hB) ?_;intro hG;have hH:Cv E.w0 q (Bd (DV ps)) (sl q c 5 1 (DV ps).length (Bd (DV ps))):=sK (fK _) hG;refine Bw ?_;refine uX (qLv hE hC hH hA hl) O ?_;rintro _ _⟨ys,q2,c2',rfl,hI,rfl⟩;simp only[uV,uW];refine CX ?_;refine bE O (fun c3=>?_) (fun c3=>?_)
 ·exfalso;omega
 refine GN ?_;exact uZ O (.tmp O (.tmp O (.tmp O .nil))) ⟨hF,ys,q2,c2',O,hI,O⟩
def qLu (hE:BP E){p a l ct sz c n0 n1 bs x0 x1 e q}(hp:p.up)(hn:FM n0)(hq:Cv E.w0 e (Bd bs) q)(h1:1<=bs.length)(h2:bs.length<=1048576)(hl:Ht x0+bs.length+8<=16777216)(hC:ct<=1000000000)(hD:sz<=1000000000):
  Ct E 75 [uPt l,.slice e bs.length c] [cells l [uPt a,BN n0,BK ct,BK sz,.bool false] 139,Dt a n0 n1 x0 x1 p,q] (fun v Q=>v= .nilIface/\Q=[cells l [uPt a,BN n0,BK ((ct+1)),BK ((sz+(Et bs).length)),.bool false] 139,Dt a n0 n1 (some (JO x0 (Et bs))) x1 p.fin,q]):=by
 have hF:=wZ bs;refine bO (hE.fn Tryz.func75) O O O (fun R=>?_);simp only[dS,uV,uW];refine WJ ?_;refine uX (qOy hE hq h1 h2) O ?_;rintro _ _⟨g,c',rfl,rfl⟩;simp only[uV,uW];refine CK ?_;have hA:Cv E.w0 (BM g) (Bd (Et bs)) (sl (BM g) c' 5 1 (Et bs).length (Bd (Et bs))):=sK (fK _) (fun _=>⟨g,O⟩);have hB:Ht x0+(Et bs).length<=16777216:=oO;refine Bz ?_;refine uH ([cells l [uPt a,BN n0,BK ct,BK sz,.bool false] 139]) ?_;refine Bu ?_;apply dH 9 O oK O;refine uC (qOm (bs:=Et bs) hE hp hn hA hB) O ?_;rintro _ _⟨rfl,rfl⟩;simp only[uV,uW];refine uE ?_;refine Ci ?_;refine BU 51 (BL ((ct+1:Nat):Int)) O (bW oO) ?_;refine CU ?_;refine BU 60 (BL ((sz+(Et bs).length:Nat):Int)) O (bW oO) ?_;refine Bo ?_;exact uZ O (.tmp O .nil) ⟨O,O⟩
def qTu (hE:BP E){p a l ct sz n0 n1 x x1}(hp:p.up)(hn:FM n0)(hA:1<=ct):
  Ct E 76 [uPt l] [cells l [uPt a,BN n0,BK ct,BK sz,.bool false] 139,Dt a n0 n1 (some x) x1 p] (fun v Q=>v= .nilIface/\Q=[cells l [uPt a,BN n0,BK ct,BK sz,.bool false] 139,Dt a n0 n1 (some ⟨x.data,x.data.length⟩) x1 p.fin]):=by
 refine bO (hE.fn Tryz.func76) O O O (fun R=>?_);simp only[dS,uV,uW];refine WL ?_;refine bE O (fun c1=>?_) (fun c1=>?_)
 ·exfalso;omega
 refine Bz ?_;refine uH ([cells l [uPt a,BN n0,BK ct,BK sz,.bool false] 139]) ?_;refine Br ?_;apply dH 8 O oK O;refine uC (qWq hE hp hn) O ?_;rintro _ _⟨rfl,rfl⟩;simp only[uV,uW];refine uE ?_;refine Cw ?_;exact uZ O (.tmp O .nil) ⟨O,O⟩
end
