import Derived.Test.YtnicahfnolhgbaaGreatDoorQ39
set_option linter.all false
set_option maxHeartbeats 1000000
namespace Go.Proofs.YtnicahfnolhgbaaGreatDoor
open Go Go.RowKit Sl Eg
section
def Iy (acc:List Nat):Int->Option Value:=fun k=>if 0<=k/\(k=0\/k.toNat∈acc)then some (.bool true)else none
def OV:DD (fun _=>none) 0 (.bool true)=Iy []:=by
 funext k;unfold DD Iy;by_cases h:k=0
 ·subst h;simp
 rw[if_neg h,if_neg];simp[h]
def OX {acc x}:DD (Iy acc) (x:Nat) (.bool true)=Iy (acc++[x]):=by
 funext k;unfold DD Iy;by_cases h:k=(x:Nat)
 ·subst h;simp
 rw[if_neg h]
 have:(0<=k/\(k=0\/k.toNat∈acc++[x]))↔(0<=k/\(k=0\/k.toNat∈acc)):=by
  constructor
  ·rintro⟨h0,h1|h1⟩
   ·exact⟨h0,.inl h1⟩
   rcases ay.1 h1 with h1|h1
   ·exact⟨h0,.inr h1⟩
   simp at h1;omega
  rintro⟨h0,h1|h1⟩
  ·exact⟨h0,.inl h1⟩
  exact⟨h0,.inr (by simp[h1])⟩
 simp only[this]
def RQ {acc x}(h:x=0\/x∈acc):Iy acc (x:Nat)=some (.bool true):=by
 unfold Iy;rw[if_pos];exact⟨oO,by rcases h with h|h;exact .inl oO;exact .inr (by simpa using h)⟩
def OW {acc x}(h:¬(x=0\/x∈acc)):Iy acc (x:Nat)=none:=by
 unfold Iy;rw[if_neg];rintro⟨_,h1|h1⟩
 ·exact h (.inl oO)
 exact h (.inr (by simpa using h1))
def Dw (ids:List Nat):Int->Option Value:=fun k=>if 0<=k/\k.toNat∈ids then some (.int .i64 (Bh ids k.toNat:Nat))else none
def qZh:(fun _=>none)=Dw []:=by funext k;simp[Dw]
def Oh {ids x}(h:x∉ids):DD (Dw ids) (x:Nat) (BL ((ids.length+1:Nat):Int))=Dw (ids++[x]):=by
 funext k;unfold DD Dw;by_cases e:k=(x:Nat)
 ·subst e;simp[qZi h]
 rw[if_neg e];by_cases h0:0<=k
 ·have hk:k.toNat≠x:=oO;simp only[h0,true_and,ay,bg,hk,or_false];rw[qUp hk]
 simp[h0]
def VY (ids:List Nat)(x:Nat):wY false (BL 0) (Dw ids (x:Nat))= BK (Bh ids x):=by
 unfold wY Dw;by_cases h:x∈ids
 ·simp[h]
 simp[h,gH.2 h]
def Ha:List (Nat×Bool)->List Value
 |[]=>[]
 |p::st=>Ha st++[.int .i64 (p.1:Nat),.bool p.2]
def Wd:∀(st:List (Nat×Bool)),(Ha st).length=st.length*2
 |[]=>rfl
 |p::st=>by simp only[Ha,aa,Wd st,az,iw];omega
def PY {L}(hw:Wf L):∀(x:Nat),1<=x->x<=L.length->FV L x+2<=4*len L x:=by
 intro x;induction x using Nat.strongRecOn with
 |ind x ih=>
  intro h1 h2
  obtain⟨n,rfl⟩:∃n,x=n+1:=⟨x-1,oO⟩
  have hg:L[n]?=some L[n]:=ag oO
  generalize L[n]=r at hg
  have ho:=hw.ok n r hg
  cases r with
  |letter b=>
   have e:len L (n+1)=1:=by unfold len;rw[fP hg];rfl
   rw[FV,hg,e]
   show 2+2<=4*1
   omega
  |pair a b=>
   have e:len L (n+1)=len L a+len L b:=by unfold len;rw[iK hg ho,aa]
   simp only[Rl.ok]at ho
   have g1:=ih a oO oO oO
   have g2:=ih b oO oO oO
   rw[FV,hg,e]
   simp only
   rw[lm oO,lm oO];omega
  |power a k=>
   have e:len L (n+1)=k*len L a:=by unfold len;rw[iY hg ho];simp
   simp only[Rl.ok]at ho
   have g1:=ih a oO oO oO
   have g2:=hw.pos a oO oO
   have:2*len L a<=k*len L a:=kg _ ho.2.2
   rw[FV,hg,e]
   simp only
   rw[lm oO];omega
def zBp {L}(hw:Wf L){x m}(h:x<=L.length)(hm:len L x<=m):FV L x<=4*m+1:=by
 cases x with
 |zero=>rw[FV];omega
 |succ n=>have:=PY hw (n+1) oO h;omega
def XV (L:List Rl):∀(st:List (Nat×Bool)),st.length<=vF L st
 |[]=>ai _
 |(x,true)::st=>by have:=XV L st;simp only[vF,az];omega
 |(x,false)::st=>by have:=XV L st;have:=qSk L x;simp only[vF,az];omega
def Gu (L:List Rl)(st:List (Nat×Bool)):Prop:=∀p∈st,p.1<=L.length/\(p.2=true->1<=p.1)
def Gu.tail {L p st}(h:Gu L (p::st)):Gu L st:=fun q hq=>h q (by simp[hq])
def zAi {L x b st acc}(hs:Gu L ((x,b)::st))(h:x=0\/x∈acc):FL L ((x,b)::st) acc=FL L st acc:=by
 cases b with
 |true=>
  have:=(hs (x,true) BF).2 rfl
  simp only at this
  rw[FL,if_pos (by rcases h with h|h;omega;exact h)]
 |false=>
  rw[FL]
  rcases h with rfl| h
  ·rw[mM]
  rw[mU h]
def qVd (L:List Rl)(x:Nat)(b:Bool)(st:List (Nat×Bool)):vF L st<vF L ((x,b)::st):=by
 cases b with
 |true=>simp only[vF];omega
 |false=>have:=qSk L x;simp only[vF];omega
def zAg {L x st acc}(h:¬(x=0\/x∈acc)):FL L ((x,true)::st) acc=FL L st (acc++[x]):=by
 rw[FL,if_neg fun hm=>h (.inr hm)]
def MI (r:Rl)(x:Nat)(st:List (Nat×Bool)):List (Nat×Bool):=(BZ r).map (·,false)++(x,true)::st
def zAp {L}(hw:Wf L){n r}(h:L[n]?=some r){st}(hs:Gu L st):Gu L (MI r (n+1) st):=fun p hp=>by
 have hl:=(ae.1 h).1;rcases ay.1 hp with hp|hp
 ·obtain⟨k,hk,rfl⟩:=jg.1 hp;have:=kH (hw.ok n r h) k hk;exact⟨BD,fun _=>this.1⟩
 rcases di.1 hp with rfl|hp
 ·exact⟨BD,fun _=>by simp⟩
 exact hs p hp
end
section
def FY:List (List UInt8×Int)->List Value
 |[]=>[]
 |p::l=> .string ⟨⟨p.1⟩⟩:: .int .i64 p.2::FY l
def qHc:∀l:List (List UInt8×Int),(FY l).length=l.length*2
 |[]=>rfl
 |p::l=>by simp only[FY,az,qHc l];omega
def Ty:∀{l:List (List UInt8×Int)}{i:Nat}{p:List UInt8×Int},l[i]?=some p->(FY l)[i*2]?=some (BN (p.1))/\(FY l)[i*2+1]?=some (BL p.2)
 |p::l,0,q,h=>by simp at h;subst h;exact⟨rfl,rfl⟩
 |p::l,i+1,q,h=>by
  have:=Ty (l:=l) (i:=i) (p:=q) (by simpa using h);rw[show(i+1)*2=i*2+1+1 by omega];exact this
def YQ {l i p}(h:l[i]?=some p):∀(j:Nat)(u:Value),[Value.string ⟨⟨p.1⟩⟩,BL p.2][j]?=some u->(FY l)[i*2+j]?=some u:=fun j u hu=>by
 have:=Ty h;rcases j with _|_| j
 ·simp at hu;subst hu;exact this.1
 ·simp at hu;subst hu;exact this.2
 simp at hu
def Gb (l:List (List UInt8×Int))(n:Nat):Prop:=∀(i:Nat)(p q:List UInt8×Int),i+1<n->l[i]?=some p->l[i+1]?=some q->Op.bytesLess p.1 q.1=true
end
end Go.Proofs.YtnicahfnolhgbaaGreatDoor
namespace Sl
open Go Go.RowKit
variable {E:Bp}{n:Nat}{L:Fr}{S H H':List HP}{ty:TypeId}{pos:String}{af:Array Edge}{d:Option Nat}{gd:Option (Nat×Bool)}{K:Value->List HP->Prop}
def pX {x}{s t:TypeId}{kd k' ks i j sz sz' zs zs'}(hx:ev L x=some (.int kd i))(hs:E.tab s=some ⟨.int ks,sz,zs⟩)(ht:E.tab t=some ⟨.int k',sz',zs'⟩)(hw:k'.wrap i=j):
  Yl E n L S ⟨d,.convert s t x,ty,pos,af,gd⟩ (.int k' j):=fun a w g _=>by
 simp[execOp,convert,underlying,program,Sem.run,nJ hs,nJ ht,g.ev hx,Conv.intToInt,hw]
def XX (i:Nat):IntKind.u8.wrap (i:Int)=((i%256:Nat):Int):=by
 simp[IntKind.wrap,IntKind.bits,IntKind.signed]
set_option maxRecDepth 100000 in
def RZ:∀m:Fin 256,IntKind.u8.wrap ((m.val%2^IntKind.u8.bits|||128%2^IntKind.u8.bits:Nat):Int)=(m.val:Int)%128+128:=by decide
def Pj {x y}{xt yt:TypeId}{i}(hi:i<256)(hx:ev L x=some (.int .u8 (i:Nat)))(hy:ev L y=some (.int .u8 128)):
  Yl E n L S ⟨d,.binOp .or xt x y yt,ty,pos,af,gd⟩ (.int .u8 ((i%128+128:Nat):Int)):=fun a w g _=>by
 have:=RZ ⟨i,hi⟩;simp only at this;simp[execOp,eqGuard,binOp,Op.intBits,g.ev hx,g.ev hy];exact this
end Sl
namespace Go.Proofs.YtnicahfnolhgbaaGreatDoor
open Go Go.RowKit Sl Eg
set_option maxRecDepth 10000
section
variable {E:Bp}
structure ZM where
 n:Nat
 done:List UInt8
 p:Nat
 c:Nat
def qHg {i}(h:i<256):((UInt8.ofNat i).toNat:Int)=i:=by rw[UInt8.toNat_ofNat'];simp;omega
def nG (hE:BP E){n}(hn:n<18446744073709551616):Ct E 37 [.int .u64 (n:Nat)] [] (fun v Q=>∃g c,v= .slice (BM g) (BS n).length c/\Q=[sl (BM g) c 5 1 (BS n).length (Bd (BS n))]):=by
 have hF:=gM hn;refine bO (hE.fn Tryz.func37) O O O (fun R=>?_);simp only[dS,uV,uW];refine Bi ?_;refine uU (kE (hE.t O) (hE.t O) O O (by first |omega |exact bz rfl) (by(unfold maxLen;first |omega |exact bz rfl)) (fun b4 us4 hM=>?_));refine Bw ?_;refine fF (cO (p:=sl (BM b4) 10 5 1 10 us4) (p':=sl (BM b4) 10 5 1 0 (Bd [])) uK (nK (av _) O BF)) ?_;refine dX (fun q:ZM=>[(0,.int .u64 (q.n:Nat)),(3,.slice (BM q.p) q.done.length q.c)]) (fun q=>[sl (BM q.p) q.c 5 1 q.done.length (Bd q.done),R]) (fun q=>q.n) (fun q=>q.done++BS q.n=BS n/\q.n<18446744073709551616) ⟨n,[],b4,10⟩ ?_ ?_ ?_ ?_
 ·exact⟨O,hn⟩
 ·exact BC
 ·exact uI
 rintro⟨m,done,p,c⟩⟨hd,hm⟩;simp only at hd hm ⊢;have hN:done.length<=10:=by have:=au List.length hd;rw[aa]at this;omega
 refine Bi ?_;refine bE O (fun h1=>?_) (fun h1=>?_)
 ·refine Bi ?_;refine uB (pX O (hE.t O) (hE.t O) (XX _)) ?_;refine uB (Pj oO O O) ?_;refine uU (aU (hE.t O) (hE.t O) O O O (fun hO=>?_));refine uU (BJ (fun hG hH hP hI hA hC=>?_));refine Bu ?_;rw[vE oO]at hd;refine bS (ι:=ZM) (j:=⟨m/128,done++[UInt8.ofNat (m%128+128)],hG,hH⟩) ⟨by simp only[ah,List.singleton_append];exact hd,BD⟩ BD ⟨rfl,by simp only[aa,bf];rw[hA];rfl,trivial⟩ ?_
  obtain rfl:hI=Bd (done++[UInt8.ofNat (m%128+128)]):=by
   rw[hC];simp only[Bd,kv,kz,qg];rw[qHg oO,show m%256%128=m%128 by omega];rfl
  simp only[aa,bf];rw[hA];exact uI
 refine Bu ?_;refine uB (pX O (hE.t O) (hE.t O) (XX _)) ?_;refine uU (aU (hE.t O) (hE.t O) O O O (fun hQ=>?_));refine uU (BJ (fun hJ hK hR hL hB hD=>?_));refine Bz ?_;rw[jU oO]at hd;have hl:(BS n).length=done.length+1:=by rw[<-hd];simp
 apply cK
 ·rfl
 ·(apply Rs.tmp rfl;exact Rs.nil)
 ·refine⟨hJ,hK,?_,O⟩;rw[hl,hB];rfl
 obtain rfl:hL=Bd (BS n):=by
  rw[hD,<-hd];simp only[Bd,kv,kz,qg];rw[qHg oO,show m%256=m by omega];rfl
 rw[hl];rw[hB];exact uI
end
section
variable {E:Bp}
def gG (l:List UInt8):∀u∈Bd l,u.oneCell'=true:=fun u h=>by
 obtain⟨i,_,rfl⟩:=jg.1 h;rfl
def fK (l:List UInt8):(Bd l).length=l.length:=jr _
def fM (a b:List UInt8):Bd (a++b)=Bd a++Bd b:=by simp[Bd]
def Uv (hE:BP E)(r:Rl):Ct E 71 [.agg #[BK (Rl.kind (r)),.int .u8 (Rl.byte (r):Nat),BK (Rl.left (r)),BK (Rl.right (r)),BK (Rl.times (r))]] [] (fun v Q=>∃p c,v= .slice p (BZ r).length c/\Q=[sl p c 41 1 (BZ r).length (Bg (BZ r))]):=by
 cases r with
 |letter b=>
  refine bO (hE.fn Tryz.func71) O O O (fun R=>?_)
  simp only[dS,uV,uW]
  refine CL ?_
  refine uU (gN O (fun b1=>?_))
  refine IP ?_
  apply cK
  ·rfl
  ·(apply Rs.tmp rfl;exact Rs.nil)
  ·exact⟨none,0,O,O⟩
  apply cZ (fU (t:=41) (sz:=1))
  exact uI
 |pair a b=>
  refine bO (hE.fn Tryz.func71) O O O (fun R=>?_)
  simp only[dS,uV,uW]
  refine CL ?_
  refine uU (gN O (fun b1=>?_))
  refine Dv ?_
  refine uU (aU (hE.t O) (hE.t O) O O O (fun hA=>?_))
  refine CB ?_
  apply cK
  ·rfl
  ·(apply Rs.tmp rfl;exact Rs.nil)
  ·exact⟨some ⟨hA,0,none⟩,2,O,O⟩
  apply cZ (cO (p:=cells hA [BK a,BK b] 41) (p':=sl (BM hA) 2 41 1 2 (Bg [a,b])) uK (gU O (by unfold maxLen;omega)))
  exact uI
 |power a k=>
  refine bO (hE.fn Tryz.func71) O O O (fun R=>?_)
  simp only[dS,uV,uW]
  refine CL ?_
  refine uU (gN O (fun b1=>?_))
  refine Hw ?_
  refine uU (aU (hE.t O) (hE.t O) O O O (fun hB=>?_))
  refine CB ?_
  apply cK
  ·rfl
  ·(apply Rs.tmp rfl;exact Rs.nil)
  ·exact⟨some ⟨hB,0,none⟩,1,O,O⟩
  apply cZ (cO (p:=cells hB [BK a] 41) (p':=sl (BM hB) 1 41 1 1 (Bg [a])) uK (gU O (by unfold maxLen;omega)))
  exact uI
def qRj (r:Rl):(BZ r).length<=2:=by cases r<;>simp[BZ]
def vL (hE:BP E){r n}(ho:r.ok n)(h1:1<=n)(hn:n<=1099511627776):Ct E 109 [.agg #[BK (Rl.kind (r)),.int .u8 (Rl.byte (r):Nat),BK (Rl.left (r)),BK (Rl.right (r)),BK (Rl.times (r))],BK n] [] (fun v Q=>v= .nilIface/\Q=[]):=by
 have hC:=qRj r;have hB:=kH ho;refine bO (hE.fn Tryz.func109) O O O (fun R=>?_);simp only[dS,uV,uW];refine CL ?_;refine uU (gN O (fun b2=>?_));refine Bc ?_;refine bE O (fun h0=>?_) (fun h0=>?_)
 ·exact absurd h0 oO
 refine CB ?_;refine uX (Uv hE r) O ?_;rintro _ _⟨p,c,rfl,rfl⟩;simp only[uV,uW];generalize BZ r=ks at hC hB ⊢;refine Bw ?_;refine dX (fun k:Nat=>[(1,BK n),(4,.nilIface),(11,.slice p ks.length c),(12,BK ks.length),(13,BK k)]) (fun k=>[sl p c 41 1 ks.length (Bg ks),R]) (fun k=>ks.length-k) (fun k=>k<=ks.length) 0 (av _) BC ?_ ?_
 ·exact uI
 rintro k hk;refine CB ?_;refine bE O (fun h2=>?_) (fun h2=>?_)
 ·have hA:k<ks.length:=oO;obtain⟨x,hx⟩:∃x,ks[k]?=some x:=⟨_,ag hA⟩;have hD:=hB x (ak hx);refine iO (p:=sl p c 41 1 ks.length (Bg ks)) uK (fun _ h=>eG h oO) ?_;rintro⟨g,rfl⟩;have f0:=fT hx (0+(k:Int).toNat) oO;have f1:=fT hx ((k:Int).toNat) oO;refine CX ?_;refine dV 19 O (fun h3=>?_) (fun h3=>?_)
  ·exact absurd h3 oO
  refine Bo ?_;refine bE O (fun h4=>?_) (fun h4=>?_)
  ·exact absurd h4 oO
  refine Bi ?_;refine bS (ι:=Nat) (j:=k+1) hA oO ⟨O,O,O,O,au some (bW oO),trivial⟩ ?_;exact uI
 refine Bo ?_;exact uZ O (.tmp O .nil) ⟨O,O⟩
def Ww (hE:BP E){r n}(ho:r.ok n)(h1:1<=n)(hn:n<=1099511627776):Ct E 72 [.agg #[BK (Rl.kind (r)),.int .u8 (Rl.byte (r):Nat),BK (Rl.left (r)),BK (Rl.right (r)),BK (Rl.times (r))],BK n] [] (fun v Q=>v= .nilIface/\Q=[]):=by
 cases r with
 |letter b=>
  refine bO (hE.fn Tryz.func72) O O O (fun R=>?_)
  simp only[dS,uV,uW]
  refine CL ?_
  refine uU (gN O (fun b2=>?_))
  refine TZ ?_
  refine Bv ?_
  refine BH (vL (r:= .letter b) hE ho h1 hn) O ?_
  refine Bz ?_
  exact uZ O (.tmp O .nil) ⟨O,O⟩
 |pair a b=>
  refine bO (hE.fn Tryz.func72) O O O (fun R=>?_)
  simp only[dS,uV,uW]
  refine CL ?_
  refine uU (gN O (fun b2=>?_))
  refine TZ ?_
  refine BH (vL (r:= .pair a b) hE ho h1 hn) O ?_
  refine Bz ?_
  exact uZ O (.tmp O .nil) ⟨O,O⟩
 |power a k=>
  have e:decide ((2:Int)<=((Rl.times (.power a k):Nat):Int))=true:=oI (by have:=ho.2.2;simp only[Rl.times];omega)
  refine bO (hE.fn Tryz.func72) O O O (fun R=>?_)
  simp only[dS,uV,uW]
  refine CL ?_
  refine uU (gN O (fun b2=>?_))
  refine WM ?_
  refine Bc ?_
  rw[e]
  refine Bi ?_
  refine BH (vL (r:= .power a k) hE ho h1 hn) O ?_
  refine Bz ?_
  exact uZ O (.tmp O .nil) ⟨O,O⟩
def qXd (hE:BP E){r n}(ho:r.ok n)(h1:1<=n)(hn:n<=1099511627776)(ht:r.times<=1152921504606846976):Ct E 39 [.agg #[BK (Rl.kind (r)),.int .u8 (Rl.byte (r):Nat),BK (Rl.left (r)),BK (Rl.right (r)),BK (Rl.times (r))],BK n] [] (fun v Q=>∃g c,v= .tuple #[.slice (BM g) (Co n r).length c,.nilIface]/\Q=[sl (BM g) c 5 1 (Co n r).length (Bd (Co n r))]):=by
 cases r with
 |letter b=>
  refine bO (hE.fn Tryz.func39) O O O (fun R=>?_)
  simp only[dS,uV,uW]
  refine CL ?_
  refine uU (gN O (fun b2=>?_))
  refine Bu ?_
  refine BH (Ww (r:= .letter b) hE ho h1 hn) O ?_
  refine CX ?_
  refine uB (pX (j:=1) O (hE.t O) (hE.t O) O) ?_
  refine uU (aU (hE.t O) (hE.t O) O O O (fun hC=>?_))
  refine Cw ?_
  refine fF (cO (p:=cells hC [.int .u8 1] 5) (p':=sl (BM hC) 1 5 1 1 (Bd [1])) uK (gU O (by unfold maxLen;omega))) ?_
  refine Bz ?_
  refine uU (aU (hE.t O) (hE.t O) O O O (fun hJ=>?_))
  refine uU (BJ (fun hG hH hK hI hD hF=>?_))
  refine Bq ?_
  obtain rfl:hI=Bd [1,b]:=by rw[hF];rfl
  apply cK
  ·rfl
  ·(apply Rs.tmp rfl;apply Rs.tmp rfl;exact Rs.nil)
  ·exact⟨hG,hH,by rw[hD];rfl,rfl⟩
  rw[hD]
  exact uI
 |pair a b=>
  have ho':=ho
  simp only[Rl.ok]at ho'
  have e1:=gM (n:=n-a) oO
  have e2:=gM (n:=n-b) oO
  have hl:(Rl.pair a b).left=a:=rfl
  have hr:(Rl.pair a b).right=b:=rfl
  refine bO (hE.fn Tryz.func39) O O O (fun R=>?_)
  simp only[dS,uV,uW]
  refine CL ?_
  refine uU (gN O (fun b2=>?_))
  refine Bu ?_
  refine BH (Ww (r:= .pair a b) hE ho h1 hn) O ?_
  refine CX ?_
  refine uB (pX (j:=2) O (hE.t O) (hE.t O) O) ?_
  refine uU (aU (hE.t O) (hE.t O) O O O (fun hC=>?_))
  refine EK ?_
  refine fF (cO (p:=cells hC [.int .u8 2] 5) (p':=sl (BM hC) 1 5 1 1 (Bd [2])) uK (gU O (by unfold maxLen;omega))) ?_
  refine Bi ?_
  refine BU 33 (BL ((n-a:Nat):Int)) O (bW oO) ?_
  refine Bv ?_
  refine uX (nG (n:=n-a) hE oO) O ?_
  rintro _ _⟨g,c,rfl,rfl⟩
  simp only[uV,uW]
  refine uU ?_
  apply gB (hE.t O) (hE.t O) O O O
  ·exact uK
  ·exact uK
  ·exact gG _
  ·exact jG _
  ·first |omega |(simp only[aa,az,iw];omega)
  ·unfold maxLen;first |omega |(simp only[aa,az,iw];omega)
  intro g1 c1 m' x' hA hB
  obtain rfl:m'=([2]++BS (n-a)).length:=by rw[hA];simp only[aa,az,iw]<;>omega
  obtain rfl:x'=Bd ([2]++BS (n-a)):=hB.trans (fM _ _).symm
  clear hA hB
  refine Bu ?_
  refine BU 41 (BL ((n-b:Nat):Int)) O (bW oO) ?_
  refine Bv ?_
  refine uX (nG (n:=n-b) hE oO) O ?_
  rintro _ _⟨g',c',rfl,rfl⟩
  simp only[uV,uW]
  refine uU ?_
  apply gB (hE.t O) (hE.t O) O O O
  ·exact uK
  ·exact uK
  ·exact gG _
  ·exact jG _
  ·first |omega |(simp only[aa,az,iw];omega)
  ·unfold maxLen;first |omega |(simp only[aa,az,iw];omega)
  intro g2 c2 m' x' hA hB
  obtain rfl:m'=([2]++BS (n-a)++BS (n-b)).length:=by rw[hA];simp only[aa,az,iw]<;>omega
  obtain rfl:x'=Bd ([2]++BS (n-a)++BS (n-b)):=hB.trans (fM _ _).symm
  clear hA hB
  refine Bq ?_
  exact uZ O (.tmp O (.tmp O .nil)) ⟨g2,c2,O,O⟩
 |power a k=>
  have ho':=ho
  simp only[Rl.ok]at ho'
  simp only[Rl.times]at ht
  have e1:=gM (n:=n-a) oO
  have e2:=gM (n:=k-2) oO
  have hl:(Rl.power a k).left=a:=rfl
  have hr:(Rl.power a k).times=k:=rfl
  refine bO (hE.fn Tryz.func39) O O O (fun R=>?_)
  simp only[dS,uV,uW]
  refine CL ?_
  refine uU (gN O (fun b2=>?_))
  refine Bu ?_
  refine BH (Ww (r:= .power a k) hE ho h1 hn) O ?_
  refine CX ?_
  refine uB (pX (j:=3) O (hE.t O) (hE.t O) O) ?_
  refine uU (aU (hE.t O) (hE.t O) O O O (fun hC=>?_))
  refine Kh ?_
  refine fF (cO (p:=cells hC [.int .u8 3] 5) (p':=sl (BM hC) 1 5 1 1 (Bd [3])) uK (gU O (by unfold maxLen;omega))) ?_
  refine Bi ?_
  refine BU 51 (BL ((n-a:Nat):Int)) O (bW oO) ?_
  refine Bv ?_
  refine uX (nG (n:=n-a) hE oO) O ?_
  rintro _ _⟨g,c,rfl,rfl⟩
  simp only[uV,uW]
  refine uU ?_
  apply gB (hE.t O) (hE.t O) O O O
  ·exact uK
  ·exact uK
  ·exact gG _
  ·exact jG _
  ·first |omega |(simp only[aa,az,iw];omega)
  ·unfold maxLen;first |omega |(simp only[aa,az,iw];omega)
  intro g1 c1 m' x' hA hB
  obtain rfl:m'=([3]++BS (n-a)).length:=by rw[hA];simp only[aa,az,iw]<;>omega
  obtain rfl:x'=Bd ([3]++BS (n-a)):=hB.trans (fM _ _).symm
  clear hA hB
  refine Br ?_
  refine BU 58 (BL ((k-2:Nat):Int)) O (bW oO) ?_
  refine Bv ?_
  refine uX (nG (n:=k-2) hE oO) O ?_
  rintro _ _⟨g',c',rfl,rfl⟩
  simp only[uV,uW]
  refine uU ?_
  apply gB (hE.t O) (hE.t O) O O O
  ·exact uK
  ·exact uK
  ·exact gG _
  ·exact jG _
  ·first |omega |(simp only[aa,az,iw];omega)
  ·unfold maxLen;first |omega |(simp only[aa,az,iw];omega)
  intro g2 c2 m' x' hA hB
  obtain rfl:m'=([3]++BS (n-a)++BS (k-2)).length:=by rw[hA];simp only[aa,az,iw]<;>omega
  obtain rfl:x'=Bd ([3]++BS (n-a)++BS (k-2)):=hB.trans (fM _ _).symm
  clear hA hB
  refine Bq ?_
  exact uZ O (.tmp O (.tmp O .nil)) ⟨g2,c2,O,O⟩
def eY (l:List UInt8):List UInt8:=BS l.length++l
end
end Go.Proofs.YtnicahfnolhgbaaGreatDoor
namespace Sl
open Go Go.RowKit
variable {E:Bp}{n:Nat}{L:Fr}{S:List HP}{ty:TypeId}{pos:String}{af:Array Edge}{d:Option Nat}{gd:Option (Nat×Bool)}
end Sl
namespace Go.Proofs.YtnicahfnolhgbaaGreatDoor
open Go Go.RowKit Sl Eg
set_option maxRecDepth 10000
variable {E:Bp}
def Hz (i c:Nat):Prop:=(97<=c/\c<=122)\/(0<i/\((48<=c/\c<=57)\/c=45))
instance (i c:Nat):Decidable (Hz i c):=inferInstanceAs (Decidable (_\/_))
def Ff (bs:List UInt8):Prop:=1<=bs.length/\bs.length<=32/\∀i,i<bs.length->Hz i (bs.getD i 0).toNat
instance (bs:List UInt8):Decidable (Ff bs):=inferInstanceAs (Decidable (_/\_/\∀i,i<bs.length->_))
def qLs (hE:BP E){bs}:Ct E 69 [BN bs] [] (fun v Q=>v= .bool (decide (Ff bs))/\Q=[]):=by
 have hI:=PM bs;refine bO (hE.fn Tryz.func69) O O O (fun R=>?_);simp only[dS,uV,uW];refine Bq ?_;refine dV 8 O (fun h1=>?_) (fun h1=>?_)
 ·refine CU ?_;exact uZ O (.tmp O .nil) ⟨au Value.bool (oM fun hv=>by have:=hv.1;omega).symm,rfl⟩
 refine Bu ?_;refine bE O (fun h2=>?_) (fun h2=>?_)
 ·refine Bi ?_;exact uZ O (.tmp O .nil) ⟨au Value.bool (oM fun hv=>by have:=hv.2.1;omega).symm,rfl⟩
 refine Bo ?_;refine dX (fun k:Nat=>[(0,BN bs),(14,BK ((⟨⟨bs⟩⟩:ByteArray).size)),(15,BK k)]) (fun k=>[R]) (fun k=>bs.length-k) (fun k=>k<=bs.length/\∀j,j<k->Hz j (bs.getD j 0).toNat) 0 ⟨av _,fun j h=>by omega⟩ BC uI ?_;rintro k⟨hk,hC⟩;refine CB ?_;refine bE O (fun hc=>?_) (fun hc=>?_)
 ·have hD:k<bs.length:=oO;obtain⟨x,hx⟩:∃x,bs[k]?=some x:=⟨_,ag hD⟩;have hF:bs.getD k 0=x:=by rw[lh,hx];rfl
  have hJ:(⟨⟨bs⟩⟩:ByteArray)[(k:Int).toNat]?=some x:=PS hx _ oO
  have hB:Hz k x.toNat->k+1<=bs.length/\∀j,j<k+1->Hz j (bs.getD j 0).toNat:=fun hG=>⟨oO,fun j hj=>by
   rcases fw j k with h| h
   ·exact hC j h
   obtain rfl:j=k:=by omega
   rw[hF];exact hG⟩
  have hA:¬Hz k x.toNat->¬Ff bs:=fun hH hv=>hH (by have:=hv.2.2 k hD;rwa [hF]at this)
  refine Dv ?_;refine dV 24 O (fun a1=>?_) (fun a1=>?_)
  ·refine Br ?_;refine bE O (fun a2=>?_) (fun a2=>?_)
   ·refine Br ?_;refine bS (ι:=Nat) (j:=k+1) (hB (by unfold Hz;omega)) oO ⟨O,O,au some (bW oO),trivial⟩ uI
   refine Bw ?_;refine dV 31 O (fun h3=>?_) (fun h3=>?_)
   ·refine CB ?_;refine dV 34 O (fun h4=>?_) (fun h4=>?_)
    ·refine Br ?_;refine dV 38 O (fun h5=>?_) (fun h5=>?_)
     ·refine CY ?_;refine bS (ι:=Nat) (j:=k+1) (hB (by unfold Hz;omega)) oO ⟨O,O,au some (bW oO),trivial⟩ uI
     refine Bc ?_;refine bE O (fun h6=>?_) (fun h6=>?_)
     ·exfalso;omega
     refine Bq ?_;exact uZ O (.tmp O .nil) ⟨au Value.bool (oM (hA (by unfold Hz;omega))).symm,O⟩
    refine CX ?_;refine bE O (fun h6=>?_) (fun h6=>?_)
    ·refine Br ?_;refine bS (ι:=Nat) (j:=k+1) (hB (by unfold Hz;omega)) oO ⟨O,O,au some (bW oO),trivial⟩ uI
    refine Bq ?_;exact uZ O (.tmp O .nil) ⟨au Value.bool (oM (hA (by unfold Hz;omega))).symm,O⟩
   refine Gp ?_;exact uZ O (.tmp O .nil) ⟨au Value.bool (oM (hA (by unfold Hz;omega))).symm,O⟩
  refine Bq ?_;refine dV 31 O (fun h3=>?_) (fun h3=>?_)
  ·refine CB ?_;refine dV 34 O (fun h4=>?_) (fun h4=>?_)
   ·refine Br ?_;refine dV 38 O (fun h5=>?_) (fun h5=>?_)
    ·refine CY ?_;refine bS (ι:=Nat) (j:=k+1) (hB (by unfold Hz;omega)) oO ⟨O,O,au some (bW oO),trivial⟩ uI
    refine Bc ?_;refine bE O (fun h6=>?_) (fun h6=>?_)
    ·exfalso;omega
    refine Bq ?_;exact uZ O (.tmp O .nil) ⟨au Value.bool (oM (hA (by unfold Hz;omega))).symm,O⟩
   refine CX ?_;refine bE O (fun h6=>?_) (fun h6=>?_)
   ·refine Br ?_;refine bS (ι:=Nat) (j:=k+1) (hB (by unfold Hz;omega)) oO ⟨O,O,au some (bW oO),trivial⟩ uI
   refine Bq ?_;exact uZ O (.tmp O .nil) ⟨au Value.bool (oM (hA (by unfold Hz;omega))).symm,O⟩
  refine Gp ?_;exact uZ O (.tmp O .nil) ⟨au Value.bool (oM (hA (by unfold Hz;omega))).symm,O⟩
 refine Bo ?_;exact uZ O (.tmp O .nil) ⟨au Value.bool (oI ⟨oO,oO,fun i hi=>hC i oO⟩).symm,O⟩
end Go.Proofs.YtnicahfnolhgbaaGreatDoor
namespace Sl
open Go Go.RowKit
variable {E:Bp}{n:Nat}{L:Fr}{S S' H H':List HP}{ty:TypeId}{pos:String}{af:Array Edge}{d:Option Nat}{gd:Option (Nat×Bool)}{K:Value->List HP->Prop}
def dL {x}{t:TypeId}{g o p i k sz zs vs us q}(h:ev L x=some (.pointer (some ⟨g,p,none⟩)))(ht:E.tab t=some ⟨k,sz,zs⟩)(hk:k.agg=true)
  (hq:∀k,q k->FN E.w0 g o vs k) (hm:CO q S S') (hv:∀j u,us[j]?=some u->vs[i+j]?=some u) (hl:us.length=sz) (hp:p=o+i):Yl E n L S ⟨d,.load t x,ty,pos,af,gd⟩ (.agg ⟨us⟩):=fun a w g' s=>by
 subst hp
 have hr:=zB (P:=E.P) g (o+i) us 0 #[] (fun j u hu=>by
  rw[jh];have:=Tt hq (s.take hm) (hv j u hu);rwa [<-qa]at this)
 rw[hl]at hr;simp[execOp,Instr.loadAt,Instr.sureAddr,loadVar,g'.ev h,nD ht,hk,wG ht,loadCells,hr]
def XD {x y v b}{t kt et:TypeId}{ki}{f:Int->Option Value}{k u}(ht:E.P.underlying t=some (.map kt et))(hB:E.P.underlying kt=some (.int ki))(hx:ev L x=some (.map (some b)))(hy:ev L y=some (.int ki k))(hv:ev L v=some u)(hm:CO (Bn b ki f) H H')(hk:K undef (Bn b ki (DD f k u)::H')):
  Ld E n L H ⟨d,.insert t x y v,ty,pos,af,gd⟩ K:=fun Q next a w g hn=>by
 obtain⟨es,c,M,hh,he,hf,s1⟩:=YU (g.hp.take hm);have hD:b<w.heap.size:=(ic.1 hh).1
 obtain⟨es',c',M',hC,hE,hF⟩:∃(es':Array MapEntry)(c':Nat)(M':List (Int×Value)),(Instr.mapUpdate t (.map (some b)) (.int ki k) u).run E.P w= .ok () (ChangeMaps.setBlock w b (.map es' c'))/\Mp ki es'.toList c' M'/\∀x,M'.lookup x=DD f k u x:=by
  rcases yL (k:=k) M es.toList 0 he.is with⟨g1,g2⟩|⟨v0,i,e,g1,g2,g3,g4,g5⟩
  ·refine⟨es.push {key:= .int ki k,val:=u,born:=c},c+1,M++[(k,u)],?_,by rw[AC];exact he.push u g1,fun x=>?_⟩
   ·unfold Instr.mapUpdate;simp only[Sem.run_bind,fV ht,Result.andThen_ok];simp only[getObj,Sem.run,hh];simp only[Result.andThen,Sem.run_bind,sN hB,Instr.findKey,fV hB,g2,Sem.run_pure];simp only[setObj,Sem.run];rw[hh];rfl
   rw[Zj g1,DD,hf]
  refine⟨es.modify i fun e=>{e with key:= .int ki k,val:=u},c,GA k u M,?_,by rw[ze];exact he.modify (g5 u),fun x=>?_⟩
  ·have hs:Instr.sameBits 10000 (.int ki k) (.int ki k)=true:=by simp[Instr.sameBits]
   have hG:((es[i]?).map (·.key)).getD (.int ki k)= .int ki k:=by
    rw[<-yj,g3];exact g4
   unfold Instr.mapUpdate;simp only[Sem.run_bind,fV ht,Result.andThen_ok];simp only[getObj,Sem.run,hh];simp only[Result.andThen,Sem.run_bind,sN hB,Instr.findKey,fV hB,g2,Sem.run_pure,jh,hG,Instr.keyThatStays,hs,if_true];simp only[setObj,Sem.run];rw[hh];rfl
  unfold DD;by_cases e:x=k
  ·rw[if_pos e,e];exact XO g1
  rw[if_neg e,WY e,hf]
 have hA:(execOp a.eval ⟨d,.insert t x y v,ty,pos,af,gd⟩).run E.P w= .ok .skip (ChangeMaps.setBlock w b (.map es' c')):=by
  simp[execOp,g.f.ev hx,g.f.ev hy,g.f.ev hv,hC]
 unfold Oper.wp;rw[hA,Oper.upon_skip]
 have hH:CR E.w0 (ChangeMaps.setBlock w b (.map es' c')) (pt b (.map es' c')::H'):=s1.write ⟨O,O,O,by simp[ChangeMaps.setBlock]⟩ (by simp[ChangeMaps.setBlock,hD]) fun j hj=>by
  simp only[ChangeMaps.setBlock];rw[oF (by intro e;exact hj e.symm)]
 exact hn _ _ _ hk (hH.imp fun k' h=>eU (fun k'' hI=>⟨es',c',M',hI,hE,hF⟩) h)
def Rj {w0 g c m sz vs xs}{t:TypeId}(h:∀(i:Nat)(v:Value),vs[i]?=some v->xs[i]?=some v):∀k,sl (BM g) c t sz m xs k->FN w0 g 0 vs k:=fun k hk i v hv=>by
 obtain⟨_,h1|⟨g',cur,h1,h2,h3,h4,h5,h6⟩⟩:=hk
 ·cases h1.1
 cases h1
 refine .inr ⟨cur,t,(0,0),h2,?_⟩;have hx:=h i v hv;rw[<-h6,ni]at hx;split at hx
 ·rw[jh];simpa using hx
 cases hx
def LA {x}{t e:TypeId}{c es by_ sz sz' zs zs' kk}(ht:E.tab t=some ⟨.slice e es by_,sz,zs⟩)(he:E.tab e=some ⟨kk,sz',zs'⟩)
  (hx:ev L x=some (BK c)) (hb:by_*c<=281474976710656) (hc:c<=maxLen)
  (hk:∀b us,us.length=c*es->K (.slice (BM b) c c) (sl (BM b) c e es c us::H)):Ld E n L H ⟨d,.makeSlice t x x,ty,pos,af,gd⟩ K:=fun Q next a w G hn=>by
 obtain⟨hu,j,hj,hs,hB⟩:=fD ht;obtain⟨i,z,hi,hE,hC,hF,_⟩:=fC he;obtain rfl:i=j:=by rw[hi]at hj;simpa using hj
 subst hs hB;have hD:(c:Int)<=9223372036854775807:=by have h:=hc;simp[maxLen]at h;omega
 have hr:=run_make (P:=E.P) w t e i z hu hi hC .i64 .i64 (c:Int) (c:Int) (oP c) (yu _) (by rw[<-nz];omega) hD
 have hA:(execOp a.eval ⟨d,.makeSlice t x x,ty,pos,af,gd⟩).run E.P w= .ok (.value (.slice (BM w.heap.size) c c)) (w.alloc (.cells (madeCells z.cells (c*i.size)) e)):=by
  simp[execOp,G.f.ev hx,hr]
 unfold Oper.wp;rw[hA,Oper.upon_value];have hz:=size_madeCells z.cells (c*i.size);generalize madeCells z.cells (c*i.size)=M at*;refine hn _ _ _ (hk _ M.toList (by simpa using hz)) ?_;have:=G.hp.new (.cells M e);exact this.imp fun _=>eU fun _ h=>gU (by simpa using hz) hc _ h
end Sl
