import Derived.Test.YtlmpojkmeglepaaGreatDoorQ9T
import Derived.Laws.BitsAllLaws
set_option linter.all false
set_option maxHeartbeats 1000000
namespace Sl
open Go Go.RowKit
variable {E:Env}{n:Nat}{L:Fr}{S:List HP}{d:Option Nat}{ty:TypeId}{pos:String}{af:Array Edge}{gd:Option (Nat×Bool)}
theorem y_xor8 {x y:Operand}{xt yt:TypeId}{i j:Nat}(hx:ev L x=some (.int .u8 (i:Nat)))(hy:ev L y=some (.int .u8 (j:Nat)))(hi:i<256)(hj:j<256):
  Yl E n L S ⟨d,.binOp .xor xt x y yt,ty,pos,af,gd⟩ (.int .u8 ((i^^^j:Nat):Int)):=fun a w g _=>by
 have h:=Go.u8_xor_nat i j hi hj
 simp[execOp,eqGuard,binOp,Op.intBits,g.ev hx,g.ev hy]
 exact h
end Sl
namespace Go.Proofs.YtlmpojkmeglepaaGreatDoor
set_option maxRecDepth 10000
section
open Go Go.RowKit Sl Eg
variable {G L L1:List Rl}{Z:List Nat}{A:List (List UInt8×Nat)}{l:List Im}{ids y1:List Nat}
def gotL (L:List Rl)(Z:List Nat)(A:List (List UInt8×Nat)):List Im:=A.map fun p=>⟨p.1,none,txt L (zat Z p.2),0⟩
def gotI (Z:List Nat)(A:List (List UInt8×Nat)):List Nat:=A.map fun p=>zat Z p.2
theorem zK:(gotL L Z A).length=A.length:=List.length_map _
theorem qMk:(gotI Z A).length=A.length:=List.length_map _
theorem qSr:mkN (gotL L Z A) (gotI Z A)=nmI (A.map fun p=>(p.1,zat Z p.2)):=by
 unfold mkN gotL gotI nmI
 rw[List.zip_map',List.map_map,List.map_map]
 rfl
theorem Prop50.eql (hP:Prop50 G A)(hL:Wf L)(h:DcI G L G.length Z):EqL L (gotL L Z A) (gotI Z A) (gotI Z A):=by
 have hs:∀p∈A,zat Z p.2≤L.length∧SigOf L (zat Z p.2) (zat Z p.2):=fun p hp=>by
  have hn:=(hP.names p hp).2
  rcases Nat.eq_zero_or_pos p.2 with e| e
  ·rw[e,h.zero];exact⟨Nat.zero_le _,SigOf.zero L⟩
  exact⟨(h.iso e hn).le.2,((Twi.mk hP.wf hL h).sig ⟨e,hn⟩ (hP.sig _ e hn).1).of hL⟩
 refine⟨hL,by rw[qMk,zK],by rw[qMk,zK],fun i x id hx hi=>?_,fun i x y hx hy=>?_⟩
 ·unfold gotL at hx
  unfold gotI at hi
  obtain⟨p,e1,rfl⟩:=Option.map_eq_some_iff.1 (List.getElem?_map▸hx)
  rw[List.getElem?_map,e1]at hi
  cases hi
  exact⟨(hs p (List.mem_of_getElem? e1)).1,O⟩
 rw[hx]at hy
 cases hy
 obtain⟨p,hp,rfl⟩:=List.mem_map.1 (List.mem_of_getElem? hx)
 exact(hs p hp).2
theorem Prop50.enc (hP:Prop50 G A)(hL:Wf L)(h:DcI G L G.length Z):encB L (dD L (gotI Z A) []) (nmY (mkN (gotL L Z A) (gotI Z A)) (gotI Z A))=encA G A:=by
 rw[qSr]
 unfold gotI
 rw[nmY_zat]
 exact uniq_enc hP hL h
theorem Prop50.same (hP:Prop50 G A)(hL:Wf L)(h:DcI G L G.length Z)(q:EqL L1 l ids y1):imP (gotL L Z A)=imP l↔encA G A=encB L1 (dD L1 y1 []) (nmY (mkN l ids) y1):=by
 rw[←hP.enc hL h]
 exact⟨(hP.eql hL h).same q,(hP.eql hL h).only q⟩
theorem qEv {G':List Rl}{A':List (List UInt8×Nat)}{s t:List UInt8}(h1:GOk 0 G)(h2:GOk 0 G')(h:encA G A++s=encA G' A'++t):s=t:=by
 simp only[encA,List.append_assoc]at h
 obtain⟨e1,h3⟩:=mF _ h
 obtain⟨rfl,h4⟩:=qEw e1 h1 h2 h3
 obtain⟨e2,h5⟩:=mF _ h4
 exact(qEx e2 h5).2
def qLh (B:List UInt8)(k:Nat)(c:UInt8):List UInt8:=B.set k (B.getD k 0^^^c)
theorem qTq (B:List UInt8)(k:Nat)(c:UInt8):(qLh B k c).length=B.length:=List.length_set
theorem xor_self {a c:UInt8}:a^^^c=a↔c=0:=by
 constructor
 ·intro h
  have:a^^^(a^^^c)=a^^^a:=by rw[h]
  rwa [←UInt8.xor_assoc,UInt8.xor_self,UInt8.zero_xor]at this
 rintro rfl
 exact UInt8.xor_zero
theorem spoil_eq {B:List UInt8}{k:Nat}{c:UInt8}(hk:k<B.length):qLh B k c=B↔c=0:=by
 unfold qLh
 rw[←xor_self (a:=B.getD k 0)]
 constructor
 ·intro h
  have e:B[k]?=some (B.getD k 0):=by rw[List.getD_eq_getElem?_getD,List.getElem?_eq_getElem hk];rfl
  have:=congrArg (fun l=>l[k]?) h
  simp only[List.getElem?_set_self hk]at this
  rw[e]at this
  exact Option.some.inj this
 intro h
 rw[h]
 apply List.ext_getElem?
 intro i
 rcases Nat.lt_trichotomy i k with e|e| e
 ·rw[List.getElem?_set_ne oO]
 ·subst e
  rw[List.getElem?_set_self hk,List.getD_eq_getElem?_getD,List.getElem?_eq_getElem hk];rfl
 rw[List.getElem?_set_ne oO]
theorem qQi {B:List UInt8}{k:Nat}{c b:UInt8}(hb:B[k]?=some b):bX (byC B) k (bP (.int .u8 ((b.toNat^^^c.toNat:Nat):Int)))=byC (qLh B k c):=by
 unfold qLh byC
 rw[List.map_set,List.getD_eq_getElem?_getD,hb,Option.getD_some,UInt8.toNat_xor]
 rfl
end
section
open Go Go.RowKit Sl Eg
variable {E:Env}{Es:List Ent}{pp tb s most m bm:Nat}{f:Int→Option Value}
theorem SigOf.sgG {L:List Rl}{x y:Nat}(h:SigOf L x y):Sg L (txt L x) y:=h.2.2.2
theorem qJv (hE:Seat E)(hB:Base E.w0){x y N:Nat}(hx:x=0∨Sig (rls Es) x)(hxN:x≤N)(hN:N≤Es.length)(hy:y≤Es.length)(hl:len (rls Es) y≤256)(hroom:Es.length+N+1024≤most)(hk:Kn (rls Es) f):
  Ct E 24 [uPt m,.int .i64 (x:Nat),.int .i64 (y:Nat)] [cells pp [uPt s,uPt tb] 97,tabP tb s (rls Es),bR s most Es,cells m [uPt pp,.map (some bm)] 93,mapF bm .i64 f]
   (fun v Q=>∃M f' b,v= .tuple #[.bool b,.nilIface]∧(b=true↔txt (rls Es) x=txt (rls Es) y)∧M.length≤N+512∧Kn (rls (Es++M)) f'∧Q=[cells pp [uPt s,uPt tb] 97,tabP tb s (rls (Es++M)),bR s most (Es++M),cells m [uPt pp,.map (some bm)] 93,mapF bm .i64 f']):=by
 refine eQ (p:=bR s most Es) uK (fun _ h=>dR h) (fun hsay=>?_)
 have hw0:=hsay.1
 have hun:=qUk f N
 have hLl:=bQ Es
 refine bO (hE.fn Tryz.func24) O O O (fun R=>?_)
 simp only[dU,uV,uW]
 refine gg10 ?_
 refine uX (qQs (Es:=Es) (s:=s) (tb:=tb) (most:=most) (f:=f) (m:=m) (pp:=pp) (bm:=bm) (x:=x) (N:=N) hE hB hx hxN hN oO hk) O ?_
 rintro _ _⟨M1,f1,rfl,hM1,hk1,rfl⟩
 have h1:rls (Es++M1)=rls Es++rls M1:=dB _ _
 have hE1:(Es++M1).length=Es.length+M1.length:=List.length_append
 have hly:len (rls (Es++M1)) y≤256:=by rw[h1,nO _ oO];exact hl
 simp only[uV,uW]
 refine gg21 ?_
 refine uX (qLu (Es:=Es++M1) (s:=s) (tb:=tb) (most:=most) (f:=f1) (m:=m) (pp:=pp) (bm:=bm) (x:=y) hE hB oO hly oO hk1) O ?_
 rintro _ _⟨M2,f2,y2,rfl,hM2,hk2,hs2,rfl⟩
 simp only[uV,uW]
 rw[List.append_assoc]at hk2 hs2 ⊢
 refine lV (p:=bR s most (Es++(M1++M2))) uK (fun _ h=>(dR h).1) (fun hw=>?_)
 have h2:rls (Es++(M1++M2))=rls Es++rls (M1++M2):=dB _ _
 have hself:SigOf (rls (Es++(M1++M2))) x x:=by
  rcases hx with rfl| h
  ·exact SigOf.zero _
  have hw':=hw
  rw[h2]at hw' ⊢
  exact(h.ext _ hw0 hw').of hw'
 have hxL:x≤(rls Es).length:=oO
 have hyL:y≤(rls Es).length:=oO
 have ex:txt (rls (Es++(M1++M2))) x=txt (rls Es) x:=by rw[h2,gN _ hxL]
 have ey:txt (rls (Es++(M1++M2))) y=txt (rls Es) y:=by rw[h2,gN _ hyL]
 have hiff:decide ((x:Int)=(y2:Nat))=true↔txt (rls Es) x=txt (rls Es) y:=by
  rw[decide_eq_true_iff,←ex,←ey]
  constructor
  ·intro e
   have e2:x=y2:=oO
   rw[e2]
   exact hs2.2.1
  intro e
  have a1:=hself.sgG
  have a2:=hs2.sgG
  rw[e]at a1
  have:=a1.fn hw a2
  omega
 refine gg27 ?_
 exact uZ O (.tmp O (.tmp O .nil)) ⟨M1++M2,f2,_,O,hiff,by rw[List.length_append];omega,hk2,rfl⟩
theorem qOf (hE:Seat E)(hB:Base E.w0){G0:List Rl}{A0:List (List UInt8×Nat)}(hP:Prop50 G0 A0)(ht:∀r∈G0,r.times≤1152921504606846976) (hGl:G0.length≤100000) (hAl:A0.length≤1000) (hA:∀p∈A0,len G0 p.2≤256) (hlv:∀j,1≤j→j≤G0.length→0≤lvl G0 j)
  {Bs:List UInt8} {n:Nat} (hn:Bs.length=n) {a:Option Addr} {c:Nat} {q:HP} (hq:Rdb E.w0 a (byC Bs) q) (hc:n≤c) (hcl:n≤100000) (hroom:Es.length+100000≤most):
  Ct E 15 [uPt m,.slice a n c] [cells pp [uPt s,uPt tb] 97,tabP tb s (rls Es),bR s most Es,cells m [uPt pp,.map (some bm)] 93,q]
   (fun v Q=>(Bs≠encA G0 A0∧v= .tuple #[.slice none 0 0,.iface 58 (.int .i64 4)]∧Q=[cells pp [uPt s,uPt tb] 97,tabP tb s (rls Es),bR s most Es,cells m [uPt pp,.map (some bm)] 93,q])∨∃(G:List Rl)(A:List (List UInt8×Nat))(M:List Ent)(Z:List Nat)(pl:Option Addr)(cl:Nat),v= .tuple #[.slice pl A.length cl,.nilIface]∧Prop50 G A∧Bs=encA G A∧A.length≤50000∧M.length≤100000∧DcI G (rls (Es++M)) G.length Z∧Q=[cells pp [uPt s,uPt tb] 97,tabP tb s (rls (Es++M)),bR s most (Es++M),cells m [uPt pp,.map (some bm)] 93,q,sl pl cl 53 2 A.length (nlC (nmI (nmK Z A A.length)))]):=by
 subst hn
 by_cases e:Bs=encA G0 A0
 ·refine qLy (qQn (Es:=Es) (s:=s) (most:=most) (tb:=tb) (pp:=pp) (m:=m) (bm:=bm) (A:=A0) hE hB hP.wf hP.ok hGl ht hP.names hP.ord hAl (fun p hp=>⟨(hP.names p hp).2,hA p hp⟩) (fun j h1 h2=>⟨hlv j h1 h2,(hP.sig j h1 h2).2⟩) (fun j h1 h2=>(hP.sig j h1 h2).1) hP.vis e hq hc oO oO) (fun v Q h=>?_)
  obtain⟨M,Z,pl,cl,h1,h2,h3,h4⟩:=h
  exact .inr ⟨G0,A0,M,Z,pl,cl,h1,hP,e,oO,oO,h3,h4⟩
 refine qLy (sZ (Es:=Es) (s:=s) (most:=most) (tb:=tb) (pp:=pp) (m:=m) (bm:=bm) hE hB hq hc hcl oO) (fun v Q h=>?_)
 rcases h with⟨h1,h2⟩|⟨G,A,M,Z,pl,cl,h1,h2,h3,h4,h5,h6,h7,h8⟩
 ·exact .inl ⟨e,h1,h2⟩
 exact .inr ⟨G,A,M,Z,pl,cl,h1,h2,h3,oO,oO,h7,h8⟩
end
section
open Go Go.RowKit Sl Eg
variable {E:Env}
structure SpoG where
 i:Nat
 e:Bool
 N:List Ent
 f:Int→Option Value
theorem zW (hE:Seat E)(hB:Base E.w0){l:List Im}{a:Option Addr}{ca k:Nat}{cb:UInt8}(hk:k<65536)(hq:Rdb E.w0 a (imC l) old)(hok:∀x∈l,Rdb E.w0 x.a (byC x.bs) old) (hn:l.length≤maxLen):
  Ct E 5 [.slice a l.length ca,.int .u16 (k:Nat),.int .u8 (cb.toNat:Nat)] [old] (fun v Q=>v= .bool true∧Q=[old]):=by
 have hmr:1048576≤fB:=Nat.le_refl _
 have hcb:cb.toNat<256:=cb.toNat_lt
 refine bO (hE.fn Tryz.func5) O O O (fun R=>?_)
 simp only[dU,uV,uW]
 refine dO (uA O (dN (aL (dO (uM O (uX (ct_good hE hq hn) O ?_))))))
 rintro _ _⟨b1,rfl,hb1,rfl⟩
 simp only[uV,uW]
 refine uB (qVc O) (dN ?_)
 refine xC O (fun g1=>?_) (fun g1=>?_)
 ·refine aL (aJ (uA O (aM (aK (bZ (aV ?_))))))
  exact uZ O (.tmp O .nil) ⟨O,O⟩
 have hg:GoodI l:=hb1.1 (by simpa using g1)
 have hl6:=hg.2.2
 refine bC (aK (dO (uX (qQw (most:=1048576) hE hmr) O ?_)))
 rintro _ _⟨m,bm,pp,s,tb,rfl,rfl⟩
 simp only[uV,uW]
 refine uA O (dN (dO (uM O (uM O ?_))))
 have hr0:([]:List Ent).length+120*l.length≤1048576:=by rw[List.length_nil];omega
 refine uX (ct_put (Es:=[]) (s:=s) (tb:=tb) (pp:=pp) (most:=1048576) (m:=m) (bm:=bm) (w:=0) hE hB hq hok (fun x hx=>(hg.1 x hx).2) hl6 oO hr0) O ?_
 rintro _ _⟨M,ids,p,c,rfl,hM,hil,htx,rfl⟩
 have htx1:Txs (rls M) l ids:=htx
 clear htx
 simp only[uV,uW]
 obtain⟨n1,o1⟩:=qSs (ids:=ids) hg
 have hln1:=qDh hil
 have hT1:TxOk M (mkN l ids):=mkN_txok hg htx1
 rw[←hln1]at o1
 refine lV (p:=sl p c 53 2 l.length (nlC (mkN l ids))) uK (fun _ h=>fun hpos=>eU h hpos) (fun hp1=>?_)
 have hqa:Rdb E.w0 p (nlC (mkN l ids)) (sl p c 53 2 l.length (nlC (mkN l ids))):=fun hne=>by
  obtain⟨g,rfl⟩:=hp1 (by
   rcases Nat.eq_zero_or_pos l.length with e| e
   ·exact absurd (List.eq_nil_of_length_eq_zero (by rw[tX,hln1];omega)) hne
   exact e)
  exact⟨g,0,O,sH (fun _ _ h=>h)⟩
 have hr1:M.length+512*l.length≤1048576:=oO
 refine uM O (uB (aT O O) (uB (aT O O) (uA O (uA O (dN (dO (uM O (uM O (uX (qOh (Es:=M) (s:=s) (tb:=tb) (pp:=pp) (most:=1048576) (m:=m) (bm:=bm) (f:=fun _=>none) (c:=c) hE hB hln1 hqa oO n1 o1 hT1 hr1 (Kn.nil _)) O ?_)))))))))
 rintro _ _⟨M1,f1,y1,g1,c1,B1,rfl,hB1,hM1,hk1,hy1,hs1,rfl⟩
 simp only[uV,uW]
 refine lV (p:=bR s 1048576 (M++M1)) uK (fun _ h=>dR h) (fun hw1=>?_)
 have hE1:(M++M1).length=M.length+M1.length:=List.length_append
 rw[raw_mkN hil]at hs1
 have q1:EqL (rls (M++M1)) l ids y1:=⟨hw1.1,hil,hy1,by rw[dB];exact htx1.ext _,hs1⟩
 have hrs:=q1.rsl
 have htx:∀(i:Nat)(x:Im)(y:Nat),l[i]?=some x→y1[i]?=some y→txt (rls (M++M1)) y=x.bs:=fun i x y hx hy=>by
  obtain⟨x',id,h1,h2,h3,h4⟩:=q1.at hy
  rw[hx]at h1
  cases h1
  rw[h3.2.1,h4]
 have hlis:=hrs.lis
 have hgl:(gram (rls (M++M1)) (dD (rls (M++M1)) y1 [])).length=(dD (rls (M++M1)) y1 []).length:=qR
 have hvl:=hlis.acc.len
 rw[bQ]at hvl
 have hG4:(gram (rls (M++M1)) (dD (rls (M++M1)) y1 [])).length≤3792:=oO
 have hyl:(y1.map (numb (dD (rls (M++M1)) y1 []))).length=l.length:=by rw[List.length_map];exact hrs.yl
 have hAl:=qPk (l:=l) hyl
 have hAs:=nmA_snd (l:=l) hyl
 have hgv:=qKi hrs.wf hrs.bound hlis
 have hnam:=hrs.names htx hg
 have hord:=nmA_ord (ns:=y1.map (numb (dD (rls (M++M1)) y1 []))) hg
 have hlen:∀x∈l,x.bs.length≤60:=fun x hx=>(hg.1 x hx).2
 have hrule:=fun j h1 h2=>hrs.rule hlen (j:=j) h1 h2
 have hB2:B1=encA (gram (rls (M++M1)) (dD (rls (M++M1)) y1 [])) (nmA l (y1.map (numb (dD (rls (M++M1)) y1 [])))):=by
  rw[hB1,q1.enc]
  rfl
 rw[←hAs,←hgl]at hgv
 have hti:=hlis.times
 have hgok:=qAs hlis.wf hlis.acc hlis.ord
 have hBl:B1.length≤90000∧0<B1.length:=by
  have h1:=qMg (gram (rls (M++M1)) (dD (rls (M++M1)) y1 [])) 0 hti oO
  have h2:=qMh (nmA l (y1.map (numb (dD (rls (M++M1)) y1 [])))) (fun p hp=>by
   have:=(hnam p hp).1
   have:=this.1.2.1
   omega)
  have h3:=fC (n:=(gram (rls (M++M1)) (dD (rls (M++M1)) y1 [])).length) oO
  have h4:=fC (n:=(nmA l (y1.map (numb (dD (rls (M++M1)) y1 [])))).length) oO
  have h5:=jR (gram (rls (M++M1)) (dD (rls (M++M1)) y1 [])).length
  rw[hB2]
  simp only[encA,List.length_append]
  omega
 obtain⟨hBl,hBpos⟩:=hBl
 have hP:Prop50 (gram (rls (M++M1)) (dD (rls (M++M1)) y1 [])) (nmA l (y1.map (numb (dD (rls (M++M1)) y1 [])))):=⟨hgok,hlis.gwf,fun p hp=>(hnam p hp).1,hord,fun j h1 h2=>⟨(hrule j h1 h2).1,(hrule j h1 h2).2.2⟩,hgv⟩
 have hlv:=fun j h1 h2=>(hrule j h1 h2).2.1
 have hln:=fun p hp=>(hnam p hp).2
 have hsame:∀{G:List Rl}{A:List (List UInt8×Nat)}{L:List Rl}{Z:List Nat},Prop50 G A→Wf L→DcI G L G.length Z→(imP (gotL L Z A)=imP l↔encA G A=B1):=fun h1 h2 h3=>by
  rw[hB1]
  exact h1.same h2 h3 q1
 generalize hAg:nmA l (y1.map (numb (dD (rls (M++M1)) y1 [])))=A0 at*
 generalize gram (rls (M++M1)) (dD (rls (M++M1)) y1 [])=G0 at*
 have hBc:(byC B1).length=B1.length:=rG B1
 refine uM O (uB (aT O O) (uB (aT O O) (uA O (uA O (dN (aL (dO (uM O (uB (qVc O) (uM O (dP (uX (ct_awake hE hB) O ?_))))))))))))
 rintro _ _⟨rfl,rfl⟩
 simp only[uV,uW]
 refine dP (uB (qVc O) (uB (gY) ?_))
 refine uM O (dP (uM O (dP (uB (gY) ?_))))
 refine uB (gY) ?_
 refine uM O (dP (uM O (dP (uB (uBl O) (dP (uB (y_eq O O) (uB (gY) ?_)))))))
 refine dN ?_
 refine bE O (fun g2=>?_) (fun g2=>?_)
 ·exfalso;omega
 refine bC (aK (dO (uU ?_)))
 refine kK (hE.t O) (fun b52=>?_)
 refine uM O (uU ?_)
 apply eF (hE.t O) (hE.t O) O O O
 ·exact uK
 ·exact uK
 ·exact jB _
 ·omega
 ·unfold maxLen;omega
 intro pt1 ct1 mz xz hmz hxz
 obtain rfl:mz=B1.length:=by omega
 obtain rfl:xz=byC B1:=hxz
 refine lV (p:=sl pt1 ct1 5 1 B1.length (byC B1)) uK (fun _ h=>And.intro (fun hpos=>eU h hpos) (jK h).1) ?_
 rintro⟨hpt,hcp1⟩
 obtain⟨gb,rfl⟩:=hpt hBpos
 clear hpt
 refine uA O (dN (dO (uM O (uM O (uB (uAc O) ?_)))))
 refine uM O (uB (uBl O) (uB (y_rem O O oO oO) ?_))
 obtain⟨K,hK⟩:∃K,K=k%B1.length:=⟨_,rfl⟩
 have hKl:K<B1.length:=by rw[hK];exact Nat.mod_lt _ hBpos
 obtain⟨b,hb⟩:∃b,B1[K]?=some b:=⟨_,List.getElem?_eq_getElem hKl⟩
 have hb8:b.toNat<256:=b.toNat_lt
 refine l_eq 60 (.int .i64 ((K:Nat):Int)) O (bW (by rw[hK,Int.natCast_emod])) ?_
 have f0:=qJs hb (0+((K:Nat):Int).toNat) oO
 have hf:=qJs hb (((K:Nat):Int).toNat) oO
 refine uB (gY) ?_
 refine uB (gY) ?_
 refine uM O (uB (y_xor8 O O oO oO) ?_)
 refine uB (gY) ?_
 refine uU ?_
 (first |(apply bL rfl rfl (hE.t rfl) rfl;(focus((repeat constructor);done));(focus rfl);(focus(exact Nat.le_of_ble_eq_true rfl)))|(apply aS rfl rfl (hE.t rfl) rfl;(focus((repeat constructor);done));(focus rfl);(focus(first |omega |(simp only[bP,aN,List.length_cons,List.length_nil];omega)))))
 refine dN ?_
 rw[show bX (byC B1) ((K:Nat):Int).toNat (bP (.int .u8 ((b.toNat^^^cb.toNat:Nat):Int)))=byC (qLh B1 K cb)from qQi hb]
 have hbl:=qTq B1 K cb
 have hbe:=spoil_eq (c:=cb) hKl
 generalize qLh B1 K cb=bad at*
 have hqb:Rdb E.w0 (some ⟨gb,0,none⟩) (byC bad) (sl (some ⟨gb,0,none⟩) ct1 5 1 B1.length (byC bad)):=fun _=>⟨gb,0,O,sH (fun _ _ h=>h)⟩
 refine dO (uM O (uM O (uX (qOf (Es:=M++M1) (s:=s) (most:=1048576) (tb:=tb) (pp:=pp) (m:=m) (bm:=bm) (G0:=G0) (A0:=A0) (Bs:=bad) (n:=B1.length) (c:=ct1) hE hB hP hti oO oO hln hlv hbl hqb hcp1 oO oO) O ?_)))
 rintro _ _(⟨hne,rfl,rfl⟩|⟨G,A,M2,Z,pl,cl,rfl,hPG,hbA,hAn,hM2,hD,rfl⟩)
 ·have hc0:¬cb=0:=fun e=>hne (by rw[hbe.2 e];exact hB2)
  have hc8:¬cb.toNat=0:=fun e=>hc0 (UInt8.toNat_inj.1 e)
  simp only[uV,uW]
  refine uM O (uB (aT O O) (uB (aT O O) (uA O (uA O (dN (dO (uM O (uB (gY) ?_))))))))
  refine uM O (dQ (dQ (dQ (dQ (dQ (uB (gY) ?_))))))
  refine uA O (dN (aL (dO (uA O (dN (bK ?_))))))
  refine eZ (fun q:Unit=>[(2,.int .u8 (cb.toNat:Nat)),(7,uPt m),(10,.slice (some ⟨g1,0,none⟩) B1.length c1),(13,.slice none 0 0),(15,.bool false),(16,.int .i64 0)]) (fun q=>[cells pp [uPt s,uPt tb] 97,tabP tb s (rls (M++M1)),bR s 1048576 (M++M1),cells m [uPt pp,.map (some bm)] 93,mapF bm .i64 f1,sl (some ⟨g1,0,none⟩) c1 5 1 B1.length (byC B1),old,R]) (fun q=>0) (fun q=>True) () trivial ⟨O,O,O,O,O,O,trivial⟩ uI ?_
  rintro⟨⟩ -
  refine aL (dO (uM O (uM O (uB (uBl O) (uB (y_lt O O) (uM O ?_))))))
  refine l_eq 85 (.bool false) O (by simp) ?_
  refine dQ (uB (gY) ?_)
  refine dN (bD O (dF (aQ (aQ (bH (aK (dO (uM O (uU ?_)))))))))
  refine kK (hE.t O) (fun b125=>?_)
  refine uM O (uU ?_)
  apply eF (hE.t O) (hE.t O) O O O
  ·exact uK
  ·exact uK
  ·exact jB _
  ·omega
  ·unfold maxLen;omega
  intro pt2 ct2 mz xz hmz hxz
  obtain rfl:mz=B1.length:=by omega
  obtain rfl:xz=byC B1:=hxz
  refine lV (p:=sl pt2 ct2 5 1 B1.length (byC B1)) uK (fun _ h=>And.intro (fun hpos=>eU h hpos) (jK h).1) ?_
  rintro⟨hpt,hcp2⟩
  obtain⟨gc,rfl⟩:=hpt hBpos
  clear hpt
  refine uM O (uU ?_)
  refine aU (hE.t O) (hE.t O) O O O (fun b129=>?_)
  refine uU ?_
  apply bU (hE.t O) (hE.t O) O O O
  ·exact uK
  ·exact uK
  ·rfl
  ·rfl
  ·omega
  ·omega
  ·(unfold maxLen;omega)
  intro g130 c130 n130 x130 hn130 hx130
  obtain rfl:x130=byC (B1++[cb]):=by rw[hx130,gL];rfl
  obtain rfl:n130=(B1++[cb]).length:=by rw[hn130,List.length_append];rfl
  have hln3:(B1++[cb]).length=B1.length+1:=by rw[List.length_append];rfl
  refine lV (p:=sl (some ⟨g130,0,none⟩) c130 5 1 (B1++[cb]).length (byC (B1++[cb]))) uK (fun _ h=>(jK h).1) (fun hcap3=>?_)
  have hq3:Rdb E.w0 (some ⟨g130,0,none⟩) (byC (B1++[cb])) (sl (some ⟨g130,0,none⟩) c130 5 1 (B1++[cb]).length (byC (B1++[cb]))):=fun _=>⟨g130,0,O,sH (fun _ _ h=>h)⟩
  refine uX (sZ (Es:=(M++M1)) (s:=s) (most:=1048576) (tb:=tb) (pp:=pp) (m:=m) (bm:=bm) (Bs:=B1++[cb]) (c:=c130) hE hB hq3 hcap3 oO oO) O ?_
  rintro _ _(⟨rfl,rfl⟩|⟨G9,A9,M9,Z9,pl9,cl9,rfl,hP9,hb9, -⟩)
  ·simp only[uV,uW]
   refine uM O (uB (aT O O) (uB (aT O O) (uA O (uA O (dN (dO (uM O (uM O (uB (y_eq O O) (uB (xE O O (hE.t O)) ?_))))))))))
   refine uM O ?_
   refine l_eq 138 (.bool true) O (by simp[hc8]) ?_
   refine dP (uM O (dP (uX (ct_Is hE (i:=4) (by decide)) O ?_)))
   rintro _ _⟨rfl,rfl⟩
   simp only[uV,uW]
   refine uB (gY) ?_
   refine uA O (dN (bZ ?_))
   exact uZ O (.tmp O .nil) ⟨O,O⟩
  exfalso
  have h9:=qEv hP.ok hP9.ok (s:=[cb]) (t:=[]) (by rw[List.append_nil,←hb9,←hB2])
  simp at h9
 simp only[uV,uW]
 refine lV (p:=bR s 1048576 (M++M1++M2)) uK (fun _ h=>(dR h).1) (fun hw2=>?_)
 rw[nmK_zat,←qSr (L:=rls (M++M1++M2)),←zK (L:=rls (M++M1++M2)) (Z:=Z)]
 have hsm:=hsame hPG hw2 hD
 rw[←hbA,hbe]at hsm
 have heq:=hPG.eql hw2 hD
 have hrl:(gotL (rls (M++M1++M2)) Z A).length≤50000:=by rw[zK];exact hAn
 have tx3:Txs (rls (M++M1++M2)) l ids:=by rw[dB (M++M1),dB M];exact(htx1.ext _).ext _
 have hk2:Kn (rls (M++M1++M2)) f1:=by rw[dB (M++M1)];exact hk1.ext _
 have hWl:(M++M1++M2).length≤103792:=by rw[List.length_append];omega
 clear hD hsame hPG
 generalize M++M1++M2=W at*
 generalize gotL (rls W) Z A=r at*
 generalize gotI Z A=hs at*
 have hxs:∀(i z:Nat),hs[i]?=some z→z≤W.length∧(z=0∨Sig (rls W) z):=fun i z hz=>by
  have h1:=heq.sg i z z hz hz
  have h2:=h1.1
  rw[bQ]at h2
  refine⟨h2,?_⟩
  rcases Nat.eq_zero_or_pos z with e| e
  ·exact .inl e
  exact .inr ((h1.sn).parts hw2 oO).1
 have hsl:=heq.il
 have hWr:=bQ W
 refine uM O (uB (aT O O) (uB (aT O O) (uA O (uA O (dN (dO (uM O (uB (gY) ?_))))))))
 refine uM O (dP (uM O (dP (uB (uBl O) (dP (uM O (dP (uB (uBl O) (dP (uB (y_eq O O) (uB (gY) ?_)))))))))))
 refine uA O (dN (aL (dO (uA O (dN (bK ?_))))))
 refine eZ (fun q:SpoG=>[(2,.int .u8 (cb.toNat:Nat)),(7,uPt m),(8,.slice p l.length c),(10,.slice (some ⟨g1,0,none⟩) B1.length c1),(13,.slice pl r.length cl),(15,.bool q.e),(16,.int .i64 (q.i:Nat))]) (fun q=>[cells pp [uPt s,uPt tb] 97,tabP tb s (rls (W++q.N)),bR s 1048576 (W++q.N),cells m [uPt pp,.map (some bm)] 93,mapF bm .i64 q.f,sl (some ⟨g1,0,none⟩) c1 5 1 B1.length (byC B1),old,sl p c 53 2 l.length (nlC (mkN l ids)),sl pl cl 53 2 r.length (nlC (mkN r hs)),R]) (fun q=>r.length-q.i) (fun q=>EqOk r l ⟨q.i,q.e⟩∧q.i≤6∧q.N.length≤104400*q.i∧Kn (rls (W++q.N)) q.f) ⟨0,decide (((r.length:Nat):Int)=((l.length:Nat):Int)),[],f1⟩ ⟨⟨Nat.zero_le _,by simp only[decide_eq_true_eq,List.take_zero,and_true];omega⟩,Nat.zero_le _,Nat.zero_le _,by simp only[List.append_nil];exact hk2⟩ ⟨rfl,rfl,rfl,rfl,rfl,rfl,rfl,trivial⟩ (by simp only[List.append_nil];(apply ent;(repeat constructor);done)) ?_
 rintro⟨i,e,N,f⟩⟨hi,hi6,hN,hkn⟩
 simp only at hi hi6 hN hkn ⊢
 have hWN:(W++N).length=W.length+N.length:=List.length_append
 refine iJ (p:=sl pl cl 53 2 r.length (nlC (mkN r hs))) uK (fun _ h=>fun hpos=>eU h hpos) ?_
 intro hf1
 refine iJ (p:=bR s 1048576 (W++N)) uK (fun _ h=>(dR h).1) ?_
 intro hwN
 refine aL (dO (uM O (uM O (uB (uBl O) (uB (y_lt O O) (uM O ?_))))))
 refine dY 85 O (fun h1=>?_) (fun h1=>?_)
 ·have hil':i<r.length:=oO
  refine dP (uM O (uB (gY) ?_))
  refine dN ?_
  refine xC O (fun h2=>?_) (fun h2=>?_)
  ·obtain rfl:e=true:=h2
   have hle:=(hi.2.1 O).1
   have htk:=(hi.2.1 O).2
   simp only at htk hle
   obtain⟨x,hx⟩:∃x,r[i]?=some x:=⟨_,List.getElem?_eq_getElem hil'⟩
   obtain⟨y,hy⟩:∃y,l[i]?=some y:=⟨_,List.getElem?_eq_getElem oO⟩
   obtain⟨z,hz⟩:∃z,hs[i]?=some z:=⟨_,List.getElem?_eq_getElem oO⟩
   obtain⟨id,hid⟩:∃id,ids[i]?=some id:=⟨_,List.getElem?_eq_getElem oO⟩
   obtain⟨zl,zt⟩:=heq.tx i x z hx hz
   obtain⟨il,it⟩:=tx3 i y id hy hid
   obtain⟨zb,zs⟩:=hxs i z hz
   obtain⟨ga,rfl⟩:=hp1 oO
   obtain⟨gd,rfl⟩:=hf1 oO
   have er:rls (W++N)=rls W++rls N:=dB _ _
   have zt2:txt (rls (W++N)) z=x.bs:=by rw[er,gN _ zl];exact zt
   have it2:txt (rls (W++N)) id=y.bs:=by rw[er,gN _ il];exact it
   have hyl':=hlen y (List.mem_of_getElem? hy)
   have hidl:len (rls (W++N)) id≤256:=by unfold len;rw[it2];omega
   have zs2:z=0∨Sig (rls (W++N)) z:=by
    rcases zs with e| e
    ·exact .inl e
    have hwN':=hwN
    rw[er]at hwN' ⊢
    exact .inr (e.ext _ hw2 hwN')
   obtain⟨f3,f4⟩:=qKo (qSq hx hz) (0+((i:Nat):Int).toNat*2) oO
   obtain⟨f5,f6⟩:=qKo (qSq hy hid) (0+((i:Nat):Int).toNat*2) oO
   refine bC (aK (aL (bK (aL ?_))))
   refine uH ([sl (some ⟨gd,0,none⟩) cl 53 2 r.length (nlC (mkN r hs)),sl (some ⟨ga,0,none⟩) c 53 2 l.length (nlC (mkN l ids))]) ?_
   refine uD 0 O (aB O) (uD 1 O (aB O) (uD 2 O (aB O) ?_))
   refine uD 3 O (uAi O O) ?_
   refine uD 4 O (uBf O) ?_
   refine uD 5 O (gY) ?_
   refine uD 6 O (aB O) (uD 7 O (aB O) ?_)
   refine uD 8 O (uAi O O) ?_
   refine uD 9 O (uBf O) ?_
   refine uD 10 O (gY) ?_
   apply dH 11 O oK O
   refine uC (qJv (Es:=W++N) (s:=s) (tb:=tb) (most:=1048576) (f:=f) (m:=m) (pp:=pp) (bm:=bm) (x:=z) (y:=id) (N:=W.length) hE hB zs2 zb oO oO hidl oO hkn) O ?_
   rintro _ _⟨N1,f9,bb,rfl,hbb,hN1,hkn1,rfl⟩
   rw[zt2,it2]at hbb
   rw[List.append_assoc]at hkn1 ⊢
   simp only[uV,uW]
   refine uE ?_
   refine uD 12 O (aB O) (uD 13 O (aT O O) (uD 14 O (aT O O) (uD 15 O (aC O) (uD 16 O (aC O) ?_))))
   refine d_nil oK ?_
   refine aK ?_
   refine uH ([sl (some ⟨gd,0,none⟩) cl 53 2 r.length (nlC (mkN r hs)),sl (some ⟨ga,0,none⟩) c 53 2 l.length (nlC (mkN l ids))]) ?_
   refine uD 0 O (aB O) ?_
   refine uD 1 O (gY) ?_
   refine uD 2 O (aB O) (uO 3 O O O (aB O) ?_)
   refine uD 4 O (gY) ?_
   refine uD 5 O (aB O) ?_
   cases bb with
   |false=>
    have hnb:¬x.bs=y.bs:=fun e=>Bool.noConfusion (hbb.2 e)
    refine uR 6 O O O O ?_
    refine uR 7 O O O O ?_
    refine uR 8 O O O O ?_
    refine uR 9 O O O O ?_
    refine uR 10 O O O O ?_
    refine uR 11 O O O O ?_
    refine uR 12 O O O O ?_
    refine uR 13 O O O O ?_
    refine uR 14 O O O O ?_
    refine uR 15 O O O O ?_
    refine uR 16 O O O O ?_
    refine uD 17 O (gY) ?_
    refine uD 18 O (aC O) ?_
    refine d_nil oK ?_
    refine bI (aK (aJ (uM O (uB (uAa O O) (uA O (aM ?_))))))
    refine bS (ι:=SpoG) (j:=⟨i+1,false,N++N1,f9⟩) ⟨⟨by simp only;omega,?_⟩,by simp only;omega,by simp only[List.length_append];omega,hkn1⟩ (by simp only;omega) ⟨rfl,rfl,rfl,rfl,rfl,rfl,congrArg some (bW (by simp only;omega)),trivial⟩ uI
    simp only
    rw[qMm hx hy]
    exact⟨fun h=>Bool.noConfusion h,fun h=>absurd h.2.2.2 hnb⟩
   |true=>
    have hbs:x.bs=y.bs:=hbb.1 O
    refine uO 6 O O O (aB O) (uO 7 O O O (aB O) ?_)
    refine uO 8 O O O (uAi O O) ?_
    refine uO 9 O O O (uBf O) ?_
    refine uO 10 O O O (gY) ?_
    refine uO 11 O O O (aB O) (uO 12 O O O (aB O) ?_)
    refine uO 13 O O O (uAi O O) ?_
    refine uO 14 O O O (uBf O) ?_
    refine uO 15 O O O (gY) ?_
    refine uO 16 O O O (qNy O O) ?_
    refine uD 17 O (gY) ?_
    refine uD 18 O (aC O) ?_
    refine d_nil oK ?_
    refine bI (aK (aJ (uM O (uB (uAa O O) (uA O (aM ?_))))))
    refine bS (ι:=SpoG) (j:=⟨i+1,decide (x.name=y.name),N++N1,f9⟩) ⟨⟨by simp only;omega,?_⟩,by simp only;omega,by simp only[List.length_append];omega,hkn1⟩ (by simp only;omega) ⟨rfl,rfl,rfl,rfl,rfl,?_,congrArg some (bW (by simp only;omega)),trivial⟩ uI
    ·simp only[decide_eq_true_eq]
     rw[qMm hx hy]
     exact⟨fun h=>⟨hle,htk,h,hbs⟩,fun h=>h.2.2.1⟩
    rfl
  obtain rfl:e=false:=by simpa using h2
  have hno:=hi.stop
  have hc8:¬cb.toNat=0:=fun e=>hno (hsm.2 (UInt8.toNat_inj.1 e))
  refine dF (aQ (aQ (bH (aK (dO (uM O (uU ?_)))))))
  refine kK (hE.t O) (fun b125=>?_)
  refine uM O (uU ?_)
  apply eF (hE.t O) (hE.t O) O O O
  ·exact uK
  ·exact uK
  ·exact jB _
  ·omega
  ·unfold maxLen;omega
  intro pt2 ct2 mz xz hmz hxz
  obtain rfl:mz=B1.length:=by omega
  obtain rfl:xz=byC B1:=hxz
  refine lV (p:=sl pt2 ct2 5 1 B1.length (byC B1)) uK (fun _ h=>And.intro (fun hpos=>eU h hpos) (jK h).1) ?_
  rintro⟨hpt,hcp2⟩
  obtain⟨gc,rfl⟩:=hpt hBpos
  clear hpt
  refine uM O (uU ?_)
  refine aU (hE.t O) (hE.t O) O O O (fun b129=>?_)
  refine uU ?_
  apply bU (hE.t O) (hE.t O) O O O
  ·exact uK
  ·exact uK
  ·rfl
  ·rfl
  ·omega
  ·omega
  ·(unfold maxLen;omega)
  intro g130 c130 n130 x130 hn130 hx130
  obtain rfl:x130=byC (B1++[cb]):=by rw[hx130,gL];rfl
  obtain rfl:n130=(B1++[cb]).length:=by rw[hn130,List.length_append];rfl
  have hln3:(B1++[cb]).length=B1.length+1:=by rw[List.length_append];rfl
  refine lV (p:=sl (some ⟨g130,0,none⟩) c130 5 1 (B1++[cb]).length (byC (B1++[cb]))) uK (fun _ h=>(jK h).1) (fun hcap3=>?_)
  have hq3:Rdb E.w0 (some ⟨g130,0,none⟩) (byC (B1++[cb])) (sl (some ⟨g130,0,none⟩) c130 5 1 (B1++[cb]).length (byC (B1++[cb]))):=fun _=>⟨g130,0,O,sH (fun _ _ h=>h)⟩
  refine uX (sZ (Es:=(W++N)) (s:=s) (most:=1048576) (tb:=tb) (pp:=pp) (m:=m) (bm:=bm) (Bs:=B1++[cb]) (c:=c130) hE hB hq3 hcap3 oO oO) O ?_
  rintro _ _(⟨rfl,rfl⟩|⟨G9,A9,M9,Z9,pl9,cl9,rfl,hP9,hb9, -⟩)
  ·simp only[uV,uW]
   refine uM O (uB (aT O O) (uB (aT O O) (uA O (uA O (dN (dO (uM O (uM O (uB (y_eq O O) (uB (xE O O (hE.t O)) ?_))))))))))
   refine uM O ?_
   refine l_eq 138 (.bool true) O (by simp[hc8]) ?_
   refine dP (uM O (dP (uX (ct_Is hE (i:=4) (by decide)) O ?_)))
   rintro _ _⟨rfl,rfl⟩
   simp only[uV,uW]
   refine uB (gY) ?_
   refine uA O (dN (bZ ?_))
   exact uZ O (.tmp O .nil) ⟨O,O⟩
  exfalso
  have h9:=qEv hP.ok hP9.ok (s:=[cb]) (t:=[]) (by rw[List.append_nil,←hb9,←hB2])
  simp at h9
 obtain rfl:i=r.length:=by have:=hi.1;simp only at this;omega
 have hall:=hi.all
 have hc8:e=decide (cb.toNat=0):=by
  rw[hall,decide_eq_decide,hsm]
  exact⟨fun h=>by rw[h];rfl,fun h=>UInt8.toNat_inj.1 h⟩
 refine dQ (uB (gY) ?_)
 refine dN (bD O (dF (aQ (aQ (bH (aK (dO (uM O (uU ?_)))))))))
 refine kK (hE.t O) (fun b125=>?_)
 refine uM O (uU ?_)
 apply eF (hE.t O) (hE.t O) O O O
 ·exact uK
 ·exact uK
 ·exact jB _
 ·omega
 ·unfold maxLen;omega
 intro pt2 ct2 mz xz hmz hxz
 obtain rfl:mz=B1.length:=by omega
 obtain rfl:xz=byC B1:=hxz
 refine lV (p:=sl pt2 ct2 5 1 B1.length (byC B1)) uK (fun _ h=>And.intro (fun hpos=>eU h hpos) (jK h).1) ?_
 rintro⟨hpt,hcp2⟩
 obtain⟨gc,rfl⟩:=hpt hBpos
 clear hpt
 refine uM O (uU ?_)
 refine aU (hE.t O) (hE.t O) O O O (fun b129=>?_)
 refine uU ?_
 apply bU (hE.t O) (hE.t O) O O O
 ·exact uK
 ·exact uK
 ·rfl
 ·rfl
 ·omega
 ·omega
 ·(unfold maxLen;omega)
 intro g130 c130 n130 x130 hn130 hx130
 obtain rfl:x130=byC (B1++[cb]):=by rw[hx130,gL];rfl
 obtain rfl:n130=(B1++[cb]).length:=by rw[hn130,List.length_append];rfl
 have hln3:(B1++[cb]).length=B1.length+1:=by rw[List.length_append];rfl
 refine lV (p:=sl (some ⟨g130,0,none⟩) c130 5 1 (B1++[cb]).length (byC (B1++[cb]))) uK (fun _ h=>(jK h).1) (fun hcap3=>?_)
 have hq3:Rdb E.w0 (some ⟨g130,0,none⟩) (byC (B1++[cb])) (sl (some ⟨g130,0,none⟩) c130 5 1 (B1++[cb]).length (byC (B1++[cb]))):=fun _=>⟨g130,0,O,sH (fun _ _ h=>h)⟩
 refine uX (sZ (Es:=(W++N)) (s:=s) (most:=1048576) (tb:=tb) (pp:=pp) (m:=m) (bm:=bm) (Bs:=B1++[cb]) (c:=c130) hE hB hq3 hcap3 oO oO) O ?_
 rintro _ _(⟨rfl,rfl⟩|⟨G9,A9,M9,Z9,pl9,cl9,rfl,hP9,hb9, -⟩)
 ·simp only[uV,uW]
  refine uM O (uB (aT O O) (uB (aT O O) (uA O (uA O (dN (dO (uM O (uM O (uB (y_eq O O) (uB (xE O O (hE.t O)) ?_))))))))))
  refine uM O ?_
  refine l_eq 138 (.bool true) O (by simp[hc8]) ?_
  refine dP (uM O (dP (uX (ct_Is hE (i:=4) (by decide)) O ?_)))
  rintro _ _⟨rfl,rfl⟩
  simp only[uV,uW]
  refine uB (gY) ?_
  refine uA O (dN (bZ ?_))
  exact uZ O (.tmp O .nil) ⟨O,O⟩
 exfalso
 have h9:=qEv hP.ok hP9.ok (s:=[cb]) (t:=[]) (by rw[List.append_nil,←hb9,←hB2])
 simp at h9
end
section
open Go Go.ChangeShapes Go.WideShapes Go.ChangeAt Go.WideMaps Go.WideElems Go.RowKit Go.ChangeMaps Sl Eg
theorem half_nat {z:Int}(h:(Lit.int .u16 z).wf=true):∃n:Nat,z=(n:Int)∧n<65536:=by
 have hh:0≤z∧z<65536:=by
  simp only[Lit.wf,Bool.and_eq_true,decide_eq_true_eq]at h
  have h1:(IntKind.u16.min:Int)=0:=by rfl
  have h2:(IntKind.u16.max:Int)=65535:=by rfl
  omega
 exact⟨z.toNat,oO,oO⟩
theorem qCe {E:Env}(hE:Seat E)(hB:Base E.w0){l:List Im}{a:Option Addr}{ca k c:Nat}(hk:k<65536)(hc:c<256)(hq:Rdb E.w0 a (imC l) old)(hok:∀x∈l,Rdb E.w0 x.a (byC x.bs) old) (hn:l.length≤maxLen):
  Ct E 5 [.slice a l.length ca,.int .u16 (k:Nat),.int .u8 (c:Nat)] [] (fun v Q=>v= .bool true∧Q=[]):=by
 obtain⟨cb,rfl⟩:∃cb:UInt8,c=cb.toNat:=⟨UInt8.ofNat c,by rw[UInt8.toNat_ofNat'];omega⟩
 exact qRj (zW hE hB hk hq hok hn)
end
end Go.Proofs.YtlmpojkmeglepaaGreatDoor
