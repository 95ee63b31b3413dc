import Derived.Test.YtlmpojkmeglepaaGreatDoorQ74
set_option linter.all false
set_option maxHeartbeats 1000000
namespace Sl
open Go Go.RowKit
variable {E:Env}{n:Nat}{L:Fr}{H H':List HP}{K:Value→List HP→Prop}{op:Oper}{ty:TypeId}{pos:String}{af:Array Edge}{d:Option Nat}{gd:Option (Nat×Bool)}
def gF {x:Operand}{t e:TypeId}{c by_ sz sz':Nat}{z:Int}{zs:List Value}{v0:Value}{kk:TK}(ht:E.tab t=some ⟨.slice e 1 by_,sz,zs⟩)(he:E.tab e=some ⟨kk,sz',[v0]⟩)
  (hx:ev L x=some (.int .i64 z)) (hz:z=(c:Nat)) (hb:by_*c≤281474976710656) (hc:c≤maxLen)
  (hk:∀b,K (.slice (some ⟨b,0,none⟩) c c) (sl (some ⟨b,0,none⟩) c e 1 c (List.replicate c v0)::H)):Ld E n L H ⟨d,.makeSlice t x x,ty,pos,af,gd⟩ K:=qPe ht he (hx.trans (by rw[hz])) hb hc hk
def nY (hH:∀k,dV H k→dV H' k) (h:Ld E n L H' op K):Ld E n L H op K:=fun Q next a w G hn=>h Q next a w ⟨G.f,G.hp.imp hH⟩ hn
end Sl
namespace Go.Proofs.YtlmpojkmeglepaaGreatDoor
open Go Go.RowKit Sl Eg
set_option maxRecDepth 10000
section
variable {E:Env}{G:List Rl}
def tkS (A:List Nat)(k:Nat):List Nat:=A.take k++List.replicate (A.length-k) 0
def tkS_zero (A:List Nat):List.replicate A.length (Value.int .i64 0)=idC (tkS A 0):=by
 simp[tkS,idC]
def tkS_all (A:List Nat):tkS A A.length=A:=by simp[tkS]
def tkS_set {A:List Nat}{k x:Nat}(h:A[k]?=some x)(o:Nat)(ho:o=k){v:Int}(hv:v=(x:Nat)):bX (idC (tkS A k)) o (bP (.int .i64 v))=idC (tkS A (k+1)):=by
 subst ho hv;have hk:=(ae.1 h).1;simp only[bX,bP];unfold idC tkS;have e1:A.length-o=(A.length-(o+1))+1:=oO;have e2:(A.take o).length=o:=by rw[ig];omega
 rw[e1,bn,kg,jq,ed,h,wz _ _ (by rw[gz,e2];exact ai _),gz,e2,oQ];simp
def qVg {l:List (List UInt8×Int)}{i:Nat}{p:List UInt8×Int}(h:l[i]?=some p)(o:Nat)(ho:o=i*2):(nlC l)[o]?=some (.string ⟨⟨p.1⟩⟩)∧(nlC l)[o+1]?=some (.int .i64 p.2):=by subst ho;exact qDg h
def nmI_at {A:List (List UInt8×Nat)}{i:Nat}{p:List UInt8×Nat}(h:A[i]?=some p)(o:Nat)(ho:o=i*2):(nlC (nmI A))[o]?=some (.string ⟨⟨p.1⟩⟩)∧(nlC (nmI A))[o+1]?=some (.int .i64 (p.2:Nat)):=
 qVg (l:=nmI A) (p:=(p.1,(p.2:Int))) (by unfold nmI;rw[bi,h];rfl) o ho
def qSa (A:List (List UInt8×Nat)):(nmI A).length=A.length:=gz _
def lvC_set {G:List Rl}{k:Nat}(hk:k+1<G.length+1)(o:Nat)(ho:o=k+1):bX (lvC G k) o (bP (.int .i64 (lvl G (k+1))))=lvC G (k+1):=qKh hk o ho rfl rfl
def kzC_set {G:List Rl}{k:Nat}(hk:k+1<G.length+1)(o:Nat)(ho:o=k+1):bX (kzC G k) o (bP (.int .u64 (key G (k+1):Nat)))=kzC G (k+1):=qKh hk o ho rfl rfl
structure PpG where
 b:Nat
 p:Option Addr
 c:Nat
 b2:Nat
 b3:Nat
def qRj (hE:Seat E)(hB:Base E.w0)(hw:Wf G)(hGl:G.length≤100000){A:List (List UInt8×Nat)}(hAl:A.length≤1000)(hA:∀p∈A,p.2≤G.length) (hlk:∀j,1≤j→j≤G.length→0≤lvl G j∧lvl G j≤1048576) (hs:∀j,1≤j→j≤G.length→Sig G j) (hvis:dD G (A.map (·.2)) []=(List.range G.length).map (· +1)) {pg pl:Option Addr} {cg cl:Nat}:
  Ct E 39 [.slice pg G.length cg,.slice pl A.length cl] [sl pg cg 86 5 G.length (rusC G),sl pl cl 53 2 A.length (nlC (nmI A))] (fun v Q=>v= .bool true∧Q=[sl pg cg 86 5 G.length (rusC G),sl pl cl 53 2 A.length (nlC (nmI A))]):=by
 have hmr:eU=1048576:=rfl;refine dX (p:=sl pl cl 53 2 A.length (nlC (nmI A))) uK (fun _ h=>fun hpos=>eF h hpos) (fun hpl=>?_);refine bO (hE.fn Tryz.func39) O O O (fun R=>?_);simp only[dR,uV,uW];refine gg9 ?_;refine uX (qBz (most:=G.length) hE oO) O ?_;rintro _ _⟨s,rfl,rfl⟩;simp only[uV,uW];refine gg8 ?_;refine uX (qSz hE hw hGl) O ?_;rintro _ _⟨Es,rfl,hEs,rfl⟩;simp only[uV,uW];subst hEs;have hEl:(rls Es).length=Es.length:=bQ Es;refine gg15 ?_;refine uX (sF hE) O ?_;rintro _ _⟨rfl,rfl⟩;simp only[uV,uW];refine gg9 ?_;refine bE O (fun h1=>?_) (fun h1=>?_)
 ·exfalso;omega
 refine gg6 ?_;refine uU ?_;refine gF (c:=A.length) (hE.t O) (hE.t O) O oO oO (by(unfold maxLen;omega)) (fun b40=>?_);refine gg12 ?_
 have ez:List.replicate A.length (Value.int .i64 0)=idC (tkS (A.map (·.2)) 0):=by
  have:=tkS_zero (A.map (·.2));rwa [gz]at this
 rw[ez];refine dW (fun k:Nat=>[(0,.slice pg (rls Es).length cg),(5,uPt s),(8,.slice (some ⟨b40,0,none⟩) A.length A.length),(41,.slice pl A.length cl),(42,.int .i64 (A.length:Nat)),(43,.int .i64 (k:Nat))]) (fun k=>[bR s (rls Es).length Es,sl pg cg 86 5 (rls Es).length (rusC (rls Es)),sl pl cl 53 2 A.length (nlC (nmI A)),sl (some ⟨b40,0,none⟩) A.length 44 1 A.length (idC (tkS (A.map (·.2)) k)),R]) (fun k=>A.length-k) (fun k=>k≤A.length) 0 (av _) ⟨O,O,O,O,O,O,trivial⟩ uI ?_;rintro k hk;refine gg6 ?_;refine bE O (fun h2=>?_) (fun h2=>?_)
 ·have hkl:k<A.length:=oO;obtain⟨p,hp⟩:∃x,A[k]?=some x:=⟨_,ag hkl⟩;obtain⟨f0,f1⟩:=nmI_at hp (0+((k:Nat):Int).toNat*2) oO;have hpk:(A.map (·.2))[k]?=some p.2:=by rw[bi,hp];rfl
  obtain⟨gl,rfl⟩:=hpl oO;refine gg9 ?_;refine uU (dA (hE.t O) (fun b10=>?_));refine gg18 ?_;rw[tkS_set (k:=k) hpk (((k:Nat):Int).toNat) oO rfl];refine bS (ι:=Nat) (j:=k+1) oO oO ⟨O,O,O,O,O,bg some (bW oO),trivial⟩ uI
 obtain rfl:k=A.length:=by omega
 have ez2:tkS (A.map (·.2)) A.length=A.map (·.2):=by
  have:=tkS_all (A.map (·.2));rwa [gz]at this
 rw[ez2];refine gg9 ?_;refine uU ?_
 apply aZ (qCe (s:=s) (most:=(rls Es).length) (Es:=Es) (xs:=A.map (·.2)) hE (by simp) (fun x hx=>by
  obtain⟨q,hq,rfl⟩:=jg.1 hx;have:=hA q hq;omega) oO) rfl (hE.f oK)
 ·exact uK
 rintro _ _⟨p1,c1,rfl,rfl⟩;rw[hvis];have hvl:((List.range (rls Es).length).map (· +1)).length=(rls Es).length:=by simp
 rw[hvl];simp only[uV,uW];refine gg13 ?_;refine bE O (fun h3=>?_) (fun h3=>?_)
 ·exfalso;omega
 refine gP (p:=sl p1 c1 44 1 (rls Es).length (idC ((List.range (rls Es).length).map (· +1)))) uK (fun _ h=>fun hpos=>eF h hpos) ?_;intro hp1;refine gg11 ?_;refine dW (fun k:Nat=>[(0,.slice pg (rls Es).length cg),(5,uPt s),(62,.slice p1 (rls Es).length c1),(63,.int .i64 ((rls Es).length:Nat)),(64,.int .i64 (k:Nat))]) (fun k=>[bR s (rls Es).length Es,sl pg cg 86 5 (rls Es).length (rusC (rls Es)),sl pl cl 53 2 A.length (nlC (nmI A)),sl p1 c1 44 1 (rls Es).length (idC ((List.range (rls Es).length).map (· +1))),R]) (fun k=>(rls Es).length-k) (fun k=>k≤(rls Es).length) 0 (av _) ⟨O,O,O,O,O,trivial⟩ uI ?_;clear h2 hk h3 h1;rintro k hk;refine gg6 ?_;refine bE O (fun h2=>?_) (fun h2=>?_)
 ·have hkl:k<(rls Es).length:=oO;obtain⟨g1,rfl⟩:=hp1 oO;have hat:((List.range (rls Es).length).map (· +1))[k]?=some (k+1):=by rw[bi,lc hkl];rfl
  have f0:=eQ hat (((k:Nat):Int).toNat) oO;refine gg21 ?_;refine bE O (fun h3=>?_) (fun h3=>?_)
  ·exfalso;omega
  refine gg7 ?_;refine bS (ι:=Nat) (j:=k+1) oO oO ⟨O,O,O,O,bg some (bW oO),trivial⟩ uI
 refine gP (p:=sl pg cg 86 5 (rls Es).length (rusC (rls Es))) uK (fun _ h=>(lS h).2.2) ?_;intro hGRl;refine gg5 ?_;refine kZ (fun x:PpG=>[(0,.slice pg (rls Es).length cg),(5,uPt s),(14,.pointer (some ⟨x.b,0,none⟩))]) (fun x=>[bR s (rls Es).length Es,sl pg cg 86 5 (rls Es).length (rusC (rls Es)),sl pl cl 53 2 A.length (nlC (nmI A)),cells x.b [.slice x.p ((rls Es).length+1) x.c,.slice (some ⟨x.b2,0,none⟩) ((rls Es).length+1) ((rls Es).length+1),.slice (some ⟨x.b3,0,none⟩) ((rls Es).length+1) ((rls Es).length+1)] 151,sl x.p x.c 86 5 ((rls Es).length+1) (ruC (rls Es)),sl (some ⟨x.b2,0,none⟩) ((rls Es).length+1) 3 1 ((rls Es).length+1) (lvC (rls Es) 0),sl (some ⟨x.b3,0,none⟩) ((rls Es).length+1) 70 1 ((rls Es).length+1) (kzC (rls Es) 0),R]) (fun _=>True) ?_ ?_
 ·have el:List.replicate ((rls Es).length+1) (Value.int .i64 0)=lvC (rls Es) 0:=qFp (f:=fun j=> .int .i64 (lvl (rls Es) j)) O _;have ek:List.replicate ((rls Es).length+1) (Value.int .u64 0)=kzC (rls Es) 0:=qFp (f:=fun j=> .int .u64 (key (rls Es) j:Nat)) O _;refine uN 14 ([]) ?_;refine gg1 ?_;refine uT 2 O (aB O) (uT 4 O (aB O) ?_);refine gg2 ?_;refine uT 8 O (aB O) ?_;refine gg2 ?_;apply qNc 1 7 11 O O O oK O O O
  ·refine aU (hE.t O) (hE.t O) O O O (fun b75=>?_);refine uE ?_;apply qNc 3 7 11 O O O oK O O O
   ·refine nY (cO (p:=cells b75 [.int .i64 0,.int .u8 0,.int .i64 0,.int .i64 0,.int .i64 0] 86) (p':=sl (some ⟨b75,0,none⟩) 1 86 5 1 [.int .i64 0,.int .u8 0,.int .i64 0,.int .i64 0,.int .i64 0]) uK (eG O (by unfold maxLen;omega))) ?_;apply gJ (hE.t O) (hE.t O) O O O
    ·exact uK
    ·exact uK
    ·exact lQ _
    ·omega
    ·unfold maxLen;omega
    intro pK cK mK xK hmK hxK;obtain rfl:mK=(rls Es).length+1:=by omega
    obtain rfl:xK=ruC (rls Es):=by rw[hxK];rfl
    refine uE ?_;apply xU 7 11 O O oK O O
    ·refine gF (c:=(rls Es).length+1) (hE.t O) (hE.t O) O oO oO (by(unfold maxLen;omega)) (fun b81=>?_);refine uE ?_;apply dY 11 O oK O;refine gF (c:=(rls Es).length+1) (hE.t O) (hE.t O) O oO oO (by(unfold maxLen;omega)) (fun b85=>?_);refine uE ?_;apply dG 12 O oK
     ·exact gL (hE.t O) O O
     ·rfl
     apply dY 13 O oK O;refine fH O (fun b87=>?_);refine uE ?_;apply dG 14 O oK
     ·exact aC O
     ·rfl
     refine gg1 ?_;rw[el,ek];refine fC (ι:=PpG) ⟨b87,pK,cK,b81,b85⟩ trivial ⟨O,O,O,trivial⟩ ?_;exact uI
    refine gF (c:=(rls Es).length+1) (hE.t O) (hE.t O) O oO oO (by(unfold maxLen;omega)) (fun b85=>?_);refine uE ?_;apply dY 7 O oK O;refine gF (c:=(rls Es).length+1) (hE.t O) (hE.t O) O oO oO (by(unfold maxLen;omega)) (fun b81=>?_);refine uE ?_;apply dG 12 O oK
    ·exact gL (hE.t O) O O
    ·rfl
    apply dY 13 O oK O;refine fH O (fun b87=>?_);refine uE ?_;apply dG 14 O oK
    ·exact aC O
    ·rfl
    refine gg1 ?_;rw[el,ek];refine fC (ι:=PpG) ⟨b87,pK,cK,b81,b85⟩ trivial ⟨O,O,O,trivial⟩ ?_;exact uI
   ·refine gF (c:=(rls Es).length+1) (hE.t O) (hE.t O) O oO oO (by(unfold maxLen;omega)) (fun b81=>?_);refine uE ?_;apply xU 3 11 O O oK O O
    ·refine nY (cO (p:=cells b75 [.int .i64 0,.int .u8 0,.int .i64 0,.int .i64 0,.int .i64 0] 86) (p':=sl (some ⟨b75,0,none⟩) 1 86 5 1 [.int .i64 0,.int .u8 0,.int .i64 0,.int .i64 0,.int .i64 0]) uK (eG O (by unfold maxLen;omega))) ?_;apply gJ (hE.t O) (hE.t O) O O O
     ·exact uK
     ·exact uK
     ·exact lQ _
     ·omega
     ·unfold maxLen;omega
     intro pK cK mK xK hmK hxK;obtain rfl:mK=(rls Es).length+1:=by omega
     obtain rfl:xK=ruC (rls Es):=by rw[hxK];rfl
     refine uE ?_;apply dY 11 O oK O;refine gF (c:=(rls Es).length+1) (hE.t O) (hE.t O) O oO oO (by(unfold maxLen;omega)) (fun b85=>?_);refine uE ?_;apply dG 12 O oK
     ·exact gL (hE.t O) O O
     ·rfl
     apply dY 13 O oK O;refine fH O (fun b87=>?_);refine uE ?_;apply dG 14 O oK
     ·exact aC O
     ·rfl
     refine gg1 ?_;rw[el,ek];refine fC (ι:=PpG) ⟨b87,pK,cK,b81,b85⟩ trivial ⟨O,O,O,trivial⟩ ?_;exact uI
    refine gF (c:=(rls Es).length+1) (hE.t O) (hE.t O) O oO oO (by(unfold maxLen;omega)) (fun b85=>?_);refine uE ?_;apply dY 3 O oK O;refine nY (cO (p:=cells b75 [.int .i64 0,.int .u8 0,.int .i64 0,.int .i64 0,.int .i64 0] 86) (p':=sl (some ⟨b75,0,none⟩) 1 86 5 1 [.int .i64 0,.int .u8 0,.int .i64 0,.int .i64 0,.int .i64 0]) uK (eG O (by unfold maxLen;omega))) ?_;apply gJ (hE.t O) (hE.t O) O O O
    ·exact uK
    ·exact uK
    ·exact lQ _
    ·omega
    ·unfold maxLen;omega
    intro pK cK mK xK hmK hxK;obtain rfl:mK=(rls Es).length+1:=by omega
    obtain rfl:xK=ruC (rls Es):=by rw[hxK];rfl
    refine uE ?_;apply dG 12 O oK
    ·exact gL (hE.t O) O O
    ·rfl
    apply dY 13 O oK O;refine fH O (fun b87=>?_);refine uE ?_;apply dG 14 O oK
    ·exact aC O
    ·rfl
    refine gg1 ?_;rw[el,ek];refine fC (ι:=PpG) ⟨b87,pK,cK,b81,b85⟩ trivial ⟨O,O,O,trivial⟩ ?_;exact uI
   refine gF (c:=(rls Es).length+1) (hE.t O) (hE.t O) O oO oO (by(unfold maxLen;omega)) (fun b85=>?_);refine uE ?_;apply xU 3 7 O O oK O O
   ·refine nY (cO (p:=cells b75 [.int .i64 0,.int .u8 0,.int .i64 0,.int .i64 0,.int .i64 0] 86) (p':=sl (some ⟨b75,0,none⟩) 1 86 5 1 [.int .i64 0,.int .u8 0,.int .i64 0,.int .i64 0,.int .i64 0]) uK (eG O (by unfold maxLen;omega))) ?_;apply gJ (hE.t O) (hE.t O) O O O
    ·exact uK
    ·exact uK
    ·exact lQ _
    ·omega
    ·unfold maxLen;omega
    intro pK cK mK xK hmK hxK;obtain rfl:mK=(rls Es).length+1:=by omega
    obtain rfl:xK=ruC (rls Es):=by rw[hxK];rfl
    refine uE ?_;apply dY 7 O oK O;refine gF (c:=(rls Es).length+1) (hE.t O) (hE.t O) O oO oO (by(unfold maxLen;omega)) (fun b81=>?_);refine uE ?_;apply dG 12 O oK
    ·exact gL (hE.t O) O O
    ·rfl
    apply dY 13 O oK O;refine fH O (fun b87=>?_);refine uE ?_;apply dG 14 O oK
    ·exact aC O
    ·rfl
    refine gg1 ?_;rw[el,ek];refine fC (ι:=PpG) ⟨b87,pK,cK,b81,b85⟩ trivial ⟨O,O,O,trivial⟩ ?_;exact uI
   refine gF (c:=(rls Es).length+1) (hE.t O) (hE.t O) O oO oO (by(unfold maxLen;omega)) (fun b81=>?_);refine uE ?_;apply dY 3 O oK O;refine nY (cO (p:=cells b75 [.int .i64 0,.int .u8 0,.int .i64 0,.int .i64 0,.int .i64 0] 86) (p':=sl (some ⟨b75,0,none⟩) 1 86 5 1 [.int .i64 0,.int .u8 0,.int .i64 0,.int .i64 0,.int .i64 0]) uK (eG O (by unfold maxLen;omega))) ?_;apply gJ (hE.t O) (hE.t O) O O O
   ·exact uK
   ·exact uK
   ·exact lQ _
   ·omega
   ·unfold maxLen;omega
   intro pK cK mK xK hmK hxK;obtain rfl:mK=(rls Es).length+1:=by omega
   obtain rfl:xK=ruC (rls Es):=by rw[hxK];rfl
   refine uE ?_;apply dG 12 O oK
   ·exact gL (hE.t O) O O
   ·rfl
   apply dY 13 O oK O;refine fH O (fun b87=>?_);refine uE ?_;apply dG 14 O oK
   ·exact aC O
   ·rfl
   refine gg1 ?_;rw[el,ek];refine fC (ι:=PpG) ⟨b87,pK,cK,b81,b85⟩ trivial ⟨O,O,O,trivial⟩ ?_;exact uI
  ·refine gF (c:=(rls Es).length+1) (hE.t O) (hE.t O) O oO oO (by(unfold maxLen;omega)) (fun b81=>?_);refine uE ?_;apply xU 1 11 O O oK O O
   ·refine aU (hE.t O) (hE.t O) O O O (fun b75=>?_);refine uE ?_;apply xU 3 11 O O oK O O
    ·refine nY (cO (p:=cells b75 [.int .i64 0,.int .u8 0,.int .i64 0,.int .i64 0,.int .i64 0] 86) (p':=sl (some ⟨b75,0,none⟩) 1 86 5 1 [.int .i64 0,.int .u8 0,.int .i64 0,.int .i64 0,.int .i64 0]) uK (eG O (by unfold maxLen;omega))) ?_;apply gJ (hE.t O) (hE.t O) O O O
     ·exact uK
     ·exact uK
     ·exact lQ _
     ·omega
     ·unfold maxLen;omega
     intro pK cK mK xK hmK hxK;obtain rfl:mK=(rls Es).length+1:=by omega
     obtain rfl:xK=ruC (rls Es):=by rw[hxK];rfl
     refine uE ?_;apply dY 11 O oK O;refine gF (c:=(rls Es).length+1) (hE.t O) (hE.t O) O oO oO (by(unfold maxLen;omega)) (fun b85=>?_);refine uE ?_;apply dG 12 O oK
     ·exact gL (hE.t O) O O
     ·rfl
     apply dY 13 O oK O;refine fH O (fun b87=>?_);refine uE ?_;apply dG 14 O oK
     ·exact aC O
     ·rfl
     refine gg1 ?_;rw[el,ek];refine fC (ι:=PpG) ⟨b87,pK,cK,b81,b85⟩ trivial ⟨O,O,O,trivial⟩ ?_;exact uI
    refine gF (c:=(rls Es).length+1) (hE.t O) (hE.t O) O oO oO (by(unfold maxLen;omega)) (fun b85=>?_);refine uE ?_;apply dY 3 O oK O;refine nY (cO (p:=cells b75 [.int .i64 0,.int .u8 0,.int .i64 0,.int .i64 0,.int .i64 0] 86) (p':=sl (some ⟨b75,0,none⟩) 1 86 5 1 [.int .i64 0,.int .u8 0,.int .i64 0,.int .i64 0,.int .i64 0]) uK (eG O (by unfold maxLen;omega))) ?_;apply gJ (hE.t O) (hE.t O) O O O
    ·exact uK
    ·exact uK
    ·exact lQ _
    ·omega
    ·unfold maxLen;omega
    intro pK cK mK xK hmK hxK;obtain rfl:mK=(rls Es).length+1:=by omega
    obtain rfl:xK=ruC (rls Es):=by rw[hxK];rfl
    refine uE ?_;apply dG 12 O oK
    ·exact gL (hE.t O) O O
    ·rfl
    apply dY 13 O oK O;refine fH O (fun b87=>?_);refine uE ?_;apply dG 14 O oK
    ·exact aC O
    ·rfl
    refine gg1 ?_;rw[el,ek];refine fC (ι:=PpG) ⟨b87,pK,cK,b81,b85⟩ trivial ⟨O,O,O,trivial⟩ ?_;exact uI
   refine gF (c:=(rls Es).length+1) (hE.t O) (hE.t O) O oO oO (by(unfold maxLen;omega)) (fun b85=>?_);refine uE ?_;apply dY 1 O oK O;refine aU (hE.t O) (hE.t O) O O O (fun b75=>?_);refine uE ?_;apply dY 3 O oK O;refine nY (cO (p:=cells b75 [.int .i64 0,.int .u8 0,.int .i64 0,.int .i64 0,.int .i64 0] 86) (p':=sl (some ⟨b75,0,none⟩) 1 86 5 1 [.int .i64 0,.int .u8 0,.int .i64 0,.int .i64 0,.int .i64 0]) uK (eG O (by unfold maxLen;omega))) ?_;apply gJ (hE.t O) (hE.t O) O O O
   ·exact uK
   ·exact uK
   ·exact lQ _
   ·omega
   ·unfold maxLen;omega
   intro pK cK mK xK hmK hxK;obtain rfl:mK=(rls Es).length+1:=by omega
   obtain rfl:xK=ruC (rls Es):=by rw[hxK];rfl
   refine uE ?_;apply dG 12 O oK
   ·exact gL (hE.t O) O O
   ·rfl
   apply dY 13 O oK O;refine fH O (fun b87=>?_);refine uE ?_;apply dG 14 O oK
   ·exact aC O
   ·rfl
   refine gg1 ?_;rw[el,ek];refine fC (ι:=PpG) ⟨b87,pK,cK,b81,b85⟩ trivial ⟨O,O,O,trivial⟩ ?_;exact uI
  refine gF (c:=(rls Es).length+1) (hE.t O) (hE.t O) O oO oO (by(unfold maxLen;omega)) (fun b85=>?_);refine uE ?_;apply xU 1 7 O O oK O O
  ·refine aU (hE.t O) (hE.t O) O O O (fun b75=>?_);refine uE ?_;apply xU 3 7 O O oK O O
   ·refine nY (cO (p:=cells b75 [.int .i64 0,.int .u8 0,.int .i64 0,.int .i64 0,.int .i64 0] 86) (p':=sl (some ⟨b75,0,none⟩) 1 86 5 1 [.int .i64 0,.int .u8 0,.int .i64 0,.int .i64 0,.int .i64 0]) uK (eG O (by unfold maxLen;omega))) ?_;apply gJ (hE.t O) (hE.t O) O O O
    ·exact uK
    ·exact uK
    ·exact lQ _
    ·omega
    ·unfold maxLen;omega
    intro pK cK mK xK hmK hxK;obtain rfl:mK=(rls Es).length+1:=by omega
    obtain rfl:xK=ruC (rls Es):=by rw[hxK];rfl
    refine uE ?_;apply dY 7 O oK O;refine gF (c:=(rls Es).length+1) (hE.t O) (hE.t O) O oO oO (by(unfold maxLen;omega)) (fun b81=>?_);refine uE ?_;apply dG 12 O oK
    ·exact gL (hE.t O) O O
    ·rfl
    apply dY 13 O oK O;refine fH O (fun b87=>?_);refine uE ?_;apply dG 14 O oK
    ·exact aC O
    ·rfl
    refine gg1 ?_;rw[el,ek];refine fC (ι:=PpG) ⟨b87,pK,cK,b81,b85⟩ trivial ⟨O,O,O,trivial⟩ ?_;exact uI
   refine gF (c:=(rls Es).length+1) (hE.t O) (hE.t O) O oO oO (by(unfold maxLen;omega)) (fun b81=>?_);refine uE ?_;apply dY 3 O oK O;refine nY (cO (p:=cells b75 [.int .i64 0,.int .u8 0,.int .i64 0,.int .i64 0,.int .i64 0] 86) (p':=sl (some ⟨b75,0,none⟩) 1 86 5 1 [.int .i64 0,.int .u8 0,.int .i64 0,.int .i64 0,.int .i64 0]) uK (eG O (by unfold maxLen;omega))) ?_;apply gJ (hE.t O) (hE.t O) O O O
   ·exact uK
   ·exact uK
   ·exact lQ _
   ·omega
   ·unfold maxLen;omega
   intro pK cK mK xK hmK hxK;obtain rfl:mK=(rls Es).length+1:=by omega
   obtain rfl:xK=ruC (rls Es):=by rw[hxK];rfl
   refine uE ?_;apply dG 12 O oK
   ·exact gL (hE.t O) O O
   ·rfl
   apply dY 13 O oK O;refine fH O (fun b87=>?_);refine uE ?_;apply dG 14 O oK
   ·exact aC O
   ·rfl
   refine gg1 ?_;rw[el,ek];refine fC (ι:=PpG) ⟨b87,pK,cK,b81,b85⟩ trivial ⟨O,O,O,trivial⟩ ?_;exact uI
  refine gF (c:=(rls Es).length+1) (hE.t O) (hE.t O) O oO oO (by(unfold maxLen;omega)) (fun b81=>?_);refine uE ?_;apply dY 1 O oK O;refine aU (hE.t O) (hE.t O) O O O (fun b75=>?_);refine uE ?_;apply dY 3 O oK O;refine nY (cO (p:=cells b75 [.int .i64 0,.int .u8 0,.int .i64 0,.int .i64 0,.int .i64 0] 86) (p':=sl (some ⟨b75,0,none⟩) 1 86 5 1 [.int .i64 0,.int .u8 0,.int .i64 0,.int .i64 0,.int .i64 0]) uK (eG O (by unfold maxLen;omega))) ?_;apply gJ (hE.t O) (hE.t O) O O O
  ·exact uK
  ·exact uK
  ·exact lQ _
  ·omega
  ·unfold maxLen;omega
  intro pK cK mK xK hmK hxK;obtain rfl:mK=(rls Es).length+1:=by omega
  obtain rfl:xK=ruC (rls Es):=by rw[hxK];rfl
  refine uE ?_;apply dG 12 O oK
  ·exact gL (hE.t O) O O
  ·rfl
  apply dY 13 O oK O;refine fH O (fun b87=>?_);refine uE ?_;apply dG 14 O oK
  ·exact aC O
  ·rfl
  refine gg1 ?_;rw[el,ek];refine fC (ι:=PpG) ⟨b87,pK,cK,b81,b85⟩ trivial ⟨O,O,O,trivial⟩ ?_;exact uI
 rintro⟨pb,p2,c2,b2,b3⟩_;simp only;refine gP (p:=sl p2 c2 86 5 ((rls Es).length+1) (ruC (rls Es))) uK (fun _ h=>eF h oO) ?_;rintro⟨g1,rfl⟩;refine gg3 ?_;refine uX (qFd hE) O ?_;rintro _ _⟨tb,rfl,rfl⟩;simp only[uV,uW];refine qO (cO (p:=tabP tb s []) (p':=tabP tb s (rls Es)) uK (fun _ h=>lT (rls Es) h)) ?_;refine gg10 ?_;refine dW (fun k:Nat=>[(0,.slice pg (rls Es).length cg),(14,uPt pb),(15,uPt tb),(16,.int .i64 ((k+1:Nat):Int))]) (fun k=>[bR s (rls Es).length Es,tabP tb s (rls Es),sl pg cg 86 5 (rls Es).length (rusC (rls Es)),sl pl cl 53 2 A.length (nlC (nmI A)),cells pb [.slice (some ⟨g1,0,none⟩) ((rls Es).length+1) c2,.slice (some ⟨b2,0,none⟩) ((rls Es).length+1) ((rls Es).length+1),.slice (some ⟨b3,0,none⟩) ((rls Es).length+1) ((rls Es).length+1)] 151,sl (some ⟨g1,0,none⟩) c2 86 5 ((rls Es).length+1) (ruC (rls Es)),sl (some ⟨b2,0,none⟩) ((rls Es).length+1) 3 1 ((rls Es).length+1) (lvC (rls Es) k),sl (some ⟨b3,0,none⟩) ((rls Es).length+1) 70 1 ((rls Es).length+1) (kzC (rls Es) k),R]) (fun k=>(rls Es).length-k) (fun k=>k≤(rls Es).length) 0 (av _) ⟨O,O,O,O,trivial⟩ uI ?_;clear h2 hk k;rintro k hk;refine gg9 ?_;refine bE O (fun h2=>?_) (fun h2=>?_)
 ·have hkl:k<(rls Es).length:=oO;have hlv:=hlk (k+1) oO oO;obtain⟨r,hr⟩:∃x,(rls Es)[k]?=some x:=⟨_,ag hkl⟩;obtain⟨f0,f1,f2,f3,f4⟩:=qGe hr (0+((k+1:Nat):Int).toNat*5) oO;refine gg8 ?_;refine uX (qGz (s:=s) (most:=(rls Es).length) (Es:=Es) (i:=k) hE hB oO hlv.1) O ?_;rintro _ _⟨rfl,rfl⟩;simp only[uV,uW];refine gg20 ?_;refine bE O (fun h3=>?_) (fun h3=>?_)
  ·exfalso;omega
  refine gg6 ?_;refine uX (qCa (s:=s) (most:=(rls Es).length) (Es:=Es) (i:=k) hE hB oO) O ?_;rintro _ _⟨rfl,rfl⟩;simp only[uV,uW];refine gg29 ?_;rw[lvC_set (k:=k) oO (((k+1:Nat):Int).toNat) oO];refine gg12 ?_;rw[kzC_set (k:=k) oO (((k+1:Nat):Int).toNat) oO];refine gg10 ?_;refine uX (qTq (k:=k) hE hB hw hGl hkl (fun j h1 h2=>hlk j h1 oO) hr (hs (k+1) oO oO)) O ?_;rintro _ _⟨rfl,rfl⟩;simp only[uV,uW];refine gg12 ?_;refine bS (ι:=Nat) (j:=k+1) oO oO ⟨O,O,O,bg some (bW oO),trivial⟩ uI
 refine gg11 ?_;exact uZ O (.tmp O .nil) ⟨O,O⟩
end
section
def Iso.ext {L1 L2:List Rl}(M:List Rl){x y:Nat}(h:Iso L1 L2 x y):Iso L1 (L2++M) x y:=by
 have g:∀{m:Nat}{r:Rl},L2[m]?=some r→(L2++M)[m]?=some r:=fun{m r}h=>by
  rw[au (ae.1 h).1];exact h
 induction h with
 |letter h1 h2=>exact .letter h1 (g h2)
 |pair h1 h2 _ _ i1 i2=>exact .pair h1 (g h2) i1 i2
 |power h1 h2 _ i=>exact .power h1 (g h2) i
def Iso.le {L1 L2:List Rl}{x y:Nat}(h:Iso L1 L2 x y):x≤L1.length∧y≤L2.length:=by
 cases h with
 |letter h1 h2=>exact⟨(ae.1 h1).1,(ae.1 h2).1⟩
 |pair h1 h2=>exact⟨(ae.1 h1).1,(ae.1 h2).1⟩
 |power h1 h2=>exact⟨(ae.1 h1).1,(ae.1 h2).1⟩
def Iso.len {L1 L2:List Rl}(w1:Wf L1)(w2:Wf L2){x y:Nat}(h:Iso L1 L2 x y):Eg.len L1 x=Eg.len L2 y:=by
 induction h with
 |letter h1 h2=>rw[vO h1,vO h2]
 |pair h1 h2 _ _ i1 i2=>rw[rT h1 (w1.ok _ _ h1),rT h2 (w2.ok _ _ h2),i1,i2]
 |power h1 h2 _ i=>rw[kC h1 (w1.ok _ _ h1),kC h2 (w2.ok _ _ h2),i]
def dec_step {G L:List Rl}(hw:Wf G)(hL:Wf L){k:Nat}{r:Rl}(hr:G[k]?=some r){T:List Nat}(hT:∀j,1≤j→j≤k→∃z,T[j]?=some z∧Iso G L j z):∃r',MkOk L T r r'∧∀N id,1≤id→(L++N)[id-1]?=some r'→Iso G (L++N) (k+1) id:=by
 have hok:=hw.ok k r hr;have hkl:=iG hok;have hsh:=hw.short (k+1);have hid:∀(N:List Rl)(id:Nat)(q:Rl),1≤id→(L++N)[id-1]?=some q→∃m,id=m+1∧(L++N)[m]?=some q:=fun N id q h1 h2=>⟨id-1,oO,h2⟩
 cases r with
 |letter b=>
  refine⟨_,.letter b,fun N id h1 h2=>?_⟩
  obtain⟨m,rfl,h3⟩:=hid N id _ h1 h2
  exact .letter hr h3
 |pair a b=>
  have ha:=hkl a (by simp[kids])
  have hb:=hkl b (by simp[kids])
  obtain⟨x,hx,ix⟩:=hT a ha.1 oO
  obtain⟨y,hy,iy⟩:=hT b hb.1 oO
  have hl:=rT hr hok
  rw[ix.len hw hL,iy.len hw hL]at hl
  refine⟨_,.pair hx hy ix.pos.2 ix.le.2 iy.pos.2 iy.le.2 oO,fun N id h1 h2=>?_⟩
  obtain⟨m,rfl,h3⟩:=hid N id _ h1 h2
  exact .pair hr h3 (ix.ext N) (iy.ext N)
 |power a t=>
  have ha:=hkl a (by simp[kids])
  obtain⟨x,hx,ix⟩:=hT a ha.1 oO
  have hl:=kC hr hok
  have hp:=hw.pos a ha.1 ix.le.1
  have h2:t*1≤t*len G a:=mh _ hp
  have hmx:dC=1152921504606846976:=rfl
  simp only[Rl.ok]at hok
  have hl2:len G (k+1)=t*len L x:=by rw[hl,ix.len hw hL]
  refine⟨_,.power hx ix.pos.2 ix.le.2 hok.2.2 oO (by rw[nu];omega),fun N id h1 h2=>?_⟩
  obtain⟨m,rfl,h3⟩:=hid N id _ h1 h2
  exact .power hr h3 (ix.ext N)
def pad (Z:List Nat)(n:Nat):List Nat:=Z++List.replicate (n-Z.length) 0
def qSe {Z:List Nat}{n:Nat}(h:Z.length≤n):(pad Z n).length=n:=by simp[pad];omega
def pad_zero (n:Nat):List.replicate (n+1) (Value.int .i64 0)=idC (pad [0] (n+1)):=by
 simp[pad,idC,bn]
def qVm {Z:List Nat}{n j z:Nat}(h:Z[j]?=some z):(pad Z n)[j]?=some z:=by
 unfold pad;rw[au (ae.1 h).1];exact h
def pad_set {Z:List Nat}{n x:Nat}(h:Z.length<n)(o:Nat)(ho:o=Z.length){v:Int}(hv:v=(x:Nat)):bX (idC (pad Z n)) o (bP (.int .i64 v))=idC (pad (Z++[x]) n):=by
 subst ho hv;simp only[bX,bP];unfold idC pad;have e1:n-Z.length=(n-(Z++[x]).length)+1:=by simp;omega
 rw[e1,bn,kg,jq,wz _ _ (by simp),gz,oQ];simp
def nmK (Z:List Nat)(A:List (List UInt8×Nat))(k:Nat):List (List UInt8×Nat):=(A.take k).map (fun p=>(p.1,Z.getD p.2 0))++A.drop k
def nmK_zero (Z:List Nat)(A:List (List UInt8×Nat)):nmK Z A 0=A:=by simp[nmK]
def nmK_all (Z:List Nat)(A:List (List UInt8×Nat)):nmK Z A A.length=A.map (fun p=>(p.1,Z.getD p.2 0)):=by simp[nmK]
def nmK_at {Z:List Nat}{A:List (List UInt8×Nat)}{k:Nat}{p:List UInt8×Nat}(h:A[k]?=some p):(nmK Z A k)[k]?=some p:=by
 have hk:=(ae.1 h).1;unfold nmK;rw[ay (by simp;omega),oM];simp only[gz,ig];rw[show k+(k-min k A.length)=k by omega];exact h
def zK (a b:List (List UInt8×Nat)):nmI (a++b)=nmI a++nmI b:=kg
def nmK_set {Z:List Nat}{A:List (List UInt8×Nat)}{k:Nat}{p:List UInt8×Nat}(h:A[k]?=some p){z:Nat}(hz:Z[p.2]?=some z)(o:Nat)(ho:o=k*2+1):bX (nlC (nmI (nmK Z A k))) o (bP (.int .i64 (z:Nat)))=nlC (nmI (nmK Z A (k+1))):=by
 subst ho;have hk:=(ae.1 h).1
 have e1:A.drop k=p::A.drop (k+1):=by
  rw[kw hk];congr 1;exact(ae.1 h).2
 have e2:A.take (k+1)=A.take k++[p]:=by rw[ed,h];rfl
 have e3:Z.getD p.2 0=z:=by rw[iq,hz];rfl
 unfold nmK;rw[e1,e2,kg,jq,oG,e3,zK,zK,zK,nI,nI,nI]
 have el:(nlC (nmI ((A.take k).map (fun p=>(p.1,Z.getD p.2 0))))).length=k*2:=by
  rw[zI,qSa,gz,ig];omega
 simp only[bX,bP];rw[wz _ _ oO,el,show k*2+1-k*2=1 by omega,ah];rfl
end
section
variable {E:Env}{Es:List Ent}{pp tb s most m bm:Nat}
structure DcG where
 k:Nat
 M:List Ent
 Z:List Nat
def DcI (G L:List Rl)(k:Nat)(Z:List Nat):Prop:=Z.length=k+1∧Z[0]?=some 0∧∀j,1≤j→j≤k→∃z,Z[j]?=some z∧Iso G L j z
def DcI.next {G L:List Rl}{k:Nat}{Z:List Nat}(h:DcI G L k Z)(N:List Rl){id:Nat}(hi:Iso G (L++N) (k+1) id):DcI G (L++N) (k+1) (Z++[id]):=by
 obtain⟨h1,h2,h3⟩:=h;refine⟨by simp[h1],by rw[au oO];exact h2,fun j hj1 hj2=>?_⟩;rcases dw k j with h| h
 ·obtain rfl:j=k+1:=by omega
  exact⟨id,by rw[ay oO,h1,oQ];rfl,hi⟩
 obtain⟨z,hz,iz⟩:=h3 j hj1 h;exact⟨z,by rw[au oO];exact hz,iz.ext N⟩
def DcI.get {G L:List Rl}{k:Nat}{Z:List Nat}(h:DcI G L k Z){j:Nat}(hj:j≤k):∃z,Z[j]?=some z∧((j=0∧z=0)∨Iso G L j z):=by
 obtain⟨h1,h2,h3⟩:=h;rcases fe j with rfl|h0
 ·exact⟨0,h2,.inl ⟨O,O⟩⟩
 obtain⟨z,hz,iz⟩:=h3 j h0 hj;exact⟨z,hz,.inr iz⟩
def qQs (hE:Seat E)(hB:Base E.w0){G:List Rl}(hw:Wf G){A:List (List UInt8×Nat)}(hG:GOk 0 G)(hGl:G.length≤100000)(ht:∀r∈G,r.times≤1152921504606846976) (hA1:∀p∈A,ValidN p.1∧p.2≤G.length) (hA2:∀(i:Nat)(p q:List UInt8×Nat),A[i]?=some p→A[i+1]?=some q→Op.bytesLess p.1 q.1=true) (hAl:A.length≤1000)
  (hA:∀p∈A,p.2≤G.length) (hlk:∀j,1≤j→j≤G.length→0≤lvl G j∧lvl G j≤1048576) (hs:∀j,1≤j→j≤G.length→Sig G j) (hvis:dD G (A.map (·.2)) []=(List.range G.length).map (· +1))
  {Bs:List UInt8} (hBs:Bs=encA G A) {a:Option Addr} {c:Nat} {q:HP} (hq:Rdb E.w0 a (byC Bs) q) (hc:Bs.length≤c) (hcl:Bs.length≤1099511627776) (hroom:Es.length+G.length≤most):
  Ct E 15 [uPt m,.slice a Bs.length c] [cells pp [uPt s,uPt tb] 97,tabP tb s (rls Es),bR s most Es,cells m [uPt pp,.map (some bm)] 93,q]
   (fun v Q=>∃M Z pl cl,v= .tuple #[.slice pl A.length cl,.nilIface]∧M.length≤G.length∧DcI G (rls (Es++M)) G.length Z∧Q=[cells pp [uPt s,uPt tb] 97,tabP tb s (rls (Es++M)),bR s most (Es++M),cells m [uPt pp,.map (some bm)] 93,q,sl pl cl 53 2 A.length (nlC (nmI (nmK Z A A.length)))]):=by
 have hml:G.length+1≤maxLen:=by unfold maxLen;omega
 refine bO (hE.fn Tryz.func15) O O O (fun R=>?_);simp only[dR,uV,uW];refine gg9 ?_;refine uX (sI (m:=m) (pp:=pp) (bm:=bm) hE) O ?_;rintro _ _⟨rfl,rfl⟩;simp only[uV,uW];refine uX (fQ hE) O ?_;rintro _ _⟨rfl,rfl⟩;simp only[uV,uW];refine gg16 ?_;refine uX (ct_read (a:=a) (c:=c) (q:=q) hE hG hGl ht hA1 hA2 hAl hBs hq hc hcl) O ?_;rintro _ _⟨pg,cg,pl,cl,rfl,rfl⟩;simp only[uV,uW];refine gg20 ?_;refine uX (qRj (pg:=pg) (cg:=cg) (pl:=pl) (cl:=cl) hE hB hw hGl hAl hA hlk hs hvis) O ?_;rintro _ _⟨rfl,rfl⟩;simp only[uV,uW];refine gg13 ?_;refine uU ?_;refine gF (c:=G.length+1) (hE.t O) (hE.t O) O oO oO (by(unfold maxLen;omega)) (fun b40=>?_);refine gg12 ?_;rw[pad_zero];refine gP (p:=sl pg cg 86 5 G.length (rusC G)) uK (fun _ h=>fun hpos=>eF h hpos) ?_;intro hpg;refine gP (p:=sl pl cl 53 2 A.length (nlC (nmI A))) uK (fun _ h=>fun hpos=>eF h hpos) ?_;intro hpl;have hL0:rls Es=rls (Es++[]):=by rw[aj]
 have hS0:Es=Es++[]:=by rw[aj]
 refine dW (fun x:DcG=>[(6,uPt s),(8,.slice pl A.length cl),(10,.slice (some ⟨b40,0,none⟩) (G.length+1) (G.length+1)),(41,.slice pg G.length cg),(42,.int .i64 (G.length:Nat)),(43,.int .i64 (x.k:Nat))]) (fun x=>[cells pp [uPt s,uPt tb] 97,tabP tb s (rls (Es++x.M)),bR s most (Es++x.M),cells m [uPt pp,.map (some bm)] 93,q,sl pg cg 86 5 G.length (rusC G),sl pl cl 53 2 A.length (nlC (nmI A)),sl (some ⟨b40,0,none⟩) (G.length+1) 44 1 (G.length+1) (idC (pad x.Z (G.length+1))),R]) (fun x=>G.length-x.k) (fun x=>x.k≤G.length∧x.M.length≤x.k∧DcI G (rls (Es++x.M)) x.k x.Z) ⟨0,[],[0]⟩ ⟨av _,ai _,O,O,fun j h1 h2=>by simp only at h2;omega⟩ ⟨rfl,rfl,rfl,rfl,rfl,rfl,trivial⟩ (by simp only[aj];(apply ent;(repeat constructor);done)) ?_;rintro⟨k,M,Z⟩⟨hk,hM,hD⟩;simp only at hk hM hD ⊢;refine gP (p:=bR s most (Es++M)) uK (fun _ h=>dP h) ?_;intro hsay;refine gg6 ?_;refine bE O (fun h1=>?_) (fun h1=>?_)
 ·have hkl:k<G.length:=oO;obtain⟨g,rfl⟩:=hpg oO;obtain⟨r,hr⟩:∃x,G[k]?=some x:=⟨_,ag hkl⟩;obtain⟨f0,f1,f2,f3,f4⟩:=qNm hr (0+((k:Nat):Int).toNat*5) oO;have htl:(pad Z (G.length+1)).length=G.length+1:=qSe (by have:=hD.1;omega)
  obtain⟨r',hmk,hnx⟩:=dec_step (T:=pad Z (G.length+1)) hw hsay.1 hr (fun j h1 h2=>by
   obtain⟨z,hz,iz⟩:=hD.2.2 j h1 h2;exact⟨z,qVm hz,iz⟩)
  have hrm:(Es++M).length<most:=by rw[aa];omega
  refine gg9 ?_;refine uU (dA (hE.t O) (fun b12=>?_));refine gg9 ?_;refine l_eq 51 (.slice (some ⟨b40,0,none⟩) (pad Z (G.length+1)).length (G.length+1)) O (by rw[htl]) ?_;refine qO (cO (p:=sl (some ⟨b40,0,none⟩) (G.length+1) 44 1 (G.length+1) (idC (pad Z (G.length+1)))) (p':=sl (some ⟨b40,0,none⟩) (G.length+1) 44 1 (pad Z (G.length+1)).length (idC (pad Z (G.length+1)))) uK (fun _ h=>by rw[htl];exact h)) ?_;refine uX (ct_xAdd (s:=s) (most:=most) (Es:=Es++M) (r:=r) (r':=r') (T:=pad Z (G.length+1)) (gt:=b40) (ct:=G.length+1) hE oO hmk hrm) O ?_;rintro _ _⟨N,i,rfl,hN,hi1,hid,rfl⟩;rw[htl];simp only[uV,uW];have ea:Es++M++N=Es++(M++N):=ah _ _ _;rw[ea];rw[ea]at hid;have er:rls (Es++(M++N))=rls (Es++M)++rls N:=by rw[←ea,dB]
  refine qO (cO (p:=tabP tb s (rls (Es++M))) (p':=tabP tb s (rls (Es++(M++N)))) uK (fun _ h=>by rw[er];exact lT _ h)) ?_;have hD':=hD.next (rls N) (id:=i) (hnx (rls N) i hi1 (by rw[←er];exact hid));rw[←er]at hD';have hzl:=hD.1;refine gg27 ?_;rw[pad_set (Z:=Z) (n:=G.length+1) (x:=i) oO ((((k:Nat):Int)+1).toNat) oO rfl];refine gg4 ?_;refine bS (ι:=DcG) (j:=⟨k+1,M++N,Z++[i]⟩) ⟨by simp only;omega,by simp only[aa];omega,hD'⟩ (by simp only;omega) ⟨rfl,rfl,rfl,rfl,rfl,bg some (bW (by simp only;omega)),trivial⟩ uI
 obtain rfl:k=G.length:=by omega
 rw[←nmK_zero Z A];refine gg14 ?_;refine dW (fun k:Nat=>[(8,.slice pl A.length cl),(10,.slice (some ⟨b40,0,none⟩) (G.length+1) (G.length+1)),(65,.int .i64 (A.length:Nat)),(66,.int .i64 (k:Nat))]) (fun k=>[cells pp [uPt s,uPt tb] 97,tabP tb s (rls (Es++M)),bR s most (Es++M),cells m [uPt pp,.map (some bm)] 93,q,sl pl cl 53 2 A.length (nlC (nmI (nmK Z A k))),sl (some ⟨b40,0,none⟩) (G.length+1) 44 1 (G.length+1) (idC (pad Z (G.length+1))),R]) (fun k=>A.length-k) (fun k=>k≤A.length) 0 (av _) ⟨O,O,O,O,trivial⟩ uI ?_;rintro k hk;refine gg6 ?_;refine bE O (fun h2=>?_) (fun h2=>?_)
 ·have hkl:k<A.length:=oO;obtain⟨gl,rfl⟩:=hpl oO;obtain⟨p,hp⟩:∃x,A[k]?=some x:=⟨_,ag hkl⟩;have hpG:=hA p (ak hp);obtain⟨z,hz,_⟩:=hD.get hpG;obtain⟨f0,f1⟩:=nmI_at (nmK_at (Z:=Z) hp) (0+((k:Nat):Int).toNat*2) oO;have f2:=eQ (qVm (n:=G.length+1) hz) (((p.2:Nat):Int).toNat) oO;refine gg27 ?_;rw[nmK_set hp hz _ oO];refine gg4 ?_;refine bS (ι:=Nat) (j:=k+1) oO oO ⟨O,O,O,bg some (bW oO),trivial⟩ uI
 obtain rfl:k=A.length:=by omega
 refine gg13 ?_;exact uZ O (.tmp O (.tmp O .nil)) ⟨M,Z,pl,cl,O,hM,hD,O⟩
end
section
def Iso.trans {L1 L2 L3:List Rl}{x y:Nat}(h:Iso L1 L2 x y):∀{z:Nat},Wf L2→Iso L2 L3 y z→Iso L1 L3 x z:=by
 induction h with
 | @letter n m c h1 h2=>
  intro z hw h'
  cases h' with
  |letter g1 g2=>rw[h2]at g1;cases g1;exact .letter h1 g2
  |pair g1=>rw[h2]at g1;cases g1
  |power g1=>rw[h2]at g1;cases g1
 |pair h1 h2 _ _ i1 i2=>
  intro z hw h'
  cases h' with
  |letter g1 g2=>rw[h2]at g1;cases g1
  |pair g1 g2 j1 j2=>rw[h2]at g1;cases g1;exact .pair h1 g2 (i1 hw j1) (i2 hw j2)
  |power g1=>rw[h2]at g1;cases g1
 |power h1 h2 _ i1=>
  intro z hw h'
  cases h' with
  |letter g1 g2=>rw[h2]at g1;cases g1
  |pair g1=>rw[h2]at g1;cases g1
  |power g1 g2 j1=>rw[h2]at g1;cases g1;exact .power h1 g2 (i1 hw j1)
def Rea.sigs {L:List Rl}(hw:Wf L){k x:Nat}(h:Rea L k x):Sig L k→Sig L x∧lvl L x≤lvl L k:=by
 induction h with
 |self h=>exact fun hs=>⟨hs,vg _⟩
 | @kid n k x r hr hk hx ih=>
  intro hs
  obtain⟨d1,d2⟩:=(hs.down2 hw hr).1 k hk
  obtain⟨i1,i2⟩:=ih d1
  exact⟨i1,oO⟩
variable {L:List Rl}{l:List Im}{ys:List Nat}
def qNe {ns:List Nat}{i:Nat}{p:List UInt8×Nat}(h:(nmA l ns)[i]?=some p):∃x,l[i]?=some x∧ns[i]?=some p.2∧p.1=x.name:=by
 unfold nmA at h;obtain⟨h1,h2⟩:=ut.1 h;rw[bi]at h1;obtain⟨x,hx,e⟩:=wo.1 h1;exact⟨x,hx,h2,e.symm⟩
def qRz {ns:List Nat}(h:ns.length=l.length):(nmA l ns).length=l.length:=by simp[nmA,h]
def nmA_snd {ns:List Nat}(h:ns.length=l.length):(nmA l ns).map (·.2)=ns:=by
 unfold nmA;exact za (by simp[h])
end
end Go.Proofs.YtlmpojkmeglepaaGreatDoor
namespace Sl
open Go Go.RowKit
variable {E:Env}{n:Nat}{L:Fr}{H H':List HP}
def ld_say {K:Value→List HP→Prop}{op:Oper}{p:HP}{φ:Prop}(ht:Take p H H')(h:∀k,p k→φ) (hw:φ→Ld E n L H op K):Ld E n L H op K:=fun Q next a w g hn=>by
 obtain⟨_,_,_,_,hp,_⟩:=ht.out g.hp.hp;exact hw (h _ hp) Q next a w g hn
end Sl
namespace Go.Proofs.YtlmpojkmeglepaaGreatDoor
open Go Go.RowKit Sl Eg
set_option maxRecDepth 10000
variable {E:Env}{Es:List Ent}{pp tb s most:Nat}
def qOs:∀(G:List Rl)(k:Nat),(∀r∈G,r.times≤1152921504606846976)→k+G.length≤1099511627776→(encG k G).length≤21*G.length
 |[],_,_,_=>ai _
 |r::G,k,h,hk=>by
  rw[ax]at hk;have h1:=(yE (k+1) oO r (h r (by simp))).2;have h2:=qOs G (k+1) (fun x hx=>h x (by simp[hx])) oO;simp only[encG,aa,ax];omega
def qOu:∀(A:List (List UInt8×Nat)),(∀p∈A,p.1.length≤1000∧p.2≤1099511627776)→(encM A).length≤1020*A.length
 |[],_=>ai _
 |p::A,h=>by
  obtain⟨h1,h2⟩:=h p (by simp);have h3:=fG (n:=p.1.length) oO;have h4:=fG (n:=p.2) oO;have h5:=qOu A (fun x hx=>h x (by simp[hx]));have e:encM (p::A)=gH p.1++(vput p.2++encM A):=qKa p A;rw[e];simp only[gH,aa,ax];omega
