import Derived.Test.YtlmpojkmeglepaaGreatDoorQ73
set_option linter.all false
set_option maxHeartbeats 1000000
namespace Go.Proofs.YtlmpojkmeglepaaGreatDoor
open Go Go.RowKit Sl Eg
set_option maxRecDepth 10000
section
variable {E:Env}{Es:List Ent}{s most:Nat}
inductive MkOk (L:List Rl)(T:List Nat):Rl→Rl→Prop where
 |letter (b:UInt8):MkOk L T (.letter b) (.letter b)
 |pair {a b x y:Nat}:T[a]?=some x→T[b]?=some y→1≤x→x≤L.length→1≤y→y≤L.length→len L x+len L y≤dC→MkOk L T (.pair a b) (.pair x y)
 |power {a k x:Nat}:T[a]?=some x→1≤x→x≤L.length→2≤k→k≤1152921504606846976→len L x*k≤dC→MkOk L T (.power a k) (.power x k)
def ct_xPut (hE:Seat E){r r':Rl}{T:List Nat}{gt ct:Nat}(hTl:T.length≤1000000)(hm:MkOk (rls Es) T r r')(hroom:Es.length<most):Ct E 89 [uPt s,.agg #[.int .i64 (Rl.kind (r):Nat),.int .u8 (Rl.byte (r):Nat),.int .i64 (Rl.left (r):Nat),.int .i64 (Rl.right (r):Nat),.int .i64 (Rl.times (r):Nat)],.slice (some ⟨gt,0,none⟩) T.length ct] [bR s most Es,sl (some ⟨gt,0,none⟩) ct 44 1 T.length (idC T)]
  (fun v Q=>∃(M:List Ent)(id:Nat),v= .tuple #[.int .i64 id,.nilIface]∧M.length≤1∧1≤id∧(rls (Es++M))[id-1]?=some r'∧Q=[bR s most (Es++M),sl (some ⟨gt,0,none⟩) ct 44 1 T.length (idC T)]):=by
 refine dX (p:=bR s most Es) uK (fun _ h=>dP h) (fun hsay=>?_);have hT100:=hTl;cases hm with
 |letter b=>
  refine bO (hE.fn Tryz.func89) O O O (fun R=>?_)
  simp only[dR,uV,uW]
  simp only[Rl.kind,Rl.byte,Rl.left,Rl.right,Rl.times]
  refine gg2 ?_
  refine uU ?_
  refine fH O (fun b4=>?_)
  refine gg24 ?_
  refine uX (qCc (s:=s) (most:=most) (Es:=Es) hE b hroom) O ?_
  rintro _ _⟨M,id,rfl,h1,h2,h3,rfl⟩
  simp only[uV,uW]
  refine gg9 ?_
  exact uZ O (.tmp O (.tmp O .nil)) ⟨M,id,O,h1,h2,h3,O⟩
 | @pair a b x y ha hb x1 x2 y1 y2 hl=>
  have hat:=(ae.1 ha).1
  have hbt:=(ae.1 hb).1
  obtain⟨x,rfl⟩:∃k,x=k+1:=⟨x-1,oO⟩
  obtain⟨y,rfl⟩:∃k,y=k+1:=⟨y-1,oO⟩
  rw[bQ]at x2 y2
  obtain⟨e1,he1⟩:∃x',Es[x]?=some x':=⟨_,ag oO⟩
  obtain⟨e2,he2⟩:∃x',Es[y]?=some x':=⟨_,ag oO⟩
  have hlen:e1.t.length+e2.t.length≤dC:=by rw[hsay.2.1 _ _ he1,hsay.2.1 _ _ he2];exact hl
  have f0:=eQ ha (((a:Nat):Int).toNat) oO
  have f1:=eQ hb (((b:Nat):Int).toNat) oO
  refine bO (hE.fn Tryz.func89) O O O (fun R=>?_)
  simp only[dR,uV,uW]
  simp only[Rl.kind,Rl.byte,Rl.left,Rl.right,Rl.times]
  refine gg2 ?_
  refine uU ?_
  refine fH O (fun b4=>?_)
  refine gg27 ?_
  refine uH ([cells b4 [.int .i64 ((2:Nat):Int),.int .u8 ((0:Nat):Int),.int .i64 (a:Nat),.int .i64 (b:Nat),.int .i64 ((0:Nat):Int)] 86,sl (some ⟨gt,0,none⟩) ct 44 1 T.length (idC T)]) ?_
  refine gg11 ?_
  apply dH 11 O oK O
  refine uC (qMl (s:=s) (most:=most) (Es:=Es) hE he1 he2 hlen hroom) O ?_
  rintro _ _⟨M,id,rfl,h1,h2,h3,rfl⟩
  simp only[uV,uW]
  refine uE ?_
  refine gg9 ?_
  exact uZ O (.tmp O (.tmp O .nil)) ⟨M,id,O,h1,h2,h3,O⟩
 | @power a k x ha x1 x2 hk hk2 hl=>
  have hat:=(ae.1 ha).1
  obtain⟨x,rfl⟩:∃k,x=k+1:=⟨x-1,oO⟩
  rw[bQ]at x2
  obtain⟨e1,he1⟩:∃x',Es[x]?=some x':=⟨_,ag oO⟩
  have hlen:e1.t.length*k≤dC:=by rw[hsay.2.1 _ _ he1];exact hl
  have f0:=eQ ha (((a:Nat):Int).toNat) oO
  refine bO (hE.fn Tryz.func89) O O O (fun R=>?_)
  simp only[dR,uV,uW]
  simp only[Rl.kind,Rl.byte,Rl.left,Rl.right,Rl.times]
  refine gg2 ?_
  refine uU ?_
  refine fH O (fun b4=>?_)
  refine gg30 ?_
  refine uH ([cells b4 [.int .i64 ((3:Nat):Int),.int .u8 ((0:Nat):Int),.int .i64 (a:Nat),.int .i64 ((0:Nat):Int),.int .i64 (k:Nat)] 86,sl (some ⟨gt,0,none⟩) ct 44 1 T.length (idC T)]) ?_
  refine gg8 ?_
  apply dH 8 O oK O
  refine uC (qAx (s:=s) (most:=most) (Es:=Es) hE he1 hk hlen hroom) O ?_
  rintro _ _⟨M,id,rfl,h1,h2,h3,rfl⟩
  simp only[uV,uW]
  refine uE ?_
  refine gg7 ?_
  exact uZ O (.tmp O (.tmp O .nil)) ⟨M,id,O,h1,h2,h3,O⟩
def ct_xAdd (hE:Seat E){r r':Rl}{T:List Nat}{gt ct:Nat}(hTl:T.length≤1000000)(hm:MkOk (rls Es) T r r')(hroom:Es.length<most):Ct E 40 [uPt s,.agg #[.int .i64 (Rl.kind (r):Nat),.int .u8 (Rl.byte (r):Nat),.int .i64 (Rl.left (r):Nat),.int .i64 (Rl.right (r):Nat),.int .i64 (Rl.times (r):Nat)],.slice (some ⟨gt,0,none⟩) T.length ct] [bR s most Es,sl (some ⟨gt,0,none⟩) ct 44 1 T.length (idC T)]
  (fun v Q=>∃(M:List Ent)(id:Nat),v= .tuple #[.int .i64 id,.nilIface]∧M.length≤1∧1≤id∧(rls (Es++M))[id-1]?=some r'∧Q=[bR s most (Es++M),sl (some ⟨gt,0,none⟩) ct 44 1 T.length (idC T)]):=by
 refine dX (p:=bR s most Es) uK (fun _ h=>dP h) (fun hsay=>?_);have hT100:=hTl;cases hm with
 |letter b=>
  refine bO (hE.fn Tryz.func40) O O O (fun R=>?_)
  simp only[dR,uV,uW]
  simp only[Rl.kind,Rl.byte,Rl.left,Rl.right,Rl.times]
  refine gg2 ?_
  refine uU ?_
  refine fH O (fun b4=>?_)
  refine gg24 ?_
  refine uX (qCc (s:=s) (most:=most) (Es:=Es) hE b hroom) O ?_
  rintro _ _⟨M,id,rfl,h1,h2,h3,rfl⟩
  simp only[uV,uW]
  refine gg9 ?_
  exact uZ O (.tmp O (.tmp O .nil)) ⟨M,id,O,h1,h2,h3,O⟩
 | @pair a b x y ha hb x1 x2 y1 y2 hl=>
  have hat:=(ae.1 ha).1
  have hbt:=(ae.1 hb).1
  obtain⟨x,rfl⟩:∃k,x=k+1:=⟨x-1,oO⟩
  obtain⟨y,rfl⟩:∃k,y=k+1:=⟨y-1,oO⟩
  rw[bQ]at x2 y2
  obtain⟨e1,he1⟩:∃x',Es[x]?=some x':=⟨_,ag oO⟩
  obtain⟨e2,he2⟩:∃x',Es[y]?=some x':=⟨_,ag oO⟩
  have hlen:e1.t.length+e2.t.length≤dC:=by rw[hsay.2.1 _ _ he1,hsay.2.1 _ _ he2];exact hl
  have f0:=eQ ha (((a:Nat):Int).toNat) oO
  have f1:=eQ hb (((b:Nat):Int).toNat) oO
  refine bO (hE.fn Tryz.func40) O O O (fun R=>?_)
  simp only[dR,uV,uW]
  simp only[Rl.kind,Rl.byte,Rl.left,Rl.right,Rl.times]
  refine gg2 ?_
  refine uU ?_
  refine fH O (fun b4=>?_)
  refine gg27 ?_
  refine uH ([cells b4 [.int .i64 ((2:Nat):Int),.int .u8 ((0:Nat):Int),.int .i64 (a:Nat),.int .i64 (b:Nat),.int .i64 ((0:Nat):Int)] 86,sl (some ⟨gt,0,none⟩) ct 44 1 T.length (idC T)]) ?_
  refine gg11 ?_
  apply dH 11 O oK O
  refine uC (qMl (s:=s) (most:=most) (Es:=Es) hE he1 he2 hlen hroom) O ?_
  rintro _ _⟨M,id,rfl,h1,h2,h3,rfl⟩
  simp only[uV,uW]
  refine uE ?_
  refine gg9 ?_
  exact uZ O (.tmp O (.tmp O .nil)) ⟨M,id,O,h1,h2,h3,O⟩
 | @power a k x ha x1 x2 hk hk2 hl=>
  have hat:=(ae.1 ha).1
  obtain⟨x,rfl⟩:∃k,x=k+1:=⟨x-1,oO⟩
  rw[bQ]at x2
  obtain⟨e1,he1⟩:∃x',Es[x]?=some x':=⟨_,ag oO⟩
  have hlen:e1.t.length*k≤dC:=by rw[hsay.2.1 _ _ he1];exact hl
  have f0:=eQ ha (((a:Nat):Int).toNat) oO
  refine bO (hE.fn Tryz.func40) O O O (fun R=>?_)
  simp only[dR,uV,uW]
  simp only[Rl.kind,Rl.byte,Rl.left,Rl.right,Rl.times]
  refine gg2 ?_
  refine uU ?_
  refine fH O (fun b4=>?_)
  refine gg30 ?_
  refine uH ([cells b4 [.int .i64 ((3:Nat):Int),.int .u8 ((0:Nat):Int),.int .i64 (a:Nat),.int .i64 ((0:Nat):Int),.int .i64 (k:Nat)] 86,sl (some ⟨gt,0,none⟩) ct 44 1 T.length (idC T)]) ?_
  refine gg8 ?_
  apply dH 8 O oK O
  refine uC (qAx (s:=s) (most:=most) (Es:=Es) hE he1 hk hlen hroom) O ?_
  rintro _ _⟨M,id,rfl,h1,h2,h3,rfl⟩
  simp only[uV,uW]
  refine uE ?_
  refine gg7 ?_
  exact uZ O (.tmp O (.tmp O .nil)) ⟨M,id,O,h1,h2,h3,O⟩
end
section
variable {E:Env}{s:Nat}
def tkL (Z:Nat→Nat)(n k:Nat):List Nat:=(List.range n).map fun j=>if j≤k then Z j else 0
def qGk (Z:Nat→Nat)(n k:Nat):(tkL Z n k).length=n:=by simp[tkL]
def tkL_zero {Z:Nat→Nat}(h:Z 0=0)(n:Nat):List.replicate n (Value.int .i64 0)=idC (tkL Z n 0):=by
 apply lm;intro i;unfold idC tkL;rw[lw,bi,ru];rcases dw i n with hi|hi
 ·rw[if_pos hi,lc hi];simp only[oZ,Function.comp];split
  ·rename_i h0
   obtain rfl:i=0:=by omega
   rw[h];rfl
  rfl
 rw[if_neg oO,fq (by simpa using hi)];rfl
def qQh {Z:Nat→Nat}{n k j:Nat}(hj:j<n)(hk:j≤k):(tkL Z n k)[j]?=some (Z j):=by
 unfold tkL;rw[bi,lc hj];simp[hk]
def tkL_set {Z:Nat→Nat}{n k:Nat}(hk:k+1<n)(o:Nat)(ho:o=k+1){v:Int}(hv:v=(Z (k+1):Nat)):bX (idC (tkL Z n k)) o (bP (.int .i64 v))=idC (tkL Z n (k+1)):=by
 subst ho hv;apply lm;intro i;simp only[bX,bP];unfold idC;rw[List.getElem?_set,gz,qGk,bi,bi];unfold tkL;rw[bi,bi];rcases dw i n with hi|hi
 ·rw[lc hi];simp only[oZ];by_cases e:k+1=i
  ·subst e;rw[if_pos rfl,if_pos hk,if_pos (ai _)]
  rw[if_neg e];by_cases h2:i≤k
  ·rw[if_pos h2,if_pos oO]
  rw[if_neg h2,if_neg oO]
 rw[if_neg oO,fq (by simpa using hi)];rfl
def imp_ok {G:List Rl}(hw:Wf G){k:Nat}{r:Rl}(hr:G[k]?=some r):MkOk (G.take k) (tkL id (G.length+1) k) r r:=by
 have hk:=(ae.1 hr).1;have hok:=hw.ok k r hr;have htl:(G.take k).length=k:=by rw[ig];omega
 have hlt:∀a,a≤k→len (G.take k) a=len G a:=fun a ha=>by
  have:=mE (L:=G.take k) (G.drop k) (i:=a) oO;rw[dz]at this;exact this.symm
 have hsh:=hw.short (k+1);cases r with
 |letter b=>exact .letter b
 |pair a b=>
  have e:=rT hr hok
  simp only[Rl.ok]at hok
  exact .pair (qQh oO oO) (qQh oO oO) hok.1 oO hok.2.2.1 oO (by rw[hlt a oO,hlt b oO];omega)
 |power a t=>
  have e:=kC hr hok
  simp only[Rl.ok]at hok
  have hp:=hw.pos a hok.1 oO
  have h2:t*1≤t*len G a:=mh _ hp
  have hmx:dC=1152921504606846976:=rfl
  exact .power (qQh oO oO) hok.1 oO hok.2.2 oO (by rw[hlt a oO,nu];omega)
def imp_next {G:List Rl}(hw:Wf G){k:Nat}{r:Rl}(hr:G[k]?=some r){Es M:List Ent}(h:rls Es=G.take k)(hM:M.length≤1){id:Nat}(h1:1≤id)(hid:(rls (Es++M))[id-1]?=some r):id=k+1∧rls (Es++M)=G.take (k+1):=by
 have hk:=(ae.1 hr).1;have htl:(G.take k).length=k:=by rw[ig];omega
 have hEl:Es.length=k:=by rw[←bQ,h,htl]
 have hnot:∀j,j<k→G[j]?≠some r:=fun j hj e=>by
  have:=hw.nodup _ _ _ e hr;omega
 rw[dB,h]at hid ⊢;rcases dw (id-1) k with hlt|hge
 ·rw[au oO,ng,if_pos hlt]at hid;exact absurd hid (hnot _ hlt)
 rw[ay oO,htl]at hid;have hl:=(ae.1 hid).1;rw[bQ]at hl;obtain⟨e,rfl⟩:∃e,M=[e]:=mq.1 oO;have h0:id-1-k=0:=by simp at hl;omega
 rw[h0]at hid;have her:e.r=r:=by simpa[rls]using hid
 refine⟨oO,?_⟩;rw[ed,hr];simp[rls,her]
structure ImG where
 k:Nat
 Es:List Ent
def qSz (hE:Seat E){G:List Rl}(hw:Wf G)(hGl:G.length≤100000){p:Option Addr}{c:Nat}:Ct E 62 [uPt s,.slice p G.length c] [bR s G.length [],sl p c 86 5 G.length (rusC G)]
  (fun v Q=>∃Es,v= .tuple #[.int .i64 (G.length:Nat),.nilIface]∧rls Es=G∧Q=[bR s G.length Es,sl p c 86 5 G.length (rusC G)]):=by
 have hml:G.length+1≤maxLen:=by unfold maxLen;omega
 refine dX (p:=sl p c 86 5 G.length (rusC G)) uK (fun _ h=>fun hpos=>eF h hpos) (fun hp=>?_);refine bO (hE.fn Tryz.func62) O O O (fun R=>?_);simp only[dR,uV,uW];refine gg25 ?_;refine dW (fun k:Nat=>[(0,uPt s),(1,.slice p G.length c),(17,.slice p G.length c),(18,.int .i64 (G.length:Nat)),(19,.int .i64 (k:Nat))]) (fun k=>[bR s G.length [],sl p c 86 5 G.length (rusC G),R]) (fun k=>G.length-k) (fun k=>k≤G.length) 0 (av _) ⟨O,O,O,O,O,trivial⟩ uI ?_;rintro k hk;refine gg6 ?_;refine bE O (fun h1=>?_) (fun h1=>?_)
 ·have hkl:k<G.length:=oO;obtain⟨g,rfl⟩:=hp oO;obtain⟨r,hr⟩:∃x,G[k]?=some x:=⟨_,ag hkl⟩;obtain⟨f0,f1,f2,f3,f4⟩:=qNm hr (0+((k:Nat):Int).toNat*5) oO;refine gg9 ?_;refine uU (dA (hE.t O) (fun b7=>?_));refine gg9 ?_;refine l_eq 26 (.int .i64 ((k+1:Nat):Int)) O (bW oO) ?_;refine uX (xD (r:=r) (n:=k+1) hE (hw.ok k r hr) oO oO) O ?_;rintro _ _⟨rfl,rfl⟩;simp only[uV,uW];refine gg17 ?_;refine bS (ι:=Nat) (j:=k+1) oO oO ⟨O,O,O,O,bg some (bW oO),trivial⟩ uI
 refine gg10 ?_;refine l_eq 34 (.int .i64 ((G.length+1:Nat):Int)) O (bW oO) ?_;refine uU ?_;refine qPe (hE.t O) (hE.t O) O oO hml (fun b35=>?_);rw[tkL_zero (Z:=id) rfl];refine gg12 ?_;refine dW (fun x:ImG=>[(0,uPt s),(1,.slice p G.length c),(9,.slice (some ⟨b35,0,none⟩) (G.length+1) (G.length+1)),(36,.slice p G.length c),(37,.int .i64 (G.length:Nat)),(38,.int .i64 (x.k:Nat))]) (fun x=>[bR s G.length x.Es,sl p c 86 5 G.length (rusC G),sl (some ⟨b35,0,none⟩) (G.length+1) 44 1 (G.length+1) (idC (tkL id (G.length+1) x.k)),R]) (fun x=>G.length-x.k) (fun x=>x.k≤G.length∧rls x.Es=G.take x.k) ⟨0,[]⟩ ⟨av _,O⟩ ⟨O,O,O,O,O,O,trivial⟩ uI ?_;clear hk h1 k;rintro⟨k,Es⟩⟨hk,hEs⟩;simp only at hk hEs ⊢;refine gg6 ?_;refine bE O (fun h1=>?_) (fun h1=>?_)
 ·have hkl:k<G.length:=oO;obtain⟨g,rfl⟩:=hp oO;obtain⟨r,hr⟩:∃x,G[k]?=some x:=⟨_,ag hkl⟩;obtain⟨f0,f1,f2,f3,f4⟩:=qNm hr (0+((k:Nat):Int).toNat*5) oO;have hmk:=imp_ok hw hr;rw[←hEs]at hmk;have hEl:Es.length=k:=by rw[←bQ,hEs,ig];omega
  have htl:=qGk id (G.length+1) k;refine gg9 ?_;refine uU (dA (hE.t O) (fun b11=>?_));refine gg9 ?_;refine l_eq 46 (.slice (some ⟨b35,0,none⟩) (tkL id (G.length+1) k).length (G.length+1)) O (by rw[htl]) ?_;refine qO (cO (p:=sl (some ⟨b35,0,none⟩) (G.length+1) 44 1 (G.length+1) (idC (tkL id (G.length+1) k))) (p':=sl (some ⟨b35,0,none⟩) (G.length+1) 44 1 (tkL id (G.length+1) k).length (idC (tkL id (G.length+1) k))) uK (fun _ h=>by rw[htl];exact h)) ?_;refine uX (ct_xPut (s:=s) (most:=G.length) (Es:=Es) (r:=r) (r':=r) (T:=tkL id (G.length+1) k) (gt:=b35) (ct:=G.length+1) hE oO hmk oO) O ?_;rintro _ _⟨M,i,rfl,hM,hi1,hid,rfl⟩;obtain⟨rfl,hEM⟩:=imp_next hw hr hEs hM hi1 hid;rw[htl];simp only[uV,uW];refine gg27 ?_;rw[tkL_set (Z:=id) (n:=G.length+1) (k:=k) (v:=((k+1:Nat):Int)) oO ((((k:Nat):Int)+1).toNat) oO rfl];refine gg4 ?_;refine bS (ι:=ImG) (j:=⟨k+1,Es++M⟩) ⟨by simp only;omega,hEM⟩ (by simp only;omega) ⟨rfl,rfl,rfl,rfl,rfl,bg some (bW (by simp only;omega)),trivial⟩ uI
 obtain rfl:k=G.length:=by omega
 rw[oU]at hEs;have hat:(tkL id (G.length+1) G.length)[G.length]?=some G.length:=qQh oO (ai _);have f5:=eQ hat (((G.length:Nat):Int).toNat) oO;refine gg17 ?_;exact uZ O (.tmp O (.tmp O .nil)) ⟨Es,O,hEs,O⟩
end
end Go.Proofs.YtlmpojkmeglepaaGreatDoor
namespace Sl
open Go Go.RowKit
variable {E:Env}{n:Nat}{L:Fr}{S:List HP}{ty:TypeId}{pos:String}{af:Array Edge}{d:Option Nat}{gd:Option (Nat×Bool)}
def qMe {x y:Operand}{t yt:TypeId}{a b:Bool}{sz:Nat}{zs:List Value}(hx:ev L x=some (.bool a))(hy:ev L y=some (.bool b))(ht:E.tab t=some ⟨.bool,sz,zs⟩):
  Yl E n L S ⟨d,.binOp .neq t x y yt,ty,pos,af,gd⟩ (.bool (a^^b)):=fun o w g _=>by
 have hu:=qQc ht;have h1:(eqGuard .neq t x y (.bool a) (.bool b)).run E.P w= .ok () w:=by unfold eqGuard;simp
 have h2:binOp .neq t (.bool a) (.bool b)=(do pure (.bool (!(←Op.equal t (.bool a) (.bool b))))):=rfl;have h3:=run_equal_bool (P:=E.P) w t a b hu;simp[execOp,h1,h2,h3,g.ev hx,g.ev hy];cases a<;>cases b<;>rfl
end Sl
namespace Go.Proofs.YtlmpojkmeglepaaGreatDoor
open Go Go.RowKit Sl Eg
set_option maxRecDepth 10000
section
variable {E:Env}{G:List Rl}
def ct_after (hE:Seat E)(hB:Base E.w0){low x y:Nat}(hl:low<1099511627776)(hx:x<P61)(hy:y<P61):Ct E 140 [.int .i64 (low:Nat),.int .u64 (x:Nat),.int .u64 (y:Nat)] [] (fun v Q=>v= .int .i64 (after low x y:Nat)∧Q=[]):=fun R w s=>by
 have hT:TabAt w:=fun j hj=>s.old_cell (hB.tab j hj)
 have:=wT low x y w hl hx hy hT;rw[←hE.P]at this;exact this.mono fun e w'⟨h1,h2⟩=>⟨_,[],h1,⟨O,O⟩,h2▸s⟩
def ct_After (hE:Seat E)(hB:Base E.w0){low x y:Nat}(hl:low≤1048576)(hx:x<P61)(hy:y<P61):Ct E 119 [.int .i64 (low:Nat),.int .u64 (x:Nat),.int .u64 (y:Nat)] [] (fun v Q=>v= .int .i64 (after low x y:Nat)∧Q=[]):=by
 refine bO (hE.fn Tryz.func119) O O O (fun R=>?_);simp only[dR,uV,uW];refine gg12 ?_;refine bE O (fun h1=>?_) (fun h1=>?_)
 ·exfalso;omega
 refine gg6 ?_;refine l_eq 10 (.int .i64 (low:Nat)) O (bW (by first |omega |simp)) ?_;refine gg2 ?_;refine uX (ct_after (low:=low) (x:=x) (y:=y) hE hB oO hx hy) O ?_;rintro _ _⟨rfl,rfl⟩;simp only[uV,uW];refine gg4 ?_;exact uZ O (.tmp O .nil) ⟨O,O⟩
def qCk (f:Nat→Value)(z:Value)(n k:Nat):List Value:=(List.range n).map fun j=>if j≤k then f j else z
def qKg (f:Nat→Value)(z:Value)(n k:Nat):(qCk f z n k).length=n:=by simp[qCk]
def qFp {f:Nat→Value}{z:Value}(h:f 0=z)(n:Nat):List.replicate n z=qCk f z n 0:=by
 apply lm;intro i;unfold qCk;rw[bi,ru];rcases dw i n with hi|hi
 ·rw[if_pos hi,lc hi];simp only[oZ];split
  ·rename_i h0
   obtain rfl:i=0:=by omega
   rw[h]
  rfl
 rw[if_neg oO,fq (by simpa using hi)];rfl
def qBe {f:Nat→Value}{z:Value}{n k j:Nat}(hj:j<n)(hk:j≤k)(o:Nat)(ho:o=j):(qCk f z n k)[o]?=some (f j):=by
 subst ho;unfold qCk;rw[bi,lc hj];simp[hk]
def qKh {f:Nat→Value}{z:Value}{n k:Nat}(hk:k+1<n)(o:Nat)(ho:o=k+1){v:Value}(hv:v=f (k+1))(hp:bP v=[v]):bX (qCk f z n k) o (bP v)=qCk f z n (k+1):=by
 rw[hp];subst ho hv;apply lm;intro i;simp only[bX];rw[List.getElem?_set,qKg];unfold qCk;rw[bi,bi];rcases dw i n with hi|hi
 ·rw[lc hi];simp only[oZ];by_cases e:k+1=i
  ·subst e;rw[if_pos rfl,if_pos hk,if_pos (ai _)]
  rw[if_neg e];by_cases h2:i≤k
  ·rw[if_pos h2,if_pos oO]
  rw[if_neg h2,if_neg oO]
 rw[if_neg oO,fq (by simpa using hi)];rfl
def lvC (G:List Rl)(k:Nat):List Value:=qCk (fun j=> .int .i64 (lvl G j)) (.int .i64 0) (G.length+1) k
def kzC (G:List Rl)(k:Nat):List Value:=qCk (fun j=> .int .u64 (key G j:Nat)) (.int .u64 0) (G.length+1) k
def qHb (hE:Seat E){i:Nat}{r:Rl}(hr:G[i]?=some r)(hGl:G.length≤100000){pb g1 c1 g2 c2 g3 c3:Nat}:Ct E 118 [uPt pb,.int .i64 ((i+1:Nat):Int)] [cells pb [.slice (some ⟨g1,0,none⟩) (G.length+1) c1,.slice (some ⟨g2,0,none⟩) (G.length+1) c2,.slice (some ⟨g3,0,none⟩) (G.length+1) c3] 151,sl (some ⟨g1,0,none⟩) c1 86 5 (G.length+1) (ruC G)] (fun v Q=>v= .int .i64 (nX r:Nat)∧Q=[cells pb [.slice (some ⟨g1,0,none⟩) (G.length+1) c1,.slice (some ⟨g2,0,none⟩) (G.length+1) c2,.slice (some ⟨g3,0,none⟩) (G.length+1) c3] 151,sl (some ⟨g1,0,none⟩) c1 86 5 (G.length+1) (ruC G)]):=by
 have hi:=(ae.1 hr).1;obtain⟨f0,f1,f2,f3,f4⟩:=qGe hr (((i+1:Nat):Int).toNat*5) oO;obtain⟨e0,e1,e2,e3,e4⟩:=qGe hr (0+((i+1:Nat):Int).toNat*5) oO;refine bO (hE.fn Tryz.func118) O O O (fun R=>?_);simp only[dR,uV,uW];refine gg19 ?_;cases r with
 |letter b=>
  simp only[Rl.kind]
  refine gg17 ?_
  exact uZ O (.tmp O .nil) ⟨O,O⟩
 |pair a b=>
  simp only[Rl.kind]
  refine gg16 ?_
  exact uZ O (.tmp O .nil) ⟨O,O⟩
 |power a t=>
  simp only[Rl.kind]
  refine gg17 ?_
  exact uZ O (.tmp O .nil) ⟨O,O⟩
end
section
variable {E:Env}{G:List Rl}
def teV (p:Bool×Bool):Value:= .agg #[.bool p.1,.bool p.2]
def Kte (G:List Rl)(K l:Nat)(f:Int→Option Value):Prop:=∀(x:Int)(v:Value),f x=some v→∃j:Nat,x=(j:Nat)∧v=teV (te G K (expd G l j))
def Kte.set {K l:Nat}{f:Int→Option Value}(h:Kte G K l f){j:Nat}{v:Value}(hv:v=teV (te G K (expd G l j))):Kte G K l (setF f (j:Nat) v):=fun x u hx=>by
 unfold setF at hx;split at hx
 ·rename_i e
  cases hx
  exact⟨j,e,hv⟩
 exact h x u hx
def qWt (hw:Wf G){K l i a b:Nat}(hr:G[i]?=some (.pair a b))(hl:(l:Int)<lvl G (i+1)):te G K (expd G l (i+1))=if(te G K (expd G l b)).2=true then((te G K (expd G l a)).1^^(te G K (expd G l b)).1,(te G K (expd G l a)).2)else te G K (expd G l b):=by
 rw[fZ hw hr hl,qQd]
def qQe (hw:Wf G){K l i a t:Nat}(hr:G[i]?=some (.power a t))(hl:(l:Int)<lvl G (i+1))(ht:1≤t):te G K (expd G l (i+1))=if(te G K (expd G l a)).2=true then(if t%2=0 then false else(te G K (expd G l a)).1,true)else te G K (expd G l a):=by
 rw[gB hw hr hl,te_rep _ _ _ _ ht]
structure EnG2 where
 b9:Nat
 f:Int→Option Value
def ct_pEnd (hE:Seat E)(hw:Wf G)(hGl:G.length≤100000){k K l pb g1 c1 g2 c2 g3 c3 bm:Nat}(hkG:k≤G.length)(hlk:∀j,1≤j→j≤k→0≤lvl G j):∀(id:Nat),1≤id→id≤k→∀(f:Int→Option Value),Kte G K l f→
  Ct E 121 [.agg #[uPt pb,.int .i64 (l:Nat),.int .u64 (K:Nat),.map (some bm)],.int .i64 (id:Nat)] [cells pb [.slice (some ⟨g1,0,none⟩) (G.length+1) c1,.slice (some ⟨g2,0,none⟩) (G.length+1) c2,.slice (some ⟨g3,0,none⟩) (G.length+1) c3] 151,sl (some ⟨g1,0,none⟩) c1 86 5 (G.length+1) (ruC G),sl (some ⟨g2,0,none⟩) c2 3 1 (G.length+1) (lvC G k),sl (some ⟨g3,0,none⟩) c3 70 1 (G.length+1) (kzC G k),mapF bm .i64 f]
   (fun v Q=>v=teV (te G K (expd G l id))∧∃f',Kte G K l f'∧Q=[cells pb [.slice (some ⟨g1,0,none⟩) (G.length+1) c1,.slice (some ⟨g2,0,none⟩) (G.length+1) c2,.slice (some ⟨g3,0,none⟩) (G.length+1) c3] 151,sl (some ⟨g1,0,none⟩) c1 86 5 (G.length+1) (ruC G),sl (some ⟨g2,0,none⟩) c2 3 1 (G.length+1) (lvC G k),sl (some ⟨g3,0,none⟩) c3 70 1 (G.length+1) (kzC G k),mapF bm .i64 f']):=by
 intro id;induction id using Nat.strongRecOn with
 |ind id ih=>
  intro hid1 hid f hf
  obtain⟨i,rfl⟩:∃i,id=i+1:=⟨id-1,oO⟩
  obtain⟨r,hr⟩:∃r,G[i]?=some r:=⟨_,ag oO⟩
  have hkl:=iG (hw.ok i r hr)
  have hLi:=hlk (i+1) hid1 hid
  have f5:(lvC G k)[((i+1:Nat):Int).toNat]?=some (.int .i64 (lvl G (i+1))):=qBe oO oO _ oO
  have f6:(kzC G k)[((i+1:Nat):Int).toNat]?=some (.int .u64 (key G (i+1):Nat)):=qBe oO oO _ oO
  obtain⟨f0,f1,f2,f3,f4⟩:=qGe hr (0+((i+1:Nat):Int).toNat*5) oO
  refine bO (hE.fn Tryz.func121) O O O (fun R=>?_)
  simp only[dR,uV,uW]
  refine gg2 ?_
  refine uU ?_
  refine fH O (fun b2=>?_)
  refine uU (dA (hE.t O) (fun b4=>?_))
  refine gg4 ?_
  refine uH ([cells b2 [uPt pb,.int .i64 (l:Nat),.int .u64 (K:Nat),.map (some bm)] 226,cells pb [.slice (some ⟨g1,0,none⟩) (G.length+1) c1,.slice (some ⟨g2,0,none⟩) (G.length+1) c2,.slice (some ⟨g3,0,none⟩) (G.length+1) c3] 151,sl (some ⟨g2,0,none⟩) c2 3 1 (G.length+1) (lvC G k)]) ?_
  refine gg13 ?_
  refine bE O (fun h1=>?_) (fun h1=>?_)
  ·have hlow:expd G l (i+1)=[i+1]:=eO oO oO
   refine gg1 ?_
   refine uH ([cells b2 [uPt pb,.int .i64 (l:Nat),.int .u64 (K:Nat),.map (some bm)] 226,cells pb [.slice (some ⟨g1,0,none⟩) (G.length+1) c1,.slice (some ⟨g2,0,none⟩) (G.length+1) c2,.slice (some ⟨g3,0,none⟩) (G.length+1) c3] 151,sl (some ⟨g3,0,none⟩) c3 70 1 (G.length+1) (kzC G k)]) ?_
   refine gg24 ?_
   apply cB
   ·rfl
   ·((apply Rs.cell rfl (hE.t rfl) rfl;(focus((repeat(first |rfl|assumption|constructor));done)));exact Rs.nil)
   ·refine⟨?_,f,hf,O⟩
    rw[hlow,te_one]
    have e:decide (((key G (i+1):Nat):Int)=(K:Nat))=decide (key G (i+1)=K):=decide_eq_decide.2 oO
    rw[e]
    rfl
   exact uI
  have hhi:(l:Int)<lvl G (i+1):=oO
  have hnl:∀b,r≠ .letter b:=fun b e=>by
   subst e;have:=(fU hr).2;omega
  have hlast:nX r∈kids r:=by
   cases r with
   |letter b=>exact absurd rfl (hnl b)
   |pair a b=>simp[nX,kids]
   |power a t=>simp[nX,kids]
  have hlr:nX r<i+1:=(hkl _ hlast).2
  have hl1:1≤nX r:=(hkl _ hlast).1
  have hl2:nX r≤k:=oO
  obtain⟨odd,whole,hp⟩:∃odd whole,te G K (expd G l (nX r))=(odd,whole):=⟨_,_,rfl⟩
  have hm1:E.P.underlying 224=some (.map 44 228):=by rw[hE.P];kernel_rfl
  have hm2:E.P.underlying 44=some (.int .i64):=by rw[hE.P];kernel_rfl
  have hm3:∀w,(zeroValue 228).run E.P w= .ok (.agg #[.bool false,.bool false]) w:=fun w=>by rw[hE.P];kernel_rfl
  refine gg8 ?_
  rcases hfi:f ((i+1:Nat):Int)with _|v0
  ·refine uB (iP hm1 hm2 hm3 O O uK hfi) ?_
   refine l_eq 40 (.tuple #[.agg #[.bool false,.bool false],.bool false]) O O ?_
   refine gg3 ?_
   refine uU (dA (hE.t O) (fun b6=>?_))
   refine gg22 ?_
   refine uU (dA (hE.t O) (fun b8=>?_))
   refine gg3 ?_
   refine kZ (fun x:EnG2=>[(1,.int .i64 ((i+1:Nat):Int)),(2,uPt b2),(4,uPt b4),(8,uPt b8),(9,.pointer (some ⟨x.b9,0,none⟩))]) (fun x=>[cells pb [.slice (some ⟨g1,0,none⟩) (G.length+1) c1,.slice (some ⟨g2,0,none⟩) (G.length+1) c2,.slice (some ⟨g3,0,none⟩) (G.length+1) c3] 151,sl (some ⟨g1,0,none⟩) c1 86 5 (G.length+1) (ruC G),sl (some ⟨g2,0,none⟩) c2 3 1 (G.length+1) (lvC G k),sl (some ⟨g3,0,none⟩) c3 70 1 (G.length+1) (kzC G k),mapF bm .i64 x.f,cells b2 [uPt pb,.int .i64 (l:Nat),.int .u64 (K:Nat),.map (some bm)] 226,cells b4 [.bool false,.bool false] 228,cells b8 [.int .i64 (Rl.kind (r):Nat),.int .u8 (Rl.byte (r):Nat),.int .i64 (Rl.left (r):Nat),.int .i64 (Rl.right (r):Nat),.int .i64 (Rl.times (r):Nat)] 86,cells x.b9 [.bool odd,.bool whole] 228,R]) (fun x=>Kte G K l x.f) ?_ ?_
   ·refine uN 7 ([cells b2 [uPt pb,.int .i64 (l:Nat),.int .u64 (K:Nat),.map (some bm)] 226]) ?_
    refine gg4 ?_
    apply xU 4 6 O O oK O O
    ·refine uC (qHb hE hr hGl) O ?_
     rintro _ _⟨rfl,rfl⟩
     simp only[uV,uW]
     refine uE ?_
     apply xU 5 6 O O oK O O
     ·refine uC (ih (nX r) hlr hl1 hl2 f hf) O ?_
      rintro _ _⟨rfl,fm,hfm,rfl⟩
      rw[hp]
      simp only[uV,uW]
      refine uE ?_
      apply dY 6 O oK O
      refine dA (hE.t O) (fun b9=>?_)
      refine uE ?_
      apply iH O oK oK O
      refine uS ?_
      refine fC (ι:=EnG2) ⟨b9,fm⟩ hfm ⟨O,O,O,O,O,trivial⟩ ?_
      exact uI
     refine dA (hE.t O) (fun b9=>?_)
     refine uE ?_
     apply dY 5 O oK O
     refine uC (ih (nX r) hlr hl1 hl2 f hf) O ?_
     rintro _ _⟨rfl,fm,hfm,rfl⟩
     rw[hp]
     simp only[uV,uW]
     refine uE ?_
     apply iH O oK oK O
     refine uS ?_
     refine fC (ι:=EnG2) ⟨b9,fm⟩ hfm ⟨O,O,O,O,O,trivial⟩ ?_
     exact uI
    refine dA (hE.t O) (fun b9=>?_)
    refine uE ?_
    apply dY 4 O oK O
    refine uC (qHb hE hr hGl) O ?_
    rintro _ _⟨rfl,rfl⟩
    simp only[uV,uW]
    refine uE ?_
    apply dY 5 O oK O
    refine uC (ih (nX r) hlr hl1 hl2 f hf) O ?_
    rintro _ _⟨rfl,fm,hfm,rfl⟩
    rw[hp]
    simp only[uV,uW]
    refine uE ?_
    apply iH O oK oK O
    refine uS ?_
    refine fC (ι:=EnG2) ⟨b9,fm⟩ hfm ⟨O,O,O,O,O,trivial⟩ ?_
    exact uI
   rintro⟨b9,fm⟩hfm
   simp only at hfm ⊢
   refine gg10 ?_
   cases whole with
   |false=>
    have he:te G K (expd G l (i+1))=(odd,false):=by
     cases r with
     |letter b=>exact absurd rfl (hnl b)
     |pair a b=>
      have hp':te G K (expd G l b)=(odd,false):=hp
      rw[qWt hw hr hhi,hp'];rfl
     |power a t=>
      have hp':te G K (expd G l a)=(odd,false):=hp
      rw[qQe hw hr hhi (by have:=(hw.ok _ _ hr).2.2;omega),hp'];rfl
    refine gg10 ?_
    refine uU ?_
    apply jT (kt:=44) (et:=228) (by rw[hE.P];kernel_rfl) (by rw[hE.P];kernel_rfl) O O O
    ·exact uK
    refine gg9 ?_
    apply cB
    ·rfl
    ·((apply Rs.cell rfl (hE.t rfl) rfl;(focus((repeat(first |rfl|assumption|constructor));done)));exact Rs.nil)
    ·exact⟨by rw[he];rfl,setF fm ((i+1:Nat):Int) (teV (odd,false)),hfm.set (j:=i+1) (by rw[he]),rfl⟩
    exact uI
   |true=>
    refine gg9 ?_
    cases r with
    |letter b=>exact absurd rfl (hnl b)
    |pair a b=>
     simp only[Rl.kind,Rl.byte,Rl.left,Rl.right,Rl.times]
     have ha:=hkl a (by simp[kids])
     obtain⟨o2,w2,hp2⟩:∃odd whole,te G K (expd G l a)=(odd,whole):=⟨_,_,rfl⟩
     have he:te G K (expd G l (i+1))=(odd^^o2,w2):=by
      have hp':te G K (expd G l b)=(odd,true):=hp;rw[qWt hw hr hhi,hp',hp2,Bool.xor_comm];rfl
     refine gg6 ?_
     refine uX (ih a ha.2 ha.1 oO fm hfm) O ?_
     rintro _ _⟨rfl,fm2,hfm2,rfl⟩
     rw[hp2]
     simp only[uV,uW]
     refine uU (dA (hE.t O) (fun b10=>?_))
     refine gg8 ?_
     refine uB (qMe O O (hE.t O)) ?_
     refine gg13 ?_
     refine uU ?_
     apply jT (kt:=44) (et:=228) (by rw[hE.P];kernel_rfl) (by rw[hE.P];kernel_rfl) O O O
     ·exact uK
     refine gg9 ?_
     apply cB
     ·rfl
     ·((apply Rs.cell rfl (hE.t rfl) rfl;(focus((repeat(first |rfl|assumption|constructor));done)));exact Rs.nil)
     ·exact⟨by rw[he];rfl,setF fm2 ((i+1:Nat):Int) (teV (odd^^o2,w2)),hfm2.set (j:=i+1) (by rw[he]),rfl⟩
     exact uI
    |power a t=>
     simp only[Rl.kind,Rl.byte,Rl.left,Rl.right,Rl.times]
     have htp:=qQe hw (K:=K) hr hhi (by have:=(hw.ok _ _ hr).2.2;omega)
     have hp':te G K (expd G l a)=(odd,true):=hp
     rw[hp']at htp
     refine gg10 ?_
     refine bE O (fun h2=>?_) (fun h2=>?_)
     ·have he:te G K (expd G l (i+1))=(false,true):=by rw[htp,if_pos rfl,if_pos oO]
      refine gg12 ?_
      refine uU ?_
      apply jT (kt:=44) (et:=228) (by rw[hE.P];kernel_rfl) (by rw[hE.P];kernel_rfl) O O O
      ·exact uK
      refine gg9 ?_
      apply cB
      ·rfl
      ·((apply Rs.cell rfl (hE.t rfl) rfl;(focus((repeat(first |rfl|assumption|constructor));done)));exact Rs.nil)
      ·exact⟨by rw[he];rfl,setF fm ((i+1:Nat):Int) (teV (false,true)),hfm.set (j:=i+1) (by rw[he]),rfl⟩
      exact uI
     have he:te G K (expd G l (i+1))=(odd,true):=by rw[htp,if_pos rfl,if_neg oO]
     refine gg9 ?_
     refine uU ?_
     apply jT (kt:=44) (et:=228) (by rw[hE.P];kernel_rfl) (by rw[hE.P];kernel_rfl) O O O
     ·exact uK
     refine gg9 ?_
     apply cB
     ·rfl
     ·((apply Rs.cell rfl (hE.t rfl) rfl;(focus((repeat(first |rfl|assumption|constructor));done)));exact Rs.nil)
     ·exact⟨by rw[he];rfl,setF fm ((i+1:Nat):Int) (teV (odd,true)),hfm.set (j:=i+1) (by rw[he]),rfl⟩
     exact uI
  obtain⟨j,hj,rfl⟩:=hf _ _ hfi
  obtain rfl:j=i+1:=by omega
  refine uB (iP hm1 hm2 hm3 O O uK hfi) ?_
  refine l_eq 40 (.tuple #[.agg #[.bool (te G K (expd G l (i+1))).1,.bool (te G K (expd G l (i+1))).2],.bool true]) O O ?_
  refine gg3 ?_
  refine uU (dA (hE.t O) (fun b6=>?_))
  refine gg18 ?_
  apply cB
  ·rfl
  ·((apply Rs.cell rfl (hE.t rfl) rfl;(focus((repeat(first |rfl|assumption|constructor));done)));exact Rs.nil)
  ·exact⟨O,f,hf,O⟩
  exact uI
end
section
variable {E:Env}{G:List Rl}
structure ApdG where
 a:Nat
 b:Nat
 h:Nat
def qVa {x y:Int}(hx:0≤x):∃n:Nat,(n:Int)=max x y:=⟨(max x y).toNat,Int.toNat_of_nonneg (Int.le_trans hx (xk _ _))⟩
def max_if (x y:Int):(if x<y then y else x)=max x y:=by
 rw[Int.max_def];split
 ·rw[if_pos oO]
 split
 ·omega
 rfl
def ApdI (G:List Rl)(k left right:Nat)(x:ApdG):Prop:=(1≤x.a∧x.a≤k)∧(1≤x.b∧x.b≤k)∧(x.h:Int)=max (lvl G x.a) (lvl G x.b)∧(expd G x.h left).getLast?=some x.a∧(expd G x.h right).head?=some x.b∧(x.h:Int)≤max (lvl G left) (lvl G right)
def qJu (hE:Seat E)(hB:Base E.w0)(hw:Wf G)(hGl:G.length≤100000){k left right pb g1 c1 g2 c2 g3 c3:Nat}(hkG:k≤G.length)(hlk:∀j,1≤j→j≤k→0≤lvl G j∧lvl G j≤1048576) (hL:1≤left∧left≤k) (hR:1≤right∧right≤k) (hs:Sig G left) (hn:Nb G left right):
  Ct E 91 [uPt pb,.int .i64 (left:Nat),.int .i64 (right:Nat)] [cells pb [.slice (some ⟨g1,0,none⟩) (G.length+1) c1,.slice (some ⟨g2,0,none⟩) (G.length+1) c2,.slice (some ⟨g3,0,none⟩) (G.length+1) c3] 151,sl (some ⟨g1,0,none⟩) c1 86 5 (G.length+1) (ruC G),sl (some ⟨g2,0,none⟩) c2 3 1 (G.length+1) (lvC G k),sl (some ⟨g3,0,none⟩) c3 70 1 (G.length+1) (kzC G k)] (fun v Q=>v= .bool true∧Q=[cells pb [.slice (some ⟨g1,0,none⟩) (G.length+1) c1,.slice (some ⟨g2,0,none⟩) (G.length+1) c2,.slice (some ⟨g3,0,none⟩) (G.length+1) c3] 151,sl (some ⟨g1,0,none⟩) c1 86 5 (G.length+1) (ruC G),sl (some ⟨g2,0,none⟩) c2 3 1 (G.length+1) (lvC G k),sl (some ⟨g3,0,none⟩) c3 70 1 (G.length+1) (kzC G k)]):=by
 have lvat:∀j,1≤j→j≤k→(lvC G k)[((j:Nat):Int).toNat]?=some (.int .i64 (lvl G j)):=fun j h1 h2=>qBe oO h2 _ oO
 have kyat:∀j,1≤j→j≤k→(kzC G k)[((j:Nat):Int).toNat]?=some (.int .u64 (key G j:Nat)):=fun j h1 h2=>qBe oO h2 _ oO
 have hfld:∀gs g,E.P.underlying 228=some (.struct gs)→gs[0]?=some g→g.type=4:=fun gs g h1 h2=>by
  have h3:(match E.P.underlying 228 with |some (.struct gs)=>gs[0]?.map (·.type)|_=>none)=some 4:=by rw[hE.P];kernel_rfl
  rw[h1]at h3;simp only[h2,oZ]at h3;exact oH h3
 have hlkL:=hlk left hL.1 hL.2;have hlkR:=hlk right hR.1 hR.2;have f0:=lvat left hL.1 hL.2;have f1:=lvat right hR.1 hR.2;obtain⟨h0,hh0⟩:=qVa (y:=lvl G right) hlkL.1;have hle1:lvl G left≤(h0:Nat):=by rw[hh0];exact xk _ _
 have hle2:lvl G right≤(h0:Nat):=by rw[hh0];exact ze _ _
 refine bO (hE.fn Tryz.func91) O O O (fun R=>?_);simp only[dR,uV,uW];refine gg14 ?_;refine uH ([cells pb [.slice (some ⟨g1,0,none⟩) (G.length+1) c1,.slice (some ⟨g2,0,none⟩) (G.length+1) c2,.slice (some ⟨g3,0,none⟩) (G.length+1) c3] 151,sl (some ⟨g2,0,none⟩) c2 3 1 (G.length+1) (lvC G k)]) ?_;refine gg20 ?_;refine dW (fun x:ApdG=>[(0,uPt pb),(1,.int .i64 (left:Nat)),(7,.int .i64 (x.a:Nat)),(8,.int .i64 (x.b:Nat)),(9,.int .i64 (x.h:Nat))]) (fun x=>[cells pb [.slice (some ⟨g1,0,none⟩) (G.length+1) c1,.slice (some ⟨g2,0,none⟩) (G.length+1) c2,.slice (some ⟨g3,0,none⟩) (G.length+1) c3] 151,sl (some ⟨g1,0,none⟩) c1 86 5 (G.length+1) (ruC G),sl (some ⟨g2,0,none⟩) c2 3 1 (G.length+1) (lvC G k),sl (some ⟨g3,0,none⟩) c3 70 1 (G.length+1) (kzC G k),R]) (fun x=>x.h) (ApdI G k left right) ⟨left,right,h0⟩ ⟨hL,hR,hh0,by simp only;rw[eO hL.1 hle1];rfl,by simp only;rw[eO hR.1 hle2];rfl,by simp only;omega⟩ ⟨rfl,rfl,rfl,rfl,bg some (bW ((max_if _ _).trans hh0.symm)),trivial⟩ uI ?_;clear f0 f1 hle1 hle2 hh0 h0;rintro⟨a,b,h⟩hI;obtain⟨ha,hb,hh,hla,hhb,hhm⟩:=hI;simp only at ha hb hh hla hhb hhm ⊢;have hla1:=hlk a ha.1 ha.2;have hlb1:=hlk b hb.1 hb.2;have hle1:lvl G a≤(h:Nat):=by rw[hh];exact xk _ _
 have hle2:lvl G b≤(h:Nat):=by rw[hh];exact ze _ _
 have f0:=lvat a ha.1 ha.2;have f1:=lvat b hb.1 hb.2;refine gg7 ?_;refine bE O (fun h1=>?_) (fun h1=>?_)
 ·have hh1:1≤h:=oO;obtain⟨na,rfl⟩:∃n,a=n+1:=⟨a-1,oO⟩;obtain⟨nb,rfl⟩:∃n,b=n+1:=⟨b-1,oO⟩;obtain⟨ra,hra⟩:∃r,G[na]?=some r:=⟨_,ag oO⟩;obtain⟨rb,hrb⟩:∃r,G[nb]?=some r:=⟨_,ag oO⟩;refine gg3 ?_;refine kZ (fun u:Nat=>[(0,uPt pb),(1,.int .i64 (left:Nat)),(7,.int .i64 (u:Nat)),(8,.int .i64 ((nb+1:Nat):Int)),(9,.int .i64 (h:Nat))]) (fun _=>[cells pb [.slice (some ⟨g1,0,none⟩) (G.length+1) c1,.slice (some ⟨g2,0,none⟩) (G.length+1) c2,.slice (some ⟨g3,0,none⟩) (G.length+1) c3] 151,sl (some ⟨g1,0,none⟩) c1 86 5 (G.length+1) (ruC G),sl (some ⟨g2,0,none⟩) c2 3 1 (G.length+1) (lvC G k),sl (some ⟨g3,0,none⟩) c3 70 1 (G.length+1) (kzC G k),R]) (fun u=>(1≤u∧u≤k)∧(expd G (h-1) left).getLast?=some u∧0≤lvl G u∧lvl G u<(h:Nat)) ?_ ?_
  ·refine gg13 ?_;refine bE O (fun h2=>?_) (fun h2=>?_)
   ·have hd:=qJy hw hra (h:=h) oO hh1;have hel:=(qBd hw (l:=h-1) (m:=h) (A:=left) oO oO hla ⟨ha.1,oO⟩).1
    have hkl:=iG (hw.ok na ra hra) (nX ra) (by
     cases ra with
     |letter b=>have:=hd.2.2.1;simp[nX]at this
     |pair a b=>simp[nX,kids]
     |power a t=>simp[nX,kids])
    refine gg3 ?_;refine uX (qHb hE hra hGl) O ?_;rintro _ _⟨rfl,rfl⟩;simp only[uV,uW];refine gg2 ?_;refine fC (ι:=Nat) (nX ra) ⟨⟨hd.2.2.1,oO⟩,by rw[hel];exact hd.1,hd.2.2.2.2.2.2.1,hd.2.2.2.2.2.2.2.1⟩ ⟨rfl,rfl,rfl,rfl,rfl,trivial⟩ uI
   refine gg1 ?_;have hel:=(qBd hw (l:=h-1) (m:=h) (A:=left) oO oO hla ⟨ha.1,oO⟩).2 oO;refine fC (ι:=Nat) (na+1) ⟨ha,hel,hla1.1,oO⟩ ⟨O,O,O,O,O,trivial⟩ uI
  rintro u⟨hu,hul,hu0,huh⟩;obtain⟨e0,e1,e2,e3,e4⟩:=qGe hrb (((nb+1:Nat):Int).toNat*5) oO;obtain⟨d0,d1,d2,d3,d4⟩:=qGe hrb (0+((nb+1:Nat):Int).toNat*5) oO;refine kZ (fun v:Nat=>[(0,uPt pb),(1,.int .i64 (left:Nat)),(7,.int .i64 (u:Nat)),(8,.int .i64 (v:Nat)),(9,.int .i64 (h:Nat))]) (fun _=>[cells pb [.slice (some ⟨g1,0,none⟩) (G.length+1) c1,.slice (some ⟨g2,0,none⟩) (G.length+1) c2,.slice (some ⟨g3,0,none⟩) (G.length+1) c3] 151,sl (some ⟨g1,0,none⟩) c1 86 5 (G.length+1) (ruC G),sl (some ⟨g2,0,none⟩) c2 3 1 (G.length+1) (lvC G k),sl (some ⟨g3,0,none⟩) c3 70 1 (G.length+1) (kzC G k),R]) (fun v=>(1≤v∧v≤k)∧(expd G (h-1) right).head?=some v∧0≤lvl G v∧lvl G v<(h:Nat)) ?_ ?_
  ·refine gg13 ?_;refine bE O (fun h2=>?_) (fun h2=>?_)
   ·have hd:=qJy hw hrb (h:=h) oO hh1;have hel:=(qBc hw (l:=h-1) (m:=h) (A:=right) oO oO hhb ⟨hb.1,oO⟩).1
    have hkl:=iG (hw.ok nb rb hrb) rb.left (by
     cases rb with
     |letter b=>have:=hd.2.2.2.2.1;simp[Rl.left]at this
     |pair a b=>simp[Rl.left,kids]
     |power a t=>simp[Rl.left,kids])
    refine gg11 ?_;refine fC (ι:=Nat) rb.left ⟨⟨hd.2.2.2.2.1,oO⟩,by rw[hel];exact hd.2.1,hd.2.2.2.2.2.2.2.2.1,hd.2.2.2.2.2.2.2.2.2⟩ ⟨rfl,rfl,rfl,rfl,rfl,trivial⟩ uI
   refine gg1 ?_;have hel:=(qBc hw (l:=h-1) (m:=h) (A:=right) oO oO hhb ⟨hb.1,oO⟩).2 oO;refine fC (ι:=Nat) (nb+1) ⟨hb,hel,hlb1.1,oO⟩ ⟨O,O,O,O,O,trivial⟩ uI
  rintro v⟨hv,hvl,hv0,hvh⟩;clear e0 e1 e2 e3 e4 d0 d1 d2 d3 d4 f0 f1;obtain⟨st1,st2,st3⟩:=nb_step hw hs hn hh1 hhm hul hvl;have g0:=lvat u hu.1 hu.2;have g4:=lvat v hv.1 hv.2;have g5:=kyat u hu.1 hu.2;have g6:=kyat v hv.1 hv.2;have hub:=(hlk u hu.1 hu.2).2;have hvb:=(hlk v hv.1 hv.2).2;obtain⟨low,hlow⟩:=qVa (y:=lvl G v) hu0;have hlw1:lvl G u≤(low:Nat):=by rw[hlow];exact xk _ _
  have hlw2:lvl G v≤(low:Nat):=by rw[hlow];exact ze _ _
  have hlw3:(low:Int)<(h:Nat):=by rw[hlow];exact Int.max_lt.2 ⟨huh,hvh⟩
  have hlw4:low≤1048576:=by
   have:(low:Int)≤1048576:=(by rw[hlow];exact Int.max_le.2 ⟨hub,hvb⟩);omega
  have haft:after low (key G u) (key G v)=aft G u v:=by
   unfold aft;congr 1;omega
  have hAb:=qOa (low:=low) (iU hw u) (iU hw v);have hAe:=vC low (key G u) (key G v);rw[haft]at hAb hAe;have hnext:ApdI G k left right ⟨u,v,low⟩:=⟨hu,hv,hlow,(qBd hw (l:=low) (m:=h-1) (A:=left) oO oO hul ⟨hu.1,oO⟩).2 hlw1,(qBc hw (l:=low) (m:=h-1) (A:=right) oO oO hvl ⟨hv.1,oO⟩).2 hlw2,by simp only;omega⟩;refine gg1 ?_;refine uH ([cells pb [.slice (some ⟨g1,0,none⟩) (G.length+1) c1,.slice (some ⟨g2,0,none⟩) (G.length+1) c2,.slice (some ⟨g3,0,none⟩) (G.length+1) c3] 151,sl (some ⟨g2,0,none⟩) c2 3 1 (G.length+1) (lvC G k)]) ?_;refine gg18 ?_;refine w_eq 10 (.int .i64 (low:Nat)) O (bW ((max_if _ _).trans hlow.symm)) ?_;refine gg8 ?_;refine bE O (fun d9=>?_) (fun d9=>?_)
  ·exact absurd (show u=v by omega) st1
  refine gg3 ?_;refine uH ([cells pb [.slice (some ⟨g1,0,none⟩) (G.length+1) c1,.slice (some ⟨g2,0,none⟩) (G.length+1) c2,.slice (some ⟨g3,0,none⟩) (G.length+1) c3] 151,sl (some ⟨g3,0,none⟩) c3 70 1 (G.length+1) (kzC G k)]) ?_;refine gg15 ?_;apply dH 15 O oK O;refine uC (ct_After hE hB hlw4 (iU hw u) (iU hw v)) O ?_;rintro _ _⟨rfl,rfl⟩;simp only[uV,uW];rw[haft];refine uE ?_;refine gg9 ?_;refine dS 100 O (fun d8=>?_) (fun d8=>?_)
  ·refine gg9 ?_;refine bE O (fun d7=>?_) (fun d7=>?_)
   ·have hAh:aft G u v=h:=oO;obtain⟨n1,n2⟩:=st3 hAh;have hl122:lnum (aft G u v)=122:=by rw[hAh];exact n1
    refine gg3 ?_;refine uX (rA (l:=aft G u v) hE oO hAe oO hl122) O ?_;rintro _ _⟨rfl,rfl⟩;simp only[uV,uW];refine gg24 ?_;refine l_eq 115 (.int .i64 ((h-1:Nat):Int)) O (bW oO) ?_;refine gg7 ?_;refine uU ?_;refine tF .i64 (fun b123=>?_);refine gg1 ?_;refine uU (dA (hE.t O) (fun b15=>?_));refine gg7 ?_;refine uX (ct_pEnd (K:=key G u) (l:=h-1) hE hw hGl hkG (fun j h1 h2=>(hlk j h1 h2).1) left hL.1 hL.2 (fun _=>none) (fun x v hx=>by cases hx)) rfl ?_;rintro _ _⟨rfl,fm,hfm,rfl⟩;have n2':(te G (key G u) (expd G (h-1) left)).1=false:=n2;simp only[uV,uW];refine uB (qEj (v:= .bool false) (cs:=[.bool (te G (key G u) (expd G (h-1) left)).1,.bool (te G (key G u) (expd G (h-1) left)).2]) O (hE.t O) O hfld (hE.t O) O (bg (fun b=>some (Value.bool b)) n2')) ?_;refine gg10 ?_;refine bS (ι:=ApdG) (j:=⟨u,v,low⟩) hnext (by simp only;omega) ⟨O,O,O,O,O,trivial⟩ uI
   refine gg7 ?_;refine bS (ι:=ApdG) (j:=⟨u,v,low⟩) hnext (by simp only;omega) ⟨O,O,O,O,O,trivial⟩ uI
  exact absurd (show ¬((aft G u v:Nat):Int)=0 by omega) d8
 refine gg11 ?_;exact uZ O (.tmp O .nil) ⟨O,O⟩
end
section
variable {E:Env}{G:List Rl}
def qTq (hE:Seat E)(hB:Base E.w0)(hw:Wf G)(hGl:G.length≤100000){k pb g1 c1 g2 c2 g3 c3:Nat}{r:Rl}(hkG:k<G.length)(hlk:∀j,1≤j→j≤k+1→0≤lvl G j∧lvl G j≤1048576) (hr:G[k]?=some r) (hs:Sig G (k+1)):
  Ct E 65 [uPt pb,.agg #[.int .i64 (Rl.kind (r):Nat),.int .u8 (Rl.byte (r):Nat),.int .i64 (Rl.left (r):Nat),.int .i64 (Rl.right (r):Nat),.int .i64 (Rl.times (r):Nat)]] [cells pb [.slice (some ⟨g1,0,none⟩) (G.length+1) c1,.slice (some ⟨g2,0,none⟩) (G.length+1) c2,.slice (some ⟨g3,0,none⟩) (G.length+1) c3] 151,sl (some ⟨g1,0,none⟩) c1 86 5 (G.length+1) (ruC G),sl (some ⟨g2,0,none⟩) c2 3 1 (G.length+1) (lvC G (k+1)),sl (some ⟨g3,0,none⟩) c3 70 1 (G.length+1) (kzC G (k+1))] (fun v Q=>v= .bool true∧Q=[cells pb [.slice (some ⟨g1,0,none⟩) (G.length+1) c1,.slice (some ⟨g2,0,none⟩) (G.length+1) c2,.slice (some ⟨g3,0,none⟩) (G.length+1) c3] 151,sl (some ⟨g1,0,none⟩) c1 86 5 (G.length+1) (ruC G),sl (some ⟨g2,0,none⟩) c2 3 1 (G.length+1) (lvC G (k+1)),sl (some ⟨g3,0,none⟩) c3 70 1 (G.length+1) (kzC G (k+1))]):=by
 obtain⟨d1,d2,d3⟩:=hs.down2 hw hr;have hkl:=iG (hw.ok k r hr);cases r with
 |letter b=>
  refine bO (hE.fn Tryz.func65) O O O (fun R=>?_)
  simp only[dR,uV,uW]
  simp only[Rl.kind,Rl.byte,Rl.left,Rl.right,Rl.times]
  refine gg2 ?_
  refine uU ?_
  refine fH O (fun b3=>?_)
  refine gg34 ?_
  exact uZ O (.tmp O .nil) ⟨O,O⟩
 |pair a b=>
  have ha:=hkl a (by simp[kids])
  have hb:=hkl b (by simp[kids])
  refine bO (hE.fn Tryz.func65) O O O (fun R=>?_)
  simp only[dR,uV,uW]
  simp only[Rl.kind,Rl.byte,Rl.left,Rl.right,Rl.times]
  refine gg2 ?_
  refine uU ?_
  refine fH O (fun b3=>?_)
  refine gg25 ?_
  refine uX (qJu (k:=k+1) hE hB hw hGl oO hlk ⟨ha.1,oO⟩ ⟨hb.1,oO⟩ (d1 a (by simp[kids])).1 (d2 a b O)) O ?_
  rintro _ _⟨rfl,rfl⟩
  simp only[uV,uW]
  refine gg6 ?_
  exact uZ O (.tmp O .nil) ⟨O,O⟩
 |power a t=>
  have ha:=hkl a (by simp[kids])
  refine bO (hE.fn Tryz.func65) O O O (fun R=>?_)
  simp only[dR,uV,uW]
  simp only[Rl.kind,Rl.byte,Rl.left,Rl.right,Rl.times]
  refine gg2 ?_
  refine uU ?_
  refine fH O (fun b3=>?_)
  refine gg32 ?_
  refine uX (qJu (k:=k+1) hE hB hw hGl oO hlk ⟨ha.1,oO⟩ ⟨ha.1,oO⟩ (d1 a (by simp[kids])).1 (d3 a t O)) O ?_
  rintro _ _⟨rfl,rfl⟩
  simp only[uV,uW]
  refine gg6 ?_
  exact uZ O (.tmp O .nil) ⟨O,O⟩
end
