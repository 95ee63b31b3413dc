import Derived.Test.YtejcjelmpbkcbaaGreatDoorQ72
set_option linter.all false
set_option maxHeartbeats 1000000
namespace Go.Proofs.YtejcjelmpbkcbaaGreatDoor
open Go Go.RowKit Sl Eg
set_option maxRecDepth 10000
section
variable {E:Env}
def nmI (A:List (List UInt8×Nat)):List (List UInt8×Int):=A.map fun p=>(p.1,(p.2:Int))
end
section
variable {E:Env}{Es:List Ent}{s most:Nat}
inductive MkOk (L:List Rl)(T:List Nat):Rl->Rl->Prop where
 |letter (b:UInt8):MkOk L T (.letter b) (.letter b)
 |pair {a b x y:Nat}:T[a]?=some x->T[b]?=some y->1<=x->x<=L.length->1<=y->y<=L.length->len L x+len L y<=dC->MkOk L T (.pair a b) (.pair x y)
 |power {a k x:Nat}:T[a]?=some x->1<=x->x<=L.length->2<=k->k<=1152921504606846976->len L x*k<=dC->MkOk L T (.power a k) (.power x k)
def ct_xPut (hE:Seat E){r r':Rl}{T:List Nat}{gt ct:Nat}(hTl:T.length<=1000000)(hm:MkOk (rls Es) T r r')(hroom:Es.length<most):Ct E 124 [uPt s,.agg #[.int .i64 (Rl.kind (r):Nat),.int .u8 (Rl.byte (r):Nat),.int .i64 (Rl.left (r):Nat),.int .i64 (Rl.right (r):Nat),.int .i64 (Rl.times (r):Nat)],.slice (some ⟨gt,0,none⟩) T.length ct] [bR s most Es,sl (some ⟨gt,0,none⟩) ct 56 1 T.length (idC T)]
  (fun v Q=>∃(M:List Ent)(id:Nat),v= .tuple #[.int .i64 id,.nilIface]/\M.length<=1/\1<=id/\(rls (Es++M))[id-1]?=some r'/\Q=[bR s most (Es++M),sl (some ⟨gt,0,none⟩) ct 56 1 T.length (idC T)]):=by
 refine dW (p:=bR s most Es) uK (fun _ h=>dP h) (fun hsay=>?_);have hT100:=hTl;cases hm with
 |letter b=>
  refine bO (hE.fn Tryz.func124) O O O (fun R=>?_)
  simp only[dQ,uV,uW]
  simp only[Rl.kind,Rl.byte,Rl.left,Rl.right,Rl.times]
  refine gg2 ?_
  refine uU ?_
  refine gW O (fun b4=>?_)
  refine gg24 ?_
  refine uX (qKj (s:=s) (most:=most) (Es:=Es) hE b hroom) O ?_
  rintro _ _⟨M,id,rfl,h1,h2,h3,rfl⟩
  simp only[uV,uW]
  refine gg9 ?_
  exact uZ O (.tmp O (.tmp O .nil)) ⟨M,id,O,h1,h2,h3,O⟩
 | @pair a b x y ha hb x1 x2 y1 y2 hl=>
  have hat:=(ag.1 ha).1
  have hbt:=(ag.1 hb).1
  obtain⟨x,rfl⟩:∃k,x=k+1:=⟨x-1,oO⟩
  obtain⟨y,rfl⟩:∃k,y=k+1:=⟨y-1,oO⟩
  rw[bQ]at x2 y2
  obtain⟨e1,he1⟩:∃x',Es[x]?=some x':=⟨_,ah oO⟩
  obtain⟨e2,he2⟩:∃x',Es[y]?=some x':=⟨_,ah oO⟩
  have hlen:e1.t.length+e2.t.length<=dC:=by rw[hsay.2.1 _ _ he1,hsay.2.1 _ _ he2];exact hl
  have f0:=eF ha (((a:Nat):Int).toNat) oO
  have f1:=eF hb (((b:Nat):Int).toNat) oO
  refine bO (hE.fn Tryz.func124) O O O (fun R=>?_)
  simp only[dQ,uV,uW]
  simp only[Rl.kind,Rl.byte,Rl.left,Rl.right,Rl.times]
  refine gg2 ?_
  refine uU ?_
  refine gW O (fun b4=>?_)
  refine gg27 ?_
  refine uH ([cells b4 [.int .i64 ((2:Nat):Int),.int .u8 ((0:Nat):Int),.int .i64 (a:Nat),.int .i64 (b:Nat),.int .i64 ((0:Nat):Int)] 141,sl (some ⟨gt,0,none⟩) ct 56 1 T.length (idC T)]) ?_
  refine gg11 ?_
  apply dH 11 O oK O
  refine uC (qUt (s:=s) (most:=most) (Es:=Es) hE he1 he2 hlen hroom) O ?_
  rintro _ _⟨M,id,rfl,h1,h2,h3,rfl⟩
  simp only[uV,uW]
  refine uE ?_
  refine gg9 ?_
  exact uZ O (.tmp O (.tmp O .nil)) ⟨M,id,O,h1,h2,h3,O⟩
 | @power a k x ha x1 x2 hk hk2 hl=>
  have hat:=(ag.1 ha).1
  obtain⟨x,rfl⟩:∃k,x=k+1:=⟨x-1,oO⟩
  rw[bQ]at x2
  obtain⟨e1,he1⟩:∃x',Es[x]?=some x':=⟨_,ah oO⟩
  have hlen:e1.t.length*k<=dC:=by rw[hsay.2.1 _ _ he1];exact hl
  have f0:=eF ha (((a:Nat):Int).toNat) oO
  refine bO (hE.fn Tryz.func124) O O O (fun R=>?_)
  simp only[dQ,uV,uW]
  simp only[Rl.kind,Rl.byte,Rl.left,Rl.right,Rl.times]
  refine gg2 ?_
  refine uU ?_
  refine gW O (fun b4=>?_)
  refine gg30 ?_
  refine uH ([cells b4 [.int .i64 ((3:Nat):Int),.int .u8 ((0:Nat):Int),.int .i64 (a:Nat),.int .i64 ((0:Nat):Int),.int .i64 (k:Nat)] 141,sl (some ⟨gt,0,none⟩) ct 56 1 T.length (idC T)]) ?_
  refine gg8 ?_
  apply dH 8 O oK O
  refine uC (qHk (s:=s) (most:=most) (Es:=Es) hE he1 hk hlen hroom) O ?_
  rintro _ _⟨M,id,rfl,h1,h2,h3,rfl⟩
  simp only[uV,uW]
  refine uE ?_
  refine gg7 ?_
  exact uZ O (.tmp O (.tmp O .nil)) ⟨M,id,O,h1,h2,h3,O⟩
end
section
variable {E:Env}{s:Nat}
def tkL (Z:Nat->Nat)(n k:Nat):List Nat:=(List.range n).map fun j=>if j<=k then Z j else 0
def qGq (Z:Nat->Nat)(n k:Nat):(tkL Z n k).length=n:=by simp[tkL]
def tkL_zero {Z:Nat->Nat}(h:Z 0=0)(n:Nat):List.replicate n (Value.int .i64 0)=idC (tkL Z n 0):=by
 apply kz;intro i;unfold idC tkL;rw[nz,bu,oo];rcases ed i n with hi|hi
 ·rw[if_pos hi,lu hi];simp only[ru,Function.comp];split
  ·rename_i h0
   obtain rfl:i=0:=by omega
   rw[h];rfl
  rfl
 rw[if_neg oO,fq (by simpa using hi)];rfl
def qQy {Z:Nat->Nat}{n k j:Nat}(hj:j<n)(hk:j<=k):(tkL Z n k)[j]?=some (Z j):=by
 unfold tkL;rw[bu,lu hj];simp[hk]
def tkL_set {Z:Nat->Nat}{n k:Nat}(hk:k+1<n)(o:Nat)(ho:o=k+1){v:Int}(hv:v=(Z (k+1):Nat)):bX (idC (tkL Z n k)) o (bP (.int .i64 v))=idC (tkL Z n (k+1)):=by
 subst ho hv;apply kz;intro i;simp only[bX,bP];unfold idC;rw[List.getElem?_set,ic,qGq,bu,bu];unfold tkL;rw[bu,bu];rcases ed i n with hi|hi
 ·rw[lu hi];simp only[ru];by_cases e:k+1=i
  ·subst e;rw[if_pos rfl,if_pos hk,if_pos (aj _)]
  rw[if_neg e];by_cases h2:i<=k
  ·rw[if_pos h2,if_pos oO]
  rw[if_neg h2,if_neg oO]
 rw[if_neg oO,fq (by simpa using hi)];rfl
def imp_ok {G:List Rl}(hw:Wf G){k:Nat}{r:Rl}(hr:G[k]?=some r):MkOk (G.take k) (tkL id (G.length+1) k) r r:=by
 have hk:=(ag.1 hr).1;have hok:=hw.ok k r hr;have htl:(G.take k).length=k:=by rw[fw];omega
 have hlt:∀a,a<=k->len (G.take k) a=len G a:=fun a ha=>by
  have:=lJ (L:=G.take k) (G.drop k) (i:=a) oO;rw[ig]at this;exact this.symm
 have hsh:=hw.short (k+1);cases r with
 |letter b=>exact .letter b
 |pair a b=>
  have e:=qBc hr hok
  simp only[Rl.ok]at hok
  exact .pair (qQy oO oO) (qQy oO oO) hok.1 oO hok.2.2.1 oO (by rw[hlt a oO,hlt b oO];omega)
 |power a t=>
  have e:=nW hr hok
  simp only[Rl.ok]at hok
  have hp:=hw.pos a hok.1 oO
  have h2:t*1<=t*len G a:=pu _ hp
  have hmx:dC=1152921504606846976:=rfl
  exact .power (qQy oO oO) hok.1 oO hok.2.2 oO (by rw[hlt a oO,pm];omega)
def imp_next {G:List Rl}(hw:Wf G){k:Nat}{r:Rl}(hr:G[k]?=some r){Es M:List Ent}(h:rls Es=G.take k)(hM:M.length<=1){id:Nat}(h1:1<=id)(hid:(rls (Es++M))[id-1]?=some r):id=k+1/\rls (Es++M)=G.take (k+1):=by
 have hk:=(ag.1 hr).1;have htl:(G.take k).length=k:=by rw[fw];omega
 have hEl:Es.length=k:=by rw[<-bQ,h,htl]
 have hnot:∀j,j<k->G[j]?≠some r:=fun j hj e=>by
  have:=hw.nodup _ _ _ e hr;omega
 rw[dB,h]at hid ⊢;rcases ed (id-1) k with hlt|hge
 ·rw[ax oO,kw,if_pos hlt]at hid;exact absurd hid (hnot _ hlt)
 rw[bq oO,htl]at hid;have hl:=(ag.1 hid).1;rw[bQ]at hl;obtain⟨e,rfl⟩:∃e,M=[e]:=oD.1 oO;have h0:id-1-k=0:=by simp at hl;omega
 rw[h0]at hid;have her:e.r=r:=by simpa[rls]using hid
 refine⟨oO,?_⟩;rw[di,hr];simp[rls,her]
end
end Go.Proofs.YtejcjelmpbkcbaaGreatDoor
namespace Sl
open Go Go.RowKit
variable {E:Env}{n:Nat}{L:Fr}{S:List HP}{ty:TypeId}{pos:String}{af:Array Edge}{d:Option Nat}{gd:Option (Nat×Bool)}
def qZv {x y:Operand}{t yt:TypeId}{a b:Bool}{sz:Nat}{zs:List Value}(hx:ev L x=some (.bool a))(hy:ev L y=some (.bool b))(ht:E.tab t=some ⟨.bool,sz,zs⟩):
  Yl E n L S ⟨d,.binOp .neq t x y yt,ty,pos,af,gd⟩ (.bool (a^^b)):=fun o w g _=>by
 have hu:=qQw ht;have h1:(eqGuard .neq t x y (.bool a) (.bool b)).run E.P w= .ok () w:=by unfold eqGuard;simp
 have h2:binOp .neq t (.bool a) (.bool b)=(do pure (.bool (!(<-Op.equal t (.bool a) (.bool b))))):=rfl;have h3:=run_equal_bool (P:=E.P) w t a b hu;simp[execOp,h1,h2,h3,g.ev hx,g.ev hy];cases a<;>cases b<;>rfl
end Sl
namespace Go.Proofs.YtejcjelmpbkcbaaGreatDoor
open Go Go.RowKit Sl Eg
set_option maxRecDepth 10000
section
end
section
def Iso.le {L1 L2:List Rl}{x y:Nat}(h:Iso L1 L2 x y):x<=L1.length/\y<=L2.length:=by
 cases h with
 |letter h1 h2=>exact⟨(ag.1 h1).1,(ag.1 h2).1⟩
 |pair h1 h2=>exact⟨(ag.1 h1).1,(ag.1 h2).1⟩
 |power h1 h2=>exact⟨(ag.1 h1).1,(ag.1 h2).1⟩
end
section
variable {E:Env}{Es:List Ent}{pp tb s most m bm:Nat}
def DcI (G L:List Rl)(k:Nat)(Z:List Nat):Prop:=Z.length=k+1/\Z[0]?=some 0/\∀j,1<=j->j<=k->∃z,Z[j]?=some z/\Iso G L j z
end
section
def Iso.trans {L1 L2 L3:List Rl}{x y:Nat}(h:Iso L1 L2 x y):∀{z:Nat},Wf L2->Iso L2 L3 y z->Iso L1 L3 x z:=by
 induction h with
 | @letter n m c h1 h2=>
  intro z hw h'
  cases h' with
  |letter g1 g2=>rw[h2]at g1;cases g1;exact .letter h1 g2
  |pair g1=>rw[h2]at g1;cases g1
  |power g1=>rw[h2]at g1;cases g1
 |pair h1 h2 _ _ i1 i2=>
  intro z hw h'
  cases h' with
  |letter g1 g2=>rw[h2]at g1;cases g1
  |pair g1 g2 j1 j2=>rw[h2]at g1;cases g1;exact .pair h1 g2 (i1 hw j1) (i2 hw j2)
  |power g1=>rw[h2]at g1;cases g1
 |power h1 h2 _ i1=>
  intro z hw h'
  cases h' with
  |letter g1 g2=>rw[h2]at g1;cases g1
  |pair g1=>rw[h2]at g1;cases g1
  |power g1 g2 j1=>rw[h2]at g1;cases g1;exact .power h1 g2 (i1 hw j1)
end
