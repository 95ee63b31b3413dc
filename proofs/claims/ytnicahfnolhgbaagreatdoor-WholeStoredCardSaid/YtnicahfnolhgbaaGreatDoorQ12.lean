import Derived.Test.YtnicahfnolhgbaaGreatDoorQ11
set_option linter.all false
set_option maxHeartbeats 1000000
namespace Go.Proofs.YtnicahfnolhgbaaGreatDoor
open Go Go.RowKit Sl Eg
set_option maxRecDepth 10000
variable {E:Bp}{Es:List Bj}{pp tb s most:Nat}
structure ZI where
 k:Nat
 M:List Bj
 out:List Nat
 xs:List Value
 ys:List Value
 a:Nat
def Jz (hE:BP E)(hB:Ca E.w0){g1 g2 c1 c2 l:Nat}{ids:List Nat}(hn:ids.length<=65536)(h2:2<=l)(he:l%2=0)(hj:l<1099511627776)(hC:∀x∈ids,1<=x/\x<=Es.length) (hO:∀i x y,ids[i]?=some x->ids[i+1]?=some y->(txt (BO Es) x).length+(txt (BO Es) y).length<=dC) (hX:Es.length+ids.length<=most):
  Ct E 181 [uPt pp,.agg #[.slice (some ⟨g1,0,none⟩) ids.length c1,.slice (some ⟨g2,0,none⟩) ids.length c2],.int .i64 (l:Nat)] [cells pp [uPt s,uPt tb] 122,BV tb s (BO Es),bR s most Es,sl (some ⟨g1,0,none⟩) c1 41 1 ids.length (Bg ids),sl (some ⟨g2,0,none⟩) c2 62 1 ids.length (EB (ids.map (key (BO Es))))]
   (fun v Q=>∃M out a,v= .tuple #[.agg #[.slice (some ⟨g1,0,none⟩) (out++ids.drop a).length c1,.slice (some ⟨g2,0,none⟩) (out++ids.drop a).length c2],.nilIface]/\M.length+(out++ids.drop a).length<=ids.length/\Er (BO (Es++M)) ids (iI (ids.map (key (BO Es))) (Ef l)) a out/\
    Q=[cells pp [uPt s,uPt tb] 122,BV tb s (BO (Es++M)),bR s most (Es++M),sl (some ⟨g1,0,none⟩) c1 41 1 (out++ids.drop a).length (Bg (out++ids.drop a)),sl (some ⟨g2,0,none⟩) c2 62 1 (out++ids.drop a).length (EB ((out++ids.drop a).map (key (BO (Es++M)))))]):=by
 have hg:=ZR (ids.map (key (BO Es))) (Ef l);have hl:=Zd hg;have hm:(ids.map (key (BO Es))).length=ids.length:=by simp
 have hY:=Jh (E:=E) (g:=g2) (c:=c2) (l:=l) (ks:=ids.map (key (BO Es))) hE oO h2 he hj;generalize iI (ids.map (key (BO Es))) (Ef l)=js at*;rw[hm]at hY hg hl;refine eF (p:=sl (some ⟨g1,0,none⟩) c1 41 1 ids.length (Bg ids)) uK (fun _ h=>lX h) ?_;rintro⟨hZ, -, -⟩;refine eF (p:=sl (some ⟨g2,0,none⟩) c2 62 1 ids.length (EB (ids.map (key (BO Es))))) uK (fun _ h=>lX h) ?_;rintro⟨ha, -, -⟩;refine bO (hE.fn Tryz.func181) O O O (fun R=>?_);simp only[dS,uV,uW];refine CL ?_;refine uU ?_;refine gN O (fun b4=>?_);refine uU (dA (hE.t O) (fun b6=>?_));refine Bz ?_;refine uN 8 ([cells b4 [.slice (some ⟨g1,0,none⟩) ids.length c1,.slice (some ⟨g2,0,none⟩) ids.length c2] 281]) ?_;refine CL ?_;refine uT 2 O (gF 0 O O (hE.t O) O (av _)) ?_;refine CL ?_;refine uT 5 O (gF 0 O O (hE.t O) O (av _)) ?_;refine Bv ?_;apply fE 7 O oK O;refine dA (hE.t O) (fun b8=>?_);refine uE ?_;apply gW O oK oK O;refine uS ?_;refine Bq ?_;refine uX (hY) O ?_;rintro _ _⟨rp,rc,rfl,rfl⟩;simp only[uV,uW];refine Bw ?_
 refine dX (fun x:ZI=>[(0,uPt pp),(4,uPt b4),(6,uPt b6),(8,uPt b8),(9,.int .i64 (x.a:Nat)),(25,.slice rp js.length rc),(26,.int .i64 (js.length:Nat)),(27,.int .i64 (x.k:Nat))]) (fun x=>[cells pp [uPt s,uPt tb] 122,BV tb s (BO (Es++x.M)),bR s most (Es++x.M),cells b8 [.slice (some ⟨g1,0,none⟩) x.out.length c1,.slice (some ⟨g2,0,none⟩) x.out.length c2] 281,sl (some ⟨g1,0,none⟩) c1 41 1 ids.length x.xs,sl (some ⟨g2,0,none⟩) c2 62 1 ids.length x.ys,cells b4 [.slice (some ⟨g1,0,none⟩) ids.length c1,.slice (some ⟨g2,0,none⟩) ids.length c2] 281,cells b6 [.slice none 0 0,.slice none 0 0] 281,sl rp rc 3 1 js.length (Bg js),R]) (fun x=>js.length-x.k)
  (fun x=>x.k<=js.length/\x.M.length<=x.k/\Er (BO (Es++x.M)) ids (js.take x.k) x.a x.out/\EH (BO (Es++x.M)) x.out ids x.xs x.ys/\Eu (js.drop x.k) x.a ids.length) ⟨0,[],[],Bg ids,EB (ids.map (key (BO Es))),0⟩ ?_ ?_ ?_ ?_
 ·refine⟨av _,ai _,.nil,?_,hg⟩;show EH (BO (Es++[])) _ _ _ _;rw[ax];exact EH.start _ _
 ·exact⟨O,O,O,O,O,O,O,O,trivial⟩
 ·rw[ax];exact uI
 rintro⟨k,M,out,xs,ys,a⟩⟨hk,hM,hG,hD,hP⟩;simp only at hk hM hG hD hP ⊢;have hF:∀y∈ids,y<=(BO (Es++M)).length:=fun y hy=>by have:=(hC y hy).2;rw[bQ];simp;omega
 have hQ:=hG.le hF;obtain⟨ho,hR⟩:=hG.length;rw[ig,lm hk]at ho;refine CB ?_;refine bE O (fun hp=>?_) (fun hp=>?_)
 ·have hK:k<js.length:=oO;obtain⟨i,hi⟩:∃x,js[k]?=some x:=⟨_,ag hK⟩
  have eD:js.drop k=i::js.drop (k+1):=by
   rw[mr hK];congr 1;have:=ag hK;rw[hi]at this;simpa using this.symm
  have eT:js.take (k+1)=js.take k++[i]:=by rw[ed,hi];rfl
  rw[eD]at hP;obtain⟨hL,hu,hS⟩:=hP;refine iO (p:=sl rp rc 3 1 js.length (Bg js)) uK (fun _ h=>eG h oO) ?_;rintro⟨g3,rfl⟩;have f0:=fT hi ((k:Nat):Int).toNat oO;have hA:=hD.seg (a:=a) (i:=i) oO hL oO;have px:iU ((xs.drop a).take (i-a))=true:=by rw[sU hD.ox oO,Bg,<-qp,<-qo];exact qNd _
  have py:iU ((ys.drop a).take (i-a))=true:=by rw[sU hD.oy oO,EB,<-qp,<-qo];exact qNe _
  refine Bq ?_;refine uN 9 ([cells b8 [.slice (some ⟨g1,0,none⟩) out.length c1,.slice (some ⟨g2,0,none⟩) out.length c2] 281,cells b4 [.slice (some ⟨g1,0,none⟩) ids.length c1,.slice (some ⟨g2,0,none⟩) ids.length c2] 281]) ?_;refine Bw ?_;apply dG 5 O oK
  ·exact aB O
  ·rfl
  apply dG 6 O oK
  ·exact gL O (hE.t O) ⟨_,O⟩ ⟨_,O⟩ oO oO
  ·rfl
  apply fE 7 O oK O;refine mP (us:=(xs.drop a).take (i-a)) (lo:=a) (N:=ids.length) (hE.t O) (hE.t O) O O (VJ hZ hL oO) uK (by simp) px oO oO ?_;refine uE ?_;apply dG 8 O oK
  ·exact EC O
  ·rfl
  apply gW O oK oK O;refine uS ?_;refine CL ?_;refine uN 9 ([cells b8 [.slice (some ⟨g1,0,none⟩) (out.length+(i-a)) c1,.slice (some ⟨g2,0,none⟩) out.length c2] 281,cells b4 [.slice (some ⟨g1,0,none⟩) ids.length c1,.slice (some ⟨g2,0,none⟩) ids.length c2] 281]) ?_;refine Bw ?_;apply dG 5 O oK
  ·exact aB O
  ·rfl
  apply dG 6 O oK
  ·exact gL O (hE.t O) ⟨_,O⟩ ⟨_,O⟩ oO oO
  ·rfl
  apply fE 7 O oK O;refine mP (us:=(ys.drop a).take (i-a)) (lo:=a) (N:=ids.length) (hE.t O) (hE.t O) O O (VJ ha hL oO) uK (by simp) py oO oO ?_;refine uE ?_;apply dG 8 O oK
  ·exact EC O
  ·rfl
  apply gW O oK oK O;refine uS ?_;refine Bv ?_;simp only[oV];have hH:(out++(ids.drop a).take (i-a)).length=out.length+(i-a):=by simp;omega
  have hT:∀x∈out++(ids.drop a).take (i-a),x<=(BO (Es++M)).length:=fun x hx=>by
   rcases ay.1 hx with h| h
   ·exact hQ x h
   exact hF x (qf (mq h))
  rw[<-hH];obtain⟨x,hx⟩:∃x,ids[i]?=some x:=⟨_,ag oO⟩;obtain⟨y,hy⟩:∃y,ids[i+1]?=some y:=⟨_,ag oO⟩;have hU:=hO i x y hx hy;obtain⟨hv,hw⟩:=hC x (ak hx);obtain⟨hz,h0⟩:=hC y (ak hy);obtain⟨ix,rfl⟩:∃i,x=i+1:=⟨x-1,oO⟩;obtain⟨iy,rfl⟩:∃i,y=i+1:=⟨y-1,oO⟩;have f1:=hA.id (k:=((i:Nat):Int).toNat) (x:=ix+1) (by rw[hH];omega) (by rw[ny];exact hx);have f2:=hA.id (k:=(((i:Nat):Int)+1).toNat) (x:=iy+1) (by rw[hH];omega) (by rw[show(((i:Nat):Int)+1).toNat=i+1 by omega];exact hy);refine iO (p:=bR s most (Es++M)) uK (fun _ h=>dR h) ?_;rintro⟨h1,hb, -, -⟩;have hc:(Es++M)[ix]?=some Es[ix]:=by rw[aj oO,ag oO]
  have hd:(Es++M)[iy]?=some Es[iy]:=by rw[aj oO,ag oO]
  have hV:(Es[ix]).t.length+(Es[iy]).t.length<=dC:=by rw[hb ix _ hc,hb iy _ hd,dB,jX _ (by rw[bQ];omega),jX _ (by rw[bQ];omega)];exact hU
  have hr:(Es++M).length<most:=by simp;omega
  generalize hq:bX xs out.length ((xs.drop a).take (i-a))=xs1 at*;generalize hs:bX ys out.length ((ys.drop a).take (i-a))=ys1 at*;generalize ht:out++(ids.drop a).take (i-a)=out1 at*;refine Bv ?_;refine uH ([cells pp [uPt s,uPt tb] 122,cells b4 [.slice (some ⟨g1,0,none⟩) ids.length c1,.slice (some ⟨g2,0,none⟩) ids.length c2] 281,sl (some ⟨g1,0,none⟩) c1 41 1 ids.length xs1]) ?_;refine CK ?_;apply dH 15 O oK O;refine uC (qXa hE hc hd hV hr) O ?_;rintro _ _⟨M2,id,rfl,h3,h4,hN,rfl⟩;obtain⟨j,rfl⟩:∃j,id=j+1:=⟨id-1,oO⟩;rw[fu]at hN;have hf:j<(Es++M++M2).length:=by have:=(ae.1 hN).1;rwa [bQ]at this
  have hI:EH (BO (Es++M++M2)) out1 ids xs1 ys1:=by rw[dB (Es++M)];exact hA.ext _ hT hF
  have hJ:Er (BO (Es++M++M2)) ids (js.take (k+1)) (i+2) (out1++[j+1]):=by
   rw[eT,<-ht];exact .snoc (by rw[dB (Es++M)];exact hG.ext _) hL hx hy hN
  simp only[uV,uW];refine uE ?_;refine Bi ?_;refine fF (cO (p:=BV tb s (BO (Es++M))) (p':=BV tb s (BO (Es++M++M2))) uK (fun _ h=>by rw[dB (Es++M)];exact sG _ h)) ?_;rw[ah]at hf hN hI hJ ⊢;have hh:out1.length<ids.length:=oO;refine CK ?_;refine uX (Jk hE hB hf hh) O ?_;rintro _ _⟨rfl,rfl⟩;simp only[uV,uW];refine DL ?_;refine jY 27 (.int .i64 ((k+1:Nat):Int)) O (bW oO) ?_;refine jY 9 (.int .i64 ((i+2:Nat):Int)) O (bW oO) ?_;refine bS (ι:=ZI) (j:=⟨k+1,M++M2,out1++[j+1],_,_,i+2⟩) ⟨hK,by simp;omega,hJ,hI.snoc hh _,hS⟩ ?_ ?_ ?_
  ·show js.length-(k+1)<js.length-k;omega
  ·exact⟨O,O,O,O,O,O,O,O,trivial⟩
  rw[show(out1++[j+1]).length=out1.length+1 by simp];exact uI
 obtain rfl:k=js.length:=by omega
 rw[fe (ai _)]at hG;have hA:=hD.seg (a:=a) (i:=ids.length) oO hR (ai _);have px:iU ((xs.drop a).take (ids.length-a))=true:=by rw[sU hD.ox oO,Bg,<-qp,<-qo];exact qNd _
 have py:iU ((ys.drop a).take (ids.length-a))=true:=by rw[sU hD.oy oO,EB,<-qp,<-qo];exact qNe _
 refine CB ?_;refine uN 8 ([cells b8 [.slice (some ⟨g1,0,none⟩) out.length c1,.slice (some ⟨g2,0,none⟩) out.length c2] 281,cells b4 [.slice (some ⟨g1,0,none⟩) ids.length c1,.slice (some ⟨g2,0,none⟩) ids.length c2] 281]) ?_;refine Bz ?_;apply dG 4 O oK
 ·exact aB O
 ·rfl
 apply dG 5 O oK
 ·exact gL O (hE.t O) ⟨_,O⟩ O oO oO
 ·rfl
 apply fE 6 O oK O;refine mP (us:=(xs.drop a).take (ids.length-a)) (lo:=a) (N:=ids.length) (hE.t O) (hE.t O) O O (VJ hZ hR (ai _)) uK (by simp) px oO oO ?_;refine uE ?_;apply dG 7 O oK
 ·exact EC O
 ·rfl
 apply gW O oK oK O;refine uS ?_;refine CL ?_;refine uN 8 ([cells b8 [.slice (some ⟨g1,0,none⟩) (out.length+(ids.length-a)) c1,.slice (some ⟨g2,0,none⟩) out.length c2] 281,cells b4 [.slice (some ⟨g1,0,none⟩) ids.length c1,.slice (some ⟨g2,0,none⟩) ids.length c2] 281]) ?_;refine Bz ?_;apply dG 4 O oK
 ·exact aB O
 ·rfl
 apply dG 5 O oK
 ·exact gL O (hE.t O) ⟨_,O⟩ O oO oO
 ·rfl
 apply fE 6 O oK O;refine mP (us:=(ys.drop a).take (ids.length-a)) (lo:=a) (N:=ids.length) (hE.t O) (hE.t O) O O (VJ ha hR (ai _)) uK (by simp) py oO oO ?_;refine uE ?_;apply dG 7 O oK
 ·exact EC O
 ·rfl
 apply gW O oK oK O;refine uS ?_;refine Bv ?_;simp only[oV];have hW:(ids.drop a).take (ids.length-a)=ids.drop a:=fe (by simp);have hH:(out++ids.drop a).length=out.length+(ids.length-a):=by simp
 rw[hW]at hA;rw[<-hH];generalize hq:bX xs out.length ((xs.drop a).take (ids.length-a))=xs1 at*;generalize hs:bX ys out.length ((ys.drop a).take (ids.length-a))=ys1 at*;refine Br ?_;apply cK
 ·rfl
 ·((apply Rs.cell rfl (hE.t rfl) rfl;(focus((repeat(first |rfl|assumption|constructor));done)));apply Rs.tmp rfl;exact Rs.nil)
 ·exact⟨M,out,a,O,oO,hG,O⟩
 refine cZ (cO (p:=sl (some ⟨g1,0,none⟩) c1 41 1 ids.length xs1) (p':=sl (some ⟨g1,0,none⟩) c1 41 1 (out++ids.drop a).length (Bg (out++ids.drop a))) uK (nK hA.le (by rw[oV];exact hA.hx) (by simp))) ?_;refine cZ (cO (p:=sl (some ⟨g2,0,none⟩) c2 62 1 ids.length ys1) (p':=sl (some ⟨g2,0,none⟩) c2 62 1 (out++ids.drop a).length (EB ((out++ids.drop a).map (key (BO (Es++M)))))) uK (nK hA.le (by rw[oV];exact hA.hy) (by simp))) ?_;exact uI
end Go.Proofs.YtnicahfnolhgbaaGreatDoor
namespace Eg
def Cu (l:Nat):Nat:=(l/2-1)%123
def LU (l:Nat):Cu l<=122:=by unfold Cu;omega
def vI {low x y}(hx:x<Cg)(hy:y<Cg):fB (Cu (after low x y)) x y/\∀l,low<l->l%2=0->fB (Cu l) x y->after low x y<=l:=by
 have hc:low/2%123<=122:=oO;have hm:low/2=123*(low/2/123)+low/2%123:=oO;unfold after;rcases mY hc hx hy with⟨h1,h2⟩|⟨k,h1,h2,h3,h4,h5⟩
 ·rw[h1,if_neg oO];rcases mY (c:=0) oO hx hy with⟨g1,_⟩|⟨k,g1,g2,g3,g4,g5⟩
  ·have:=yM hx hy;omega
  rw[g1];simp only[ny];refine⟨?_,fun l hl he hf=>?_⟩
  ·have e:Cu (2*(low/2+1+k+123-low/2%123))=k:=by unfold Cu;omega
   rw[e];exact g4
  by_cases hB:l/2-1<123*(low/2/123)+123
  ·exfalso;have e:Cu l=l/2-1-123*(low/2/123):=by unfold Cu;omega
   exact h2 (Cu l) oO (LU l) hf
  apply Classical.byContradiction;intro hA;have e:Cu l=l/2-1-123*(low/2/123)-123:=by unfold Cu;omega
  exact g5 (Cu l) oO oO hf
 rw[h1,if_pos oO];simp only[ny];refine⟨?_,fun l hl he hf=>?_⟩
 ·have e:Cu (2*(low/2+1+k-low/2%123))=k:=by unfold Cu;omega
  rw[e];exact h4
 apply Classical.byContradiction;intro hA;have e:Cu l=l/2-1-123*(low/2/123):=by unfold Cu;omega
 exact h5 (Cu l) oO oO hf
def YO {ks c i}:∀{k:Nat},i∈Ho ks c k↔i<k/\i+1<ks.length/\bt (ks[i]?.getD 0) (c/2)=c%2/\bt (ks[i+1]?.getD 0) (c/2)≠c%2
 |0=>by simp[Ho]
 |k+1=>by
  rw[Ho,ay,YO];split
  ·rename_i h
   rw[bg];constructor
   ·rintro(⟨h1,h2⟩|rfl)
    ·exact⟨oO,h2⟩
    exact⟨oO,h⟩
   rintro⟨h1,h2⟩;by_cases e:i=k
   ·exact .inr e
   exact .inl ⟨oO,h2⟩
  rename_i h
  constructor
  ·rintro(⟨h1,h2⟩|h1)
   ·exact⟨oO,h2⟩
   cases h1
  rintro⟨h1,h2⟩;by_cases e:i=k
  ·subst e;exact absurd h2 h
  exact .inl ⟨oO,h2⟩
def sW {c x y}(hc:c≠122):fB c x y↔bt x (c/2)=c%2/\bt y (c/2)≠c%2:=by
 unfold fB;rw[if_neg hc];have:=QS y (c/2);constructor
 ·rintro⟨h1,h2⟩;exact⟨h1,oO⟩
 rintro⟨h1,h2⟩;exact⟨h1,oO⟩
def yS {f i}:∀{j:Nat},i∈Iz f j↔∃m,m<j/\i=f+2*m
 |0=>by simp[Iz]
 |j+1=>by
  rw[Iz,ay,yS,bg];constructor
  ·rintro(⟨m,h1,h2⟩|h)
   ·exact⟨m,oO,h2⟩
   exact⟨j,oO,h⟩
  rintro⟨m,h1,h2⟩;by_cases e:m=j
  ·exact .inr (by rw[h2,e])
  exact .inl ⟨m,oO,h2⟩
def VX {i}:∀{l:List (Nat×Nat)},i∈iJ l↔∃g∈l,i∈Iz g.1 (g.2/2)
 |[]=>by simp[iJ]
 |(f,n)::l=>by rw[iJ,ay,VX];simp
structure Gu (ks:List Nat)(k:Nat)(s:Nat×List (Nat×Nat)):Prop where
 le:s.1<=k
 opn:∀i,s.1<=i->i<k->i+1<ks.length/\ks[i+1]?=ks[i]?
 shut:∀g∈s.2,∀i,g.1<=i->i+1<g.1+g.2->i+1<ks.length/\ks[i+1]?=ks[i]?
 all:∀i,i<s.1->i+1<ks.length->ks[i+1]?=ks[i]?->∃g∈s.2,g.1<=i/\i+1<g.1+g.2
def Vt (ks:List Nat):∀k,Gu ks k (FU ks k)
 |0=>⟨ai _,fun i h1 h2=>by omega,fun g hg=>by simp[FU]at hg,fun i h=>by simp[FU]at h⟩
 |k+1=>by
  have h:=Vt ks k;have hA:=h.le;unfold FU;split
  ·rename_i hc
   refine⟨oO,fun i h1 h2=>?_,h.shut,h.all⟩;by_cases e:i=k
   ·subst e;exact hc
   exact h.opn i h1 oO
  rename_i hc
  refine⟨ai _,fun i h1 h2=>by simp only at h1;omega,?_,?_⟩
  ·intro g hg i h1 h2;simp only at hg;split at hg
   ·rcases ay.1 hg with hg|hg
    ·exact h.shut g hg i h1 h2
    obtain rfl:=bg.1 hg;simp only at h1 h2;exact h.opn i h1 oO
   exact h.shut g hg i h1 h2
  intro i h1 h2 h3;simp only at h1 ⊢;by_cases hi:i<(FU ks k).1
  ·obtain⟨g,hg,h4⟩:=h.all i hi h2 h3;refine⟨g,?_,h4⟩;split
   ·exact cu _ hg
   exact hg
  by_cases e:i=k
  ·subst e;exact absurd ⟨h2,h3⟩ hc
  rw[if_pos oO];exact⟨_,jy _ (bg.2 O),BD,BD⟩
def qFx {ks g}(h:g∈iH ks){i}(h1:g.1<=i)(h2:i+1<g.1+g.2):i+1<ks.length/\ks[i+1]?=ks[i]?:=(Vt ks _).shut g h i h1 h2
def PQ (ks:List Nat):(FU ks ks.length).1=ks.length:=by
 have h:=Vt ks ks.length;have:=h.le;apply Classical.byContradiction;intro hA;have:=(h.opn (ks.length-1) oO oO).1;omega
def qKa {ks i}(h1:i+1<ks.length)(h2:ks[i+1]?=ks[i]?):∃g∈iH ks,g.1<=i/\i+1<g.1+g.2:=
 (Vt ks ks.length).all i (by rw[PQ];omega) h1 h2
def qMz {ks c i}(h:i∈iI ks c):∃x y,ks[i]?=some x/\ks[i+1]?=some y/\fB c x y:=by
 unfold iI at h;split at h
 ·rename_i hc
  obtain⟨g,hg,h2⟩:=VX.1 h;obtain⟨m,h3,h4⟩:=yS.1 h2;obtain⟨h5,h6⟩:=qFx hg (i:=i) oO oO;have e:=ag h5;refine⟨_,_,by rw[<-h6];exact e,e,?_⟩;unfold fB;rw[if_pos hc]
 rename_i hc
 obtain⟨h1,h2,h3⟩:=YO.1 h;have e1:=ag (l:=ks) (i:=i) oO;have e2:=ag h2;rw[e1,e2]at h3;exact⟨_,_,e1,e2,(sW hc).2 h3⟩
def qGt {ks c i x y}(hx:ks[i]?=some x)(hy:ks[i+1]?=some y)(h:fB c x y):i∈iI ks c\/∃j,i=j+1/\j∈iI ks c:=by
 have hl:=(ae.1 hy).1;unfold iI;split
 ·rename_i hc
  unfold fB at h;rw[if_pos hc]at h;obtain⟨g,hg,h1,h2⟩:=qKa hl (by rw[hx,hy,h]);rcases wz (i-g.1)with hm|hm
  ·left;exact VX.2 ⟨g,hg,yS.2 ⟨(i-g.1)/2,oO,oO⟩⟩
  right;exact⟨i-1,oO,VX.2 ⟨g,hg,yS.2 ⟨(i-g.1)/2,oO,oO⟩⟩⟩
 rename_i hc
 left;refine YO.2 ⟨oO,hl,?_⟩;rw[hx,hy];exact(sW hc).1 h
end Eg
namespace Go.Proofs.YtnicahfnolhgbaaGreatDoor
section
open Go Sl Eg
def Da (L:List Rl)(ids:List Nat):List UInt8:=(ids.map (txt L)).flatten
def kI (L:List Rl)(a b:List Nat):Da L (a++b)=Da L a++Da L b:=by simp[Da]
def rZ (L:List Rl)(x:Nat):Da L [x]=txt L x:=by simp[Da]
def qRw (L:List Rl)(x t:Nat):Da L (List.replicate t x)=(List.replicate t (txt L x)).flatten:=by simp[Da]
def qRv {L}(M:List Rl){ids}(h:∀x∈ids,x<=L.length):Da (L++M) ids=Da L ids:=by
 unfold Da;rw[qi (fun x hx=>jX M (h x hx))]
def Ej.text {L ids bs}(h:Ej L ids bs):Da L ids=bs:=by
 induction h with
 |nil=>rfl
 |snoc _ h2 ih=>rw[kI,ih,rZ,fP h2]
def Dx.text {L}(hw:Wf L){rs out}(h:Dx L rs out):Da L out=Da L (Ch rs):=by
 induction h with
 |nil=>rfl
 |snoc _ h2 ih=>
  rw[kI,ih,rZ,iT,kI]
  congr 1
  simp only[Ch,ax]
  rw[qRw]
  rcases h2 with⟨rfl,rfl⟩|⟨_,i,rfl,h3⟩
  ·simp
  exact iY h3 (hw.ok _ _ h3)
def Uw {α:Type}{l:List α}{i:Nat}{x y:α}(hx:l[i]?=some x)(hy:l[i+1]?=some y):l.drop i=x::y::l.drop (i+2):=by
 obtain⟨h1,e1⟩:=ae.1 hx;obtain⟨h2,e2⟩:=ae.1 hy;rw[mr h1,mr h2,e1,e2]
def Er.text {L:List Rl}(hw:Wf L){ids js out:List Nat}{a:Nat}(h:Er L ids js a out):Da L (out++ids.drop a)=Da L ids:=by
 induction h with
 |nil=>simp
 | @snoc js out a i x y j _ h1 h2 h3 h4 ih=>
  rw[<-ih]
  have e:ids.drop a=(ids.drop a).take (i-a)++(x::y::ids.drop (i+2)):=by
   rw[<-Uw h2 h3];have:=dh (i-a) (ids.drop a);rw[xc,show a+(i-a)=i by omega]at this;exact this.symm
  conv=>rhs;rw[e]
  simp only[kI,ah]
  congr 2
  rw[rZ,iK h4 (hw.ok _ _ h4)]
  show _=Da L ([x]++([y]++ids.drop (i+2)))
  simp only[kI,rZ,ah]
end
section
open Go Sl Eg
def Hm (L:List Rl)(x y:Nat):Nat:=after (max (Bt L x).toNat (Bt L y).toNat) (key L x) (key L y)
structure EZ (L:List Rl)(lv:Nat)(ids:List Nat):Prop where
 wf:Wf L
 ok:∀x∈ids,1<=x/\x<=L.length/\0<=Bt L x/\Bt L x<lv
 same:∀i x,ids[i]?=some x->ids[i+1]?=some x->lv%2=1/\Bt L x=lv-1
 diff:∀i x y,ids[i]?=some x->ids[i+1]?=some y->x≠y->lv<=Hm L x y
def JL {L:List Rl}(hw:Wf L){x y:Nat}:(Bt L x).toNat<Hm L x y/\(Bt L y).toNat<Hm L x y:=by
 have:=xQ (low:=max (Bt L x).toNat (Bt L y).toNat) (kG hw x) (kG hw y);unfold Hm;omega
def Vn {L:List Rl}(hw:Wf L){x y lv:Nat}(h:Bt L x=lv\/Bt L y=lv):lv+1<=Hm L x y:=by
 have:=JL hw (x:=x) (y:=y);omega
def EZ.ext {L}(M:List Rl){lv ids}(h:EZ L lv ids)(hw:Wf (L++M)):EZ (L++M) lv ids:=by
 have hm:∀{i x:Nat},ids[i]?=some x->x<=L.length:=fun hx=>(h.ok _ (ak hx)).2.1
 refine⟨hw,fun x hx=>?_,fun i x h1 h2=>?_,fun i x y h1 h2 h3=>?_⟩
 ·obtain⟨h1,h2,h3⟩:=h.ok x hx;rw[kY M h2];exact⟨h1,by simp;omega,h3⟩
 ·rw[kY M (hm h1)];exact h.same i x h1 h2
 unfold Hm;rw[kY M (hm h1),kY M (hm h2),fO M (hm h1),fO M (hm h2)];exact h.diff i x y h1 h2 h3
def Ej.inv {L}(hw:Wf L){ids bs}(h:Ej L ids bs):EZ L 1 ids:=by
 have h0:∀x∈ids,1<=x/\x<=L.length/\Bt L x=0:=by
  induction h with
  |nil=>simp
  |snoc _ h2 ih=>
   intro x hx
   rcases ay.1 hx with h| h
   ·exact ih x h
   obtain rfl:x=_:=bg.1 h
   have:=(ae.1 h2).1
   exact⟨oO,oO,(jL h2).2⟩
 refine⟨hw,fun x hx=>?_,fun i x h1 h2=>?_,fun i x y h1 h2 h3=>?_⟩
 ·obtain⟨h1,h2,h3⟩:=h0 x hx;omega
 ·obtain⟨_,_,h3⟩:=h0 x (ak h1);omega
 have:=JL hw (x:=x) (y:=y);omega
def Dx.get {L rs out}(h:Dx L rs out):∀(k id:Nat),out[k]?=some id->∃x t,rs[k]?=some (x,t)/\EI L x t id:=by
 induction h with
 |nil=>intro k id h;simp at h
 | @snoc rs out x t id h1 h2 ih=>
  intro k id' hk
  have hl:=h1.length
  rcases fw k out.length with hA|hge
  ·rw[aj hA]at hk
   obtain⟨x',t',h3,h4⟩:=ih k id' hk
   exact⟨x',t',by rw[aj oO];exact h3,h4⟩
  rw[bi hge]at hk
  have hz:k-out.length=0:=by
   have:=(ae.1 hk).1;simp at this;omega
  rw[hz]at hk
  obtain rfl:id=id':=by simpa using hk
  refine⟨x,t,?_,h2⟩
  rw[bi oO,show k-rs.length=0 by omega];rfl
def qRz (l:List Nat):∀(k x t y t':Nat),(dE l)[k]?=some (x,t)->(dE l)[k+1]?=some (y,t')->x≠y:=by
 refine xI (P:=fun l=>∀(k x t y t':Nat),(dE l)[k]?=some (x,t)->(dE l)[k+1]?=some (y,t')->x≠y) ?_ ?_ l
 ·intro k x t y t' h;simp[dE]at h
 intro l z ih k x t y t' h1 h2;rw[iX]at h1 h2;rcases bq (dE l)with e|⟨a,⟨u,n⟩,e⟩
 ·rw[e,qI]at h2;simp at h2
 rw[bu]at e;by_cases hB:u=z
 ·subst hB;rw[e,jR]at h1 h2;have hk:k+1<(a++[(u,n+1)]).length:=(ae.1 h2).1;simp at hk;rw[aj oO]at h1;rcases fw (k+1) a.length with hA|hge
  ·rw[aj hA]at h2;exact ih k x t y t' (by rw[e,aj oO];exact h1) (by rw[e,aj hA];exact h2)
  rw[bi hge,show k+1-a.length=0 by omega]at h2;obtain⟨rfl,rfl⟩:u=y/\n+1=t':=by simpa using h2
  exact ih k x t u n (by rw[e,aj oO];exact h1) (by rw[e,bi hge,show k+1-a.length=0 by omega];rfl)
 rw[e,kK a hB]at h1 h2;rcases fw (k+1) (a++[(u,n)]).length with hA|hge
 ·rw[aj hA]at h2;rw[aj oO]at h1;exact ih k x t y t' (by rw[e];exact h1) (by rw[e];exact h2)
 have hk:k+1<(a++[(u,n)]++[(z,1)]).length:=(ae.1 h2).1;simp at hk hge;obtain rfl:k=a.length:=by omega
 rw[bi BF,show a.length+1-(a++[(u,n)]).length=0 by simp]at h2;rw[aj BF,bi oO,uf]at h1;obtain⟨rfl,rfl⟩:u=x/\n=t:=by simpa using h1
 obtain⟨rfl,rfl⟩:z=y/\1=t':=by simpa using h2
 exact hB
def Yu {ids k x t}(h:(dE ids)[k]?=some (x,t)):∃A B,ids=A++List.replicate t x++B/\1<=t/\(∀y t',(dE ids)[k+1]?=some (y,t')->∃B',B=y::B'):=by
 have ht:=(nT ids _ (ak h)).1;refine⟨Ch ((dE ids).take k),Ch ((dE ids).drop (k+1)),?_,ht,fun y t' hy=>?_⟩
 ·have e:dE ids=(dE ids).take (k+1)++(dE ids).drop (k+1):=(dh _ _).symm;conv=>lhs;rw[<-kX ids,e,iT,ed,h,iT]
  simp[Ch]
 have hp:=(nT ids _ (ak hy)).1;simp only at hp;obtain⟨h1,h2⟩:=ae.1 hy;rw[mr h1,h2,Ch];obtain⟨m,rfl⟩:∃m,t'=m+1:=⟨t'-1,oO⟩;exact⟨_,by simp[dz];rfl⟩
end
section
open Go Sl Eg
def Vg {L:List Rl}{lv:Nat}{ids:List Nat}(h:EZ L lv ids)(hA:lv%2=1){k x t id:Nat}(hr:(dE ids)[k]?=some (x,t))(hi:EI L x t id):
  x∈ids/\((t=1/\id=x)\/(Bt L id=lv/\∃i,id=i+1/\L[i]?=some (.power x t))):=by
 obtain⟨A,B,e,ht, -⟩:=Yu hr;have hm:x∈ids:=by rw[e];exact cu _ (jy _ (ql.2 ⟨oO,rfl⟩))
 refine⟨hm,?_⟩;rcases hi with h1|⟨h2,i,rfl,h3⟩
 ·exact .inl h1
 right;obtain⟨m,rfl⟩:∃m,t=m+2:=⟨t-2,oO⟩;have e1:ids[A.length]?=some x:=by rw[e,ah,bi (ai _),uf];simp[dz]
 have e2:ids[A.length+1]?=some x:=by rw[e,ah,bi oO,show A.length+1-A.length=1 by omega];simp[dz]
 have hs:=(h.same _ _ e1 e2).2;have hx:=h.ok x hm;refine⟨?_,i,O,h3⟩;rw[(nA h3 (h.wf.ok _ _ h3)).2,if_pos ⟨hx.2.2.1,oO⟩];omega
theorem Dx.inv {L:List Rl}{lv:Nat}{ids out:List Nat}(h:EZ L lv ids)(hodd:lv%2=1)(hr:Dx L (dE ids) out):EZ L (lv+1) out:=by
 have hne:∀i x y,out[i]?=some x->out[i+1]?=some y->x≠y/\lv+1<=Hm L x y:=by
  intro k u v hu hv
  obtain⟨x,t,r1,i1⟩:=hr.get k u hu
  obtain⟨y,t',r2,i2⟩:=hr.get (k+1) v hv
  have hxy:=qRz ids k x t y t' r1 r2
  obtain⟨mx,cx⟩:=Vg h hodd r1 i1
  obtain⟨my,cy⟩:=Vg h hodd r2 i2
  have ox:=h.ok x mx
  have oy:=h.ok y my
  rcases cx with⟨rfl,rfl⟩|⟨lx,i,rfl,px⟩
  ·rcases cy with⟨rfl,rfl⟩|⟨ly,j,rfl,py⟩
   ·refine⟨hxy,?_⟩
    obtain⟨A,B,e,_,hB⟩:=Yu r1
    obtain⟨B',rfl⟩:=hB _ _ r2
    have e1:ids[A.length]?=some u:=by rw[e,List.append_assoc,List.getElem?_append_right (Nat.le_refl _),Nat.sub_self];simp
    have e2:ids[A.length+1]?=some v:=by rw[e,List.append_assoc,List.getElem?_append_right oO,show A.length+1-A.length=1 by omega];simp
    have hd:=h.diff _ _ _ e1 e2 hxy
    have hev:Hm L u v%2=0:=Zv _ _ _
    omega
   exact⟨fun e=>by rw[e]at ox;omega,Vn h.wf (.inr ly)⟩
  rcases cy with⟨rfl,rfl⟩|⟨ly,j,rfl,py⟩
  ·exact⟨fun e=>by rw[<-e]at oy;omega,Vn h.wf (.inl lx)⟩
  refine⟨fun e=>?_,Vn h.wf (.inl lx)⟩
  obtain rfl:i=j:=by omega
  rw[px]at py
  injection py with py
  injection py with p1 p2
  exact hxy p1
 refine⟨h.wf,fun u hu=>?_,fun i x h1 h2=>absurd O (hne i x x h1 h2).1,fun i x y h1 h2 _=>(hne i x y h1 h2).2⟩
 obtain⟨k,hk⟩:=List.getElem?_of_mem hu
 obtain⟨x,t,r1,i1⟩:=hr.get k u hk
 obtain⟨mx,cx⟩:=Vg h hodd r1 i1
 have ox:=h.ok x mx
 rcases cx with⟨_,rfl⟩|⟨lx,i,rfl,px⟩
 ·omega
 have:=(List.getElem?_eq_some_iff.1 px).1
 omega
def qRo {L:List Rl}{lv:Nat}{ids:List Nat}(h:EZ L lv ids)(hB:lv%2=0)(h2:2<=lv){i j x y:Nat}(hi:i∈iI (ids.map (key L)) (Cu lv))(hx:ids[i]?=some x)(hy:ids[i+1]?=some y)(hj:L[j]?=some (.pair x y)):Bt L (j+1)=lv:=by
 obtain⟨kx,ky,e1,e2,hf⟩:=qMz hi;rw[bn,hx]at e1;rw[bn,hy]at e2;obtain rfl:key L x=kx:=by simpa using e1
 obtain rfl:key L y=ky:=by simpa using e2
 have hA:x≠y:=fun e=>by subst e;have:=(h.same i x hx hy).1;omega
 have ox:=h.ok x (ak hx);have oy:=h.ok y (ak hy);have h1:=h.diff i x y hx hy hA;have h3:=(vI (low:=max (Bt L x).toNat (Bt L y).toNat) (kG h.wf x) (kG h.wf y)).2 lv oO hB hf;rw[(nM hj (h.wf.ok _ _ hj)).2,if_pos ⟨hA,ox.2.2.1,oy.2.2.1⟩];unfold Hm at h1;omega
structure POk (L:List Rl)(lv:Nat)(ids js:List Nat)(a:Nat)(out:List Nat):Prop where
 le:∀j∈js,j+2<=a
 last:∀u,out[out.length-1]?=some u->Bt L u=lv
 adj:∀p u v,out[p]?=some u->out[p+1]?=some v->Bt L u=lv\/Bt L v=lv\/∃i,i+1<a/\ids[i]?=some u/\ids[i+1]?=some v/\i∉js/\∀j∈js,j+1≠i
 mem:∀u∈out,u∈ids\/(Bt L u=lv/\1<=u/\u<=L.length)
def Er.pok {L:List Rl}{lv:Nat}{ids js out:List Nat}{a:Nat}(h:Er L ids js a out)(hp:∀i∈js,∀x y j,ids[i]?=some x->ids[i+1]?=some y->L[j]?=some (.pair x y)->Bt L (j+1)=lv):POk L lv ids js a out:=by
 induction h with
 |nil=>exact⟨by simp,by simp,by simp,by simp⟩
 | @snoc js out a i x y j h0 h1 h2 h3 h4 ih=>
  have ih:=ih (fun i hi=>hp i (cu _ hi))
  have hA:=hp i (jy _ (bg.2 O)) x y j h2 h3 h4
  have hE:=(ae.1 h3).1
  have hF:((ids.drop a).take (i-a)).length=i-a:=by simp;omega
  have hC:∀q,q<i-a->((ids.drop a).take (i-a))[q]?=ids[a+q]?:=fun q hq=>by rw[ni,if_pos hq,om]
  have hG:=(ae.1 h4).1
  generalize(ids.drop a).take (i-a)=sg at*
  refine⟨?_,?_,?_,?_⟩
  ·intro j' hB
   rcases ay.1 hB with h| h
   ·have:=ih.le j' h;omega
   have:=bg.1 h;omega
  ·intro u hu
   rw[show(out++sg++[j+1]).length-1=(out++sg).length by simp,bi (ai _),uf]at hu
   obtain rfl:j+1=u:=by simpa using hu
   exact hA
  ·intro p u v hu hv
   have hD:p+1<(out++sg++[j+1]).length:=(ae.1 hv).1
   simp at hD
   by_cases c1:p+1=out.length+sg.length
   ·rw[bi (by simp;omega),show p+1-(out++sg).length=0 by simp;omega]at hv
    obtain rfl:j+1=v:=by simpa using hv
    exact .inr (.inl hA)
   rw[aj (by simp;omega)]at hu hv
   by_cases c2:p+1<out.length
   ·rw[aj oO]at hu hv
    rcases ih.adj p u v hu hv with h|h|⟨i0,g1,g2,g3,g4,g5⟩
    ·exact .inl h
    ·exact .inr (.inl h)
    refine .inr (.inr ⟨i0,oO,g2,g3,fun hm=>?_,fun j' hB=>?_⟩)
    ·rcases ay.1 hm with h| h
     ·exact g4 h
     have:=bg.1 h;omega
    rcases ay.1 hB with h| h
    ·exact g5 j' h
    have:=bg.1 h;omega
   by_cases c3:p+1=out.length
   ·rw[aj oO]at hu
    exact .inl (ih.last u (by rw[show out.length-1=p by omega];exact hu))
   rw[bi oO,hC _ oO]at hu hv
   refine .inr (.inr ⟨a+(p-out.length),oO,hu,by rw[<-hv];congr 1;omega,fun hm=>?_,fun j' hB=>?_⟩)
   ·rcases ay.1 hm with h| h
    ·have:=ih.le _ h;omega
    have:=bg.1 h;omega
   rcases ay.1 hB with h| h
   ·have:=ih.le _ h;omega
   have:=bg.1 h;omega
  intro u hu
  rcases ay.1 hu with h| h
  ·rcases ay.1 h with h| h
   ·exact ih.mem u h
   obtain⟨q,hq⟩:=mf h
   have:=(ae.1 hq).1
   rw[hC q oO]at hq
   exact .inl (ak hq)
  have:=bg.1 h
  subst this
  exact .inr ⟨hA,oO,oO⟩
end
section
open Go Sl Eg
theorem Er.inv {L:List Rl}{lv:Nat}{ids out:List Nat}{a:Nat}(h:EZ L lv ids)(hev:lv%2=0)(h2:2<=lv)(hp:Er L ids (iI (ids.map (key L)) (Cu lv)) a out):EZ L (lv+1) (out++ids.drop a):=by
 have hk:=hp.pok (lv:=lv) (fun i hi x y j hx hy hj=>qRo h hev h2 hi hx hy hj)
 have hfit:∀i,(∃x y,ids[i]?=some x/\ids[i+1]?=some y/\fB (Cu lv) (key L x) (key L y))->i∈iI (ids.map (key L)) (Cu lv)\/∃j,i=j+1/\j∈iI (ids.map (key L)) (Cu lv):=by
  rintro i⟨x,y,hx,hy,hf⟩
  exact qGt (by rw[List.getElem?_map,hx];rfl) (by rw[List.getElem?_map,hy];rfl) hf
 generalize iI (ids.map (key L)) (Cu lv)=js at*
 have hadj:∀p u v,(out++ids.drop a)[p]?=some u->(out++ids.drop a)[p+1]?=some v->(Bt L u=lv\/Bt L v=lv)\/(u≠v/\lv+1<=Hm L u v):=by
  intro p u v hu hv
  have main:(Bt L u=lv\/Bt L v=lv)\/∃i,ids[i]?=some u/\ids[i+1]?=some v/\i∉js/\∀j∈js,j+1≠i:=by
   by_cases c2:p+1<out.length
   ·rw[List.getElem?_append_left oO]at hu hv
    rcases hk.adj p u v hu hv with h|h|⟨i,_,h⟩
    ·exact .inl (.inl h)
    ·exact .inl (.inr h)
    exact .inr ⟨i,h⟩
   by_cases c3:p+1=out.length
   ·rw[List.getElem?_append_left oO]at hu
    exact .inl (.inl (hk.last u (by rw[show out.length-1=p by omega];exact hu)))
   rw[List.getElem?_append_right oO,List.getElem?_drop]at hu hv
   refine .inr ⟨a+(p-out.length),hu,by rw[<-hv];congr 1;omega,fun hm=>?_,fun j hj=>?_⟩
   ·have:=hk.le _ hm;omega
   have:=hk.le _ hj;omega
  rcases main with h1|⟨i,g1,g2,g3,g4⟩
  ·exact .inl h1
  right
  have hne:u≠v:=fun e=>by subst e;have:=(h.same i u g1 g2).1;omega
  refine⟨hne,?_⟩
  have hd:=h.diff i u v g1 g2 hne
  have hs:=(vI (low:=max (Bt L u).toNat (Bt L v).toNat) (kG h.wf u) (kG h.wf v)).1
  apply Classical.byContradiction
  intro hlt
  have e:Hm L u v=lv:=oO
  unfold Hm at e
  rw[e]at hs
  rcases hfit i ⟨u,v,g1,g2,hs⟩with h|⟨j,rfl,hj⟩
  ·exact g3 h
  exact g4 j hj O
 refine⟨h.wf,fun u hu=>?_,fun p u hu hv=>?_,fun p u v hu hv hne=>?_⟩
 ·rcases List.mem_append.1 hu with h1|h1
  ·rcases hk.mem u h1 with h3|h3
   ·have:=h.ok u h3;omega
   omega
  have:=h.ok u (List.mem_of_mem_drop h1);omega
 ·rcases hadj p u u hu hv with h1|h1
  ·omega
  exact absurd O h1.1
 rcases hadj p u v hu hv with h1|h1
 ·exact Vn h.wf h1
 exact h1.2
def d0 (L:List Rl):List Nat->Nat
 |x::y::_=>Hm L x y
 |_=>0
def FJ (L:List Rl)(lv:Nat)(ids:List Nat):Nat:=1000*ids.length+(d0 L ids-lv)
def qYy {L lv ids}(h:EZ L lv ids):FJ L lv ids<=1000*ids.length+500:=by
 unfold FJ;match ids,h with
 |[],h=>simp[d0]
 |[x],h=>simp[d0]
 |x::y::l,h=>
  have ox:=h.ok x BF
  have oy:=h.ok y BF
  have:=xQ (low:=max (Bt L x).toNat (Bt L y).toNat) (kG h.wf x) (kG h.wf y)
  simp only[d0,Hm];omega
def qYz {L lv ids out}(h:EZ L lv ids)(h':EZ L (lv+1) out)(hl:2<=ids.length)(ho:out.length<ids.length\/out=ids):FJ L (lv+1) out<FJ L lv ids:=by
 rcases ho with hB|rfl
 ·have:=qYy h';unfold FJ at*;omega
 match out,hl,h,h' with
 |x::y::l,_,h,h'=>
  have hA:x≠y:=fun e=>by
   subst e;have h1:=(h.same 0 x O O).1;have h2:=(h'.same 0 x O O).1;omega
  have:=h'.diff 0 x y rfl rfl hA
  unfold FJ;simp only[d0];omega
def LG {L}(M:List Rl){lv ids}(h:∀x∈ids,x<=L.length):FJ (L++M) lv ids=FJ L lv ids:=by
 unfold FJ;match ids,h with
 |[],h=>rfl
 |[x],h=>rfl
 |x::y::l,h=>
  have hx:=h x BF
  have hy:=h y BF
  simp only[d0,Hm]
  rw[kY M hx,kY M hy,fO M hx,fO M hy]
def Er.shorter {L ids js out a}(h:Er L ids js a out):(out++ids.drop a).length<ids.length\/out++ids.drop a=ids:=by
 have hl:=h.length;match js,h,hl with
 |[],h,hl=>
  right
  have e1:out=[]/\a=0:=by
   generalize hj:([]:List Nat)=js at h;cases h with
   |nil=>exact⟨rfl,rfl⟩
   |snoc _ _ _ _ _=>simp at hj
  rw[e1.1,e1.2];rfl
 |j::js,h,hl=>
  left
  simp at hl ⊢
  omega
def qYh {rs}(h:∀g∈rs,1<=g.2) (hl:DT rs=rs.length):∀g∈rs,g.2=1:=by
 induction rs with
 |nil=>simp
 |cons x rs ih=>
  obtain⟨y,t⟩:=x
  have h1:=zBe (a:=rs) (fun g hg=>h g (lg _ hg))
  have h2:=h (y,t) nk
  simp only[DT,az]at hl h2
  intro g hg
  rcases di.1 hg with rfl|hg
  ·simp only;omega
  exact ih (fun g hg=>h g (lg _ hg)) oO g hg
def Dx.ones {L rs out}(h:Dx L rs out)(h1:∀g∈rs,g.2=1):out=Ch rs:=by
 induction h with
 |nil=>rfl
 | @snoc rs out x t id _ h2 ih=>
  have ht:=h1 (x,t) (jy _ (bg.2 O))
  simp only at ht
  subst ht
  rw[iT,ih (fun g hg=>h1 g (cu _ hg))]
  rcases h2 with⟨_,rfl⟩|⟨h3,_⟩
  ·rfl
  omega
def Dx.shorter {L ids out}(h:Dx L (dE ids) out):out.length<ids.length\/out=ids:=by
 have h1:=h.length;have h2:=sD ids;have h3:DT (dE ids)=ids.length:=by rw[<-kW,kX]
 rcases fw out.length ids.length with hA|hge
 ·exact .inl hA
 right;rw[h.ones (qYh (fun g hg=>(nT ids g hg).1) oO),kX]
end
section
open Go Go.RowKit Sl Eg
set_option maxRecDepth 10000
variable {E:Bp}{Es:List Bj}{pp tb s most:Nat}
inductive EQ (L:List Rl)(bs:List UInt8):Nat->List Nat->Prop where
 |start {ids:List Nat}:Ej L ids bs->EQ L bs 1 ids
 |odd {lv:Nat} {ids out:List Nat}:EQ L bs lv ids->lv%2=1->2<=ids.length->Dx L (dE ids) out->EQ L bs (lv+1) out
 |even {lv a:Nat} {ids out:List Nat}:EQ L bs lv ids->lv%2=0->2<=ids.length->(∀x∈ids,x<=L.length)->Er L ids (iI (ids.map (key L)) (Cu lv)) a out->EQ L bs (lv+1) (out++ids.drop a)
def EQ.ext {L}(M:List Rl){bs lv ids}(h:EQ L bs lv ids):EQ (L++M) bs lv ids:=by
 induction h with
 |start h=>exact .start (h.ext M)
 |odd _ h1 h2 h3 ih=>exact .odd ih h1 h2 (h3.ext M)
 |even _ h1 h2 h4 h3 ih=>exact .even ih h1 h2 (fun x hx=>by have:=h4 x hx;simp;omega) (by rw[yP M h4];exact h3.ext M)
def qRx {L A B x t}:(txt L x).length*t<=(Da L (A++List.replicate t x++B)).length:=by
 rw[kI,kI,qRw];simp[oN];omega
def qRy {L:List Rl}{ids:List Nat}{i x y:Nat}(hx:ids[i]?=some x)(hy:ids[i+1]?=some y):(txt L x).length+(txt L y).length<=(Da L ids).length:=by
 have e:ids=ids.take i++([x]++([y]++ids.drop (i+2))):=by
  have:=dh i ids;rw[Uw hx hy]at this;exact this.symm
 rw[e];simp only[kI,rZ,aa];omega
structure TE where
 lv:Nat
 M:List Bj
 ids:List Nat
structure SY (Es:List Bj)(bs:List UInt8)(x:TE):Prop where
 pos:1<=x.ids.length/\1<=x.lv
 le:x.ids.length<=bs.length
 room:x.M.length+x.ids.length<=2*bs.length
 inv:EZ (BO (Es++x.M)) x.lv x.ids
 text:Da (BO (Es++x.M)) x.ids=bs
 rch:EQ (BO (Es++x.M)) bs x.lv x.ids
 end_ : x.lv + FJ (BO (Es ++ x.M)) x.lv x.ids <= 1000 * bs.length + 501
def SY.out_pos {L bs out}(h:Da L out=bs)(hb:1<=bs.length):1<=out.length:=by
 cases out with
 |nil=>rw[<-h]at hb;simp[Da]at hb
 |cons _ _=>simp
def SY.step {bs x}(h:SY Es bs x){M2 out}(h2:2<=x.ids.length)(hw:Wf (BO (Es++(x.M++M2))))(hl:M2.length+out.length<=x.ids.length)
  (hs:(x.lv%2=1/\Dx (BO (Es++(x.M++M2))) (dE x.ids) out)\/(x.lv%2=0/\∃o a,out=o++x.ids.drop a/\Er (BO (Es++(x.M++M2))) x.ids (iI (x.ids.map (key (BO (Es++x.M)))) (Cu x.lv)) a o)):
  SY Es bs ⟨x.lv+1,x.M++M2,out⟩/\FJ (BO (Es++(x.M++M2))) (x.lv+1) out<FJ (BO (Es++x.M)) x.lv x.ids:=by
 have eL:BO (Es++(x.M++M2))=BO (Es++x.M)++BO M2:=by rw[<-ah,dB]
 have hA:∀y∈x.ids,y<=(BO (Es++x.M)).length:=fun y hy=>(h.inv.ok y hy).2.1
 have hB:∀y∈x.ids,y<=(BO (Es++(x.M++M2))).length:=fun y hy=>by have:=hA y hy;rw[eL];simp;omega
 have i1:EZ (BO (Es++(x.M++M2))) x.lv x.ids:=by rw[eL]at hw ⊢;exact h.inv.ext _ hw
 have t1:Da (BO (Es++(x.M++M2))) x.ids=bs:=by rw[eL,qRv _ hA];exact h.text
 have r1:EQ (BO (Es++(x.M++M2))) bs x.lv x.ids:=by rw[eL];exact h.rch.ext _
 have m1:FJ (BO (Es++(x.M++M2))) x.lv x.ids=FJ (BO (Es++x.M)) x.lv x.ids:=by rw[eL];exact LG _ hA
 have k1:x.ids.map (key (BO (Es++(x.M++M2))))=x.ids.map (key (BO (Es++x.M))):=by rw[eL];exact yP _ hA
 have main:EZ (BO (Es++(x.M++M2))) (x.lv+1) out/\Da (BO (Es++(x.M++M2))) out=bs/\EQ (BO (Es++(x.M++M2))) bs (x.lv+1) out/\(out.length<x.ids.length\/out=x.ids):=by
  have hC:=h.pos;rcases hs with⟨ho,hr⟩|⟨he,o,a,rfl,hp⟩
  ·exact⟨hr.inv i1 ho,by rw[hr.text hw,kX];exact t1,.odd r1 ho h2 hr,hr.shorter⟩
  rw[<-k1]at hp;exact⟨hp.inv i1 he oO,by rw[hp.text hw];exact t1,.even r1 he h2 hB hp,hp.shorter⟩
 obtain⟨a1,a2,a3,a4⟩:=main;have hm:=qYz i1 a1 h2 a4;rw[m1]at hm;have h3:=h.end_;have h4:=h.room;have h5:=h.le;have h6:=h.pos;refine⟨⟨⟨SY.out_pos a2 oO,by show 1<=x.lv+1;omega⟩,by show out.length<=_;omega,by show(x.M++M2).length+out.length<=_;simp;omega,a1,a2,a3,?_⟩,hm⟩;show x.lv+1+FJ (BO (Es++(x.M++M2))) (x.lv+1) out<=_;omega
def Qq (hE:BP E)(hB:Ca E.w0){a:Option Addr}{c:Nat}{bs:List UInt8}{q:HP}(hq:bs≠[]->∃g o,a=some ⟨g,o,none⟩/\∀k,q k->FN E.w0 g o (Bd bs) k) (hn:bs.length<=65536) (hV:Es.length+2*bs.length<=most):
  Ct E 159 [uPt pp,.slice a bs.length c] [cells pp [uPt s,uPt tb] 122,BV tb s (BO Es),bR s most Es,q]
   (fun v Q=>∃M id,v= .tuple #[.int .i64 (id:Nat),.nilIface]/\M.length<=2*bs.length/\txt (BO (Es++M)) id=bs/\Ki (BO (Es++M)) id/\((bs=[]/\id=0)\/∃lv,EQ (BO (Es++M)) bs lv [id])/\
    Q=[cells pp [uPt s,uPt tb] 122,BV tb s (BO (Es++M)),bR s most (Es++M),q]):=by
 refine bO (hE.fn Tryz.func159) O O O (fun R=>?_);simp only[dS,uV,uW];refine TV ?_;refine bE O (fun h0=>?_) (fun h0=>?_)
 ·exfalso;omega
 refine Bc ?_;refine bE O (fun h1=>?_) (fun h1=>?_)
 ·obtain rfl:bs=[]:=dw oO;refine Br ?_;apply cK
  ·rfl
  ·(apply Rs.tmp rfl;apply Rs.tmp rfl;exact Rs.nil)
  ·exact⟨[],0,O,ai _,O,⟨av _,yu _⟩,.inl ⟨O,O⟩,O⟩
  rw[ax];exact uI
 have hb:1<=bs.length:=oO;obtain⟨g,o,rfl,hc⟩:=hq (by rintro rfl;simp at hb);have hd:Es.length+bs.length<=most:=oO;refine CB ?_;refine uX (qTm hE hB hc hn hd) O ?_;rintro _ _⟨M,ids,xs,ys,g1,g2,rfl,hM,hA,hC,rfl⟩;have hK:=hA.le.1;have ex:xs=Bg ids:=by have:=hC.hx;rwa [fe (by have:=hC.xl;omega)]at this
 have ey:ys=EB (ids.map (key (BO (Es++M)))):=by have:=hC.hy;rwa [fe (by have:=hC.yl;omega)]at this
 subst ex ey;simp only[uV,uW];refine CG ?_;refine uU (dA (hE.t O) (fun b6=>?_));refine DW ?_;refine iO (p:=bR s most (Es++M)) uK (fun _ h=>dR h) ?_;rintro⟨hF, -, -, -⟩;refine dX (fun x:TE=>[(0,uPt pp),(6,uPt b6),(8,.int .i64 (x.lv:Nat))]) (fun x=>[cells pp [uPt s,uPt tb] 122,BV tb s (BO (Es++x.M)),bR s most (Es++x.M),cells b6 [.slice (some ⟨g1,0,none⟩) x.ids.length bs.length,.slice (some ⟨g2,0,none⟩) x.ids.length bs.length] 281,sl (some ⟨g1,0,none⟩) bs.length 41 1 x.ids.length (Bg x.ids),sl (some ⟨g2,0,none⟩) bs.length 62 1 x.ids.length (EB (x.ids.map (key (BO (Es++x.M))))),q,R]) (fun x=>FJ (BO (Es++x.M)) x.lv x.ids) (SY Es bs) ⟨1,M,ids⟩ ?_ ?_ ?_ ?_
 ·have hi:=hA.inv hF;have hm:=qYy hi;exact⟨⟨by show 1<=ids.length;omega,ai _⟩,by show ids.length<=_;omega,by show M.length+ids.length<=_;omega,hi,hA.text,.start hA,by show 1+FJ (BO (Es++M)) 1 ids<=_;omega⟩
 ·exact⟨O,O,O,trivial⟩
 ·refine cZ (cO (p:=sl (some ⟨g1,0,none⟩) bs.length 41 1 bs.length (Bg ids)) (p':=sl (some ⟨g1,0,none⟩) bs.length 41 1 ids.length (Bg ids)) uK (fun _ h=>by rw[hK];exact h)) ?_;refine cZ (cO (p:=sl (some ⟨g2,0,none⟩) bs.length 62 1 bs.length (EB (ids.map (key (BO (Es++M)))))) (p':=sl (some ⟨g2,0,none⟩) bs.length 62 1 ids.length (EB (ids.map (key (BO (Es++M)))))) uK (fun _ h=>by rw[hK];exact h)) ?_;exact uI
 clear hA hC hF hM hK;rintro⟨lv,M',ids'⟩hI;clear ids M;have hL:=hI.pos;have he:=hI.le;have hf:=hI.room;have hD:=hI.inv;have hJ:=hI.text;have hW:=hI.rch;have hN:=hI.end_;simp only at hL he hf hD hJ hW hN ⊢;refine Bu ?_;refine bE O (fun hg=>?_) (fun hg=>?_)
 ·have h2:2<=ids'.length:=oO;have hG:∀x∈ids',1<=x/\x<=(Es++M').length:=fun x hx=>by have:=hD.ok x hx;rw[bQ]at this;omega
  have hh:lv<1099511627776:=oO;have hX:(Es++M').length+ids'.length<=most:=by simp;omega
  have hk:dC=1152921504606846976:=rfl
  have hO:∀A x t B,ids'=A++List.replicate t x++B->(txt (BO (Es++M')) x).length*t<=dC:=fun A x t B e=>by
   have:=qRx (L:=BO (Es++M')) (A:=A) (B:=B) (x:=x) (t:=t);rw[<-e,hJ]at this;omega
  have hP:∀i x y,ids'[i]?=some x->ids'[i+1]?=some y->(txt (BO (Es++M')) x).length+(txt (BO (Es++M')) y).length<=dC:=fun i x y hx hy=>by
   have:=qRy (L:=BO (Es++M')) hx hy;rw[hJ]at this;omega
  have hY:ids'.length<=65536:=oO;refine Bq ?_;refine bE O (fun hQ=>?_) (fun hQ=>?_)
  ·refine CG ?_;refine uX (Np hE hB hY hG hO hX) O ?_;rintro _ _⟨M2,out,rfl,hR,hH,rfl⟩;simp only[uV,uW];rw[ah]at hH ⊢;refine Df ?_;refine Sz (p:=bR s most (Es++(M'++M2))) uK (fun _ h=>dR h) ?_;rintro⟨hS, -, -, -⟩;obtain⟨hT,hU⟩:=hI.step (M2:=M2) (out:=out) h2 hS hR (.inl ⟨(by show lv%2=1;omega),hH⟩);refine jY 8 (.int .i64 ((lv+1:Nat):Int)) O (bW oO) ?_;refine bS (ι:=TE) (j:=⟨lv+1,M'++M2,out⟩) hT hU ⟨O,O,O,trivial⟩ ?_;exact uI
  have hZ:lv%2=0:=oO;have hj:2<=lv:=oO;refine Bz ?_;refine uX (Jz hE hB hY hj hZ hh hG hP hX) O ?_;rintro _ _⟨M2,out,a,rfl,hR,hH,rfl⟩;simp only[uV,uW];rw[ah]at hH ⊢;refine Df ?_;refine Sz (p:=bR s most (Es++(M'++M2))) uK (fun _ h=>dR h) ?_;rintro⟨hS, -, -, -⟩;obtain⟨hT,hU⟩:=hI.step (M2:=M2) (out:=out++ids'.drop a) h2 hS hR (.inr ⟨hZ,out,a,rfl,hH⟩);refine jY 8 (.int .i64 ((lv+1:Nat):Int)) O (bW oO) ?_;refine bS (ι:=TE) (j:=⟨lv+1,M'++M2,out++ids'.drop a⟩) hT hU ⟨O,O,O,trivial⟩ ?_;exact uI
 obtain⟨id,rfl⟩:∃id,ids'=[id]:=oZ.1 oO;have f0:(Bg [id])[0]?=some (.int .i64 (id:Nat)):=rfl;have ha:=hD.ok id (by simp);refine CX ?_;exact uZ O (.tmp O (.tmp O .nil)) ⟨M',id,O,oO,by rw[<-hJ,rZ],⟨ha.2.1,ha.2.2.1⟩,.inr ⟨lv,hW⟩,rfl⟩
end
