import Derived.Test.YtejcjelmpbkcbaaGreatDoorQ11
set_option linter.all false
set_option maxHeartbeats 1000000
namespace Go.Proofs.YtejcjelmpbkcbaaGreatDoor
open Go Go.RowKit Sl Eg
set_option maxRecDepth 10000
variable {E:Env}{Es:List Ent}{pp tb s most:Nat}
structure PrG where
 k:Nat
 M:List Ent
 out:List Nat
 xs:List Value
 ys:List Value
 a:Nat
def ct_pairs (hE:Seat E)(hB:Base E.w0){g1 g2 c1 c2 l:Nat}{ids:List Nat}(hn:ids.length≤65536)(h2:2≤l)(he:l%2=0)(hll:l<1099511627776)(hids:∀x∈ids,1≤x∧x≤Es.length) (hlen:∀i x y,ids[i]?=some x→ids[i+1]?=some y→(txt (rls Es) x).length+(txt (rls Es) y).length≤dC) (hroom:Es.length+ids.length≤most):
  Ct E 222 [uPt pp,.agg #[.slice (some ⟨g1,0,none⟩) ids.length c1,.slice (some ⟨g2,0,none⟩) ids.length c2],.int .i64 (l:Nat)] [cells pp [uPt s,uPt tb] 117,tabP tb s (rls Es),bR s most Es,sl (some ⟨g1,0,none⟩) c1 56 1 ids.length (idC ids),sl (some ⟨g2,0,none⟩) c2 91 1 ids.length (kyC (ids.map (key (rls Es))))]
   (fun v Q=>∃M out a,v= .tuple #[.agg #[.slice (some ⟨g1,0,none⟩) (out++ids.drop a).length c1,.slice (some ⟨g2,0,none⟩) (out++ids.drop a).length c2],.nilIface]∧M.length+(out++ids.drop a).length≤ids.length∧Prs (rls (Es++M)) ids (gZ (ids.map (key (rls Es))) (lnum l)) a out∧Fresh Es.length (Es++M).length out∧
    Q=[cells pp [uPt s,uPt tb] 117,tabP tb s (rls (Es++M)),bR s most (Es++M),sl (some ⟨g1,0,none⟩) c1 56 1 (out++ids.drop a).length (idC (out++ids.drop a)),sl (some ⟨g2,0,none⟩) c2 91 1 (out++ids.drop a).length (kyC ((out++ids.drop a).map (key (rls (Es++M)))))]):=by
 have hg:=qAi (ids.map (key (rls Es))) (lnum l);have hpl:=qCn hg;have hkl:(ids.map (key (rls Es))).length=ids.length:=by simp
 have hcp:=ct_Pairs (E:=E) (g:=g2) (c:=c2) (l:=l) (ks:=ids.map (key (rls Es))) hE oO h2 he hll;generalize gZ (ids.map (key (rls Es))) (lnum l)=js at*;rw[hkl]at hcp hg hpl;refine eU (p:=sl (some ⟨g1,0,none⟩) c1 56 1 ids.length (idC ids)) uK (fun _ h=>pM h) ?_;rintro⟨hc1, -, -⟩;refine eU (p:=sl (some ⟨g2,0,none⟩) c2 91 1 ids.length (kyC (ids.map (key (rls Es))))) uK (fun _ h=>pM h) ?_;rintro⟨hc2, -, -⟩;refine bO (hE.fn Tryz.func222) O O O (fun R=>?_);simp only[dX,uV,uW];refine gg2 ?_;refine uU ?_;refine gW O (fun b4=>?_);refine uU (cZ (hE.t O) (fun b6=>?_));refine gg4 ?_;refine uN 8 ([cells b4 [.slice (some ⟨g1,0,none⟩) ids.length c1,.slice (some ⟨g2,0,none⟩) ids.length c2] 328]) ?_;refine gg2 ?_;refine uT 2 O (fU 0 O O (hE.t O) O (au _)) ?_;refine gg2 ?_;refine uT 5 O (fU 0 O O (hE.t O) O (au _)) ?_;refine gg1 ?_;apply fI 7 O oK O;refine cZ (hE.t O) (fun b8=>?_);refine uE ?_;apply iH O oK oK O;refine uS ?_;refine gg12 ?_;refine uX (hcp) O ?_;rintro _ _⟨rp,rc,rfl,rfl⟩;simp only[uV,uW];refine gg5 ?_
 refine eQ (fun x:PrG=>[(0,uPt pp),(4,uPt b4),(6,uPt b6),(8,uPt b8),(9,.int .i64 (x.a:Nat)),(25,.slice rp js.length rc),(26,.int .i64 (js.length:Nat)),(27,.int .i64 (x.k:Nat))]) (fun x=>[cells pp [uPt s,uPt tb] 117,tabP tb s (rls (Es++x.M)),bR s most (Es++x.M),cells b8 [.slice (some ⟨g1,0,none⟩) x.out.length c1,.slice (some ⟨g2,0,none⟩) x.out.length c2] 328,sl (some ⟨g1,0,none⟩) c1 56 1 ids.length x.xs,sl (some ⟨g2,0,none⟩) c2 91 1 ids.length x.ys,cells b4 [.slice (some ⟨g1,0,none⟩) ids.length c1,.slice (some ⟨g2,0,none⟩) ids.length c2] 328,cells b6 [.slice none 0 0,.slice none 0 0] 328,sl rp rc 3 1 js.length (idC js),R]) (fun x=>js.length-x.k)
  (fun x=>x.k≤js.length∧x.M.length≤x.k∧Prs (rls (Es++x.M)) ids (js.take x.k) x.a x.out∧Over (rls (Es++x.M)) x.out ids x.xs x.ys∧Gaps (js.drop x.k) x.a ids.length∧Fresh Es.length (Es++x.M).length x.out) ⟨0,[],[],idC ids,kyC (ids.map (key (rls Es))),0⟩ ?_ ?_ ?_ ?_
 ·refine⟨au _,ai _,.nil,?_,hg,?_⟩
  ·show Over (rls (Es++[])) _ _ _ _;rw[aj];exact Over.start _ _
  show Fresh _ (Es++[]).length _;rw[aj];exact qP _ _
 ·exact⟨O,O,O,O,O,O,O,O,trivial⟩
 ·rw[aj];exact uI
 rintro⟨k,M,out,xs,ys,a⟩⟨hk,hM,hpr,hov,hgp,hfr⟩;simp only at hk hM hpr hov hgp hfr ⊢;have hle1:∀y∈ids,y≤(rls (Es++M)).length:=fun y hy=>by have:=(hids y hy).2;rw[bQ];simp;omega
 have hle2:=hpr.le hle1;obtain⟨hoa,han⟩:=hpr.length;rw[jv,kw hk]at hoa;refine gg6 ?_;refine bE O (fun hlt=>?_) (fun hlt=>?_)
 ·have hkn:k<js.length:=oO;obtain⟨i,hi⟩:∃x,js[k]?=some x:=⟨_,ag hkn⟩
  have eD:js.drop k=i::js.drop (k+1):=by
   rw[kz hkn];congr 1;have:=ag hkn;rw[hi]at this;simpa using this.symm
  have eT:js.take (k+1)=js.take k++[i]:=by rw[ic,hi];rfl
  rw[eD]at hgp;obtain⟨hai,hin,hgp2⟩:=hgp;refine jG (p:=sl rp rc 3 1 js.length (idC js)) uK (fun _ h=>fA h oO) ?_;rintro⟨g3,rfl⟩;have f0:=gL hi ((k:Nat):Int).toNat oO;have hov1:=hov.seg (a:=a) (i:=i) oO hai oO;have px:iR ((xs.drop a).take (i-a))=true:=by rw[sN hov.ox oO,idC,←qy,←qg];exact qLv _
  have py:iR ((ys.drop a).take (i-a))=true:=by rw[sN hov.oy oO,kyC,←qy,←qg];exact qLw _
  refine gg12 ?_;refine uN 9 ([cells b8 [.slice (some ⟨g1,0,none⟩) out.length c1,.slice (some ⟨g2,0,none⟩) out.length c2] 328,cells b4 [.slice (some ⟨g1,0,none⟩) ids.length c1,.slice (some ⟨g2,0,none⟩) ids.length c2] 328]) ?_;refine gg5 ?_;apply dG 5 O oK
  ·exact aB O
  ·rfl
  apply dG 6 O oK
  ·exact gD O (hE.t O) ⟨_,O⟩ ⟨_,O⟩ oO oO
  ·rfl
  apply fI 7 O oK O;refine mP (us:=(xs.drop a).take (i-a)) (lo:=a) (N:=ids.length) (hE.t O) (hE.t O) O O (qBh hc1 hai oO) uK (by simp) px oO oO ?_;refine uE ?_;apply dG 8 O oK
  ·exact uBf O
  ·rfl
  apply iH O oK oK O;refine uS ?_;refine gg2 ?_;refine uN 9 ([cells b8 [.slice (some ⟨g1,0,none⟩) (out.length+(i-a)) c1,.slice (some ⟨g2,0,none⟩) out.length c2] 328,cells b4 [.slice (some ⟨g1,0,none⟩) ids.length c1,.slice (some ⟨g2,0,none⟩) ids.length c2] 328]) ?_;refine gg5 ?_;apply dG 5 O oK
  ·exact aB O
  ·rfl
  apply dG 6 O oK
  ·exact gD O (hE.t O) ⟨_,O⟩ ⟨_,O⟩ oO oO
  ·rfl
  apply fI 7 O oK O;refine mP (us:=(ys.drop a).take (i-a)) (lo:=a) (N:=ids.length) (hE.t O) (hE.t O) O O (qBh hc2 hai oO) uK (by simp) py oO oO ?_;refine uE ?_;apply dG 8 O oK
  ·exact uBf O
  ·rfl
  apply iH O oK oK O;refine uS ?_;refine gg1 ?_;simp only[qh];have hl1:(out++(ids.drop a).take (i-a)).length=out.length+(i-a):=by simp;omega
  have hpr1:∀x∈out++(ids.drop a).take (i-a),x≤(rls (Es++M)).length:=fun x hx=>by
   rcases bn.1 hx with h| h
   ·exact hle2 x h
   exact hle1 x (ol (lc h))
  rw[←hl1];obtain⟨x,hx⟩:∃x,ids[i]?=some x:=⟨_,ag oO⟩;obtain⟨y,hy⟩:∃y,ids[i+1]?=some y:=⟨_,ag oO⟩;have hlxy:=hlen i x y hx hy;obtain⟨hx1,hx2⟩:=hids x (ay hx);obtain⟨hy1,hy2⟩:=hids y (ay hy);obtain⟨ix,rfl⟩:∃i,x=i+1:=⟨x-1,oO⟩;obtain⟨iy,rfl⟩:∃i,y=i+1:=⟨y-1,oO⟩;have f1:=hov1.id (k:=((i:Nat):Int).toNat) (x:=ix+1) (by rw[hl1];omega) (by rw[oG];exact hx);have f2:=hov1.id (k:=(((i:Nat):Int)+1).toNat) (x:=iy+1) (by rw[hl1];omega) (by rw[show(((i:Nat):Int)+1).toNat=i+1 by omega];exact hy);refine jG (p:=bR s most (Es++M)) uK (fun _ h=>dS h) ?_;rintro⟨hwf,htx, -, -⟩;have hEx:(Es++M)[ix]?=some Es[ix]:=by rw[ak oO,ag oO]
  have hEy:(Es++M)[iy]?=some Es[iy]:=by rw[ak oO,ag oO]
  have hlt2:(Es[ix]).t.length+(Es[iy]).t.length≤dC:=by rw[htx ix _ hEx,htx iy _ hEy,dA,jQ _ (by rw[bQ];omega),jQ _ (by rw[bQ];omega)];exact hlxy
  have hr:(Es++M).length<most:=by simp;omega
  generalize hxs:bX xs out.length ((xs.drop a).take (i-a))=xs1 at*;generalize hys:bX ys out.length ((ys.drop a).take (i-a))=ys1 at*;generalize ho1:out++(ids.drop a).take (i-a)=out1 at*;refine gg1 ?_;refine uH ([cells pp [uPt s,uPt tb] 117,cells b4 [.slice (some ⟨g1,0,none⟩) ids.length c1,.slice (some ⟨g2,0,none⟩) ids.length c2] 328,sl (some ⟨g1,0,none⟩) c1 56 1 ids.length xs1]) ?_;refine gg15 ?_;apply dH 15 O oK O;refine uC (ct_pairx hE hEx hEy hlt2 hr) O ?_;rintro _ _⟨M2,id,rfl,hid,hrl,hMx,rfl⟩;have hM2:M2.length≤1:=by rcases hMx with rfl|⟨x,rfl,_⟩<;>simp
  obtain⟨j,rfl⟩:∃j,id=j+1:=⟨id-1,oO⟩;rw[dw]at hrl;have hjl:j<(Es++M++M2).length:=by have:=(ae.1 hrl).1;rwa [bQ]at this
  have hov2:Over (rls (Es++M++M2)) out1 ids xs1 ys1:=by rw[dA (Es++M)];exact hov1.ext _ hpr1 hle1
  have hpr2:Prs (rls (Es++M++M2)) ids (js.take (k+1)) (i+2) (out1++[j+1]):=by
   rw[eT,←ho1];exact .snoc (by rw[dA (Es++M)];exact hpr.ext _) hai hx hy hrl
  simp only[uV,uW];refine uE ?_;refine gg7 ?_;refine jG (p:=bR s most (Es++M++M2)) uK (fun _ h=>(dS h).1) ?_;intro hwf2;have hfr2:Fresh Es.length (Es++M++M2).length (out1++[j+1]):=Fresh.more (fun x h1 h3=>by rw[←ho1];exact fu _ (hfr x h1 h3)) (qCm hwf2 hrl hMx);clear hwf2;refine iY (cK (p:=tabP tb s (rls (Es++M))) (p':=tabP tb s (rls (Es++M++M2))) uK (fun _ h=>by rw[dA (Es++M)];exact sD _ h)) ?_;rw[ah]at hjl hrl hov2 hpr2 hfr2 ⊢;have hmn:out1.length<ids.length:=oO;refine gg15 ?_;refine uX (ct_add hE hB hjl hmn) O ?_;rintro _ _⟨rfl,rfl⟩;simp only[uV,uW];refine gg23 ?_;refine jR 27 (.int .i64 ((k+1:Nat):Int)) O (bW oO) ?_;refine jR 9 (.int .i64 ((i+2:Nat):Int)) O (bW oO) ?_;refine bS (ι:=PrG) (j:=⟨k+1,M++M2,out1++[j+1],_,_,i+2⟩) ⟨hkn,by simp;omega,hpr2,hov2.snoc hmn _,hgp2,hfr2⟩ ?_ ?_ ?_
  ·show js.length-(k+1)<js.length-k;omega
  ·exact⟨O,O,O,O,O,O,O,O,trivial⟩
  rw[show(out1++[j+1]).length=out1.length+1 by simp];exact uI
 obtain rfl:k=js.length:=by omega
 rw[bz (ai _)]at hpr;have hov1:=hov.seg (a:=a) (i:=ids.length) oO han (ai _);have px:iR ((xs.drop a).take (ids.length-a))=true:=by rw[sN hov.ox oO,idC,←qy,←qg];exact qLv _
 have py:iR ((ys.drop a).take (ids.length-a))=true:=by rw[sN hov.oy oO,kyC,←qy,←qg];exact qLw _
 refine gg6 ?_;refine uN 8 ([cells b8 [.slice (some ⟨g1,0,none⟩) out.length c1,.slice (some ⟨g2,0,none⟩) out.length c2] 328,cells b4 [.slice (some ⟨g1,0,none⟩) ids.length c1,.slice (some ⟨g2,0,none⟩) ids.length c2] 328]) ?_;refine gg4 ?_;apply dG 4 O oK
 ·exact aB O
 ·rfl
 apply dG 5 O oK
 ·exact gD O (hE.t O) ⟨_,O⟩ O oO oO
 ·rfl
 apply fI 6 O oK O;refine mP (us:=(xs.drop a).take (ids.length-a)) (lo:=a) (N:=ids.length) (hE.t O) (hE.t O) O O (qBh hc1 han (ai _)) uK (by simp) px oO oO ?_;refine uE ?_;apply dG 7 O oK
 ·exact uBf O
 ·rfl
 apply iH O oK oK O;refine uS ?_;refine gg2 ?_;refine uN 8 ([cells b8 [.slice (some ⟨g1,0,none⟩) (out.length+(ids.length-a)) c1,.slice (some ⟨g2,0,none⟩) out.length c2] 328,cells b4 [.slice (some ⟨g1,0,none⟩) ids.length c1,.slice (some ⟨g2,0,none⟩) ids.length c2] 328]) ?_;refine gg4 ?_;apply dG 4 O oK
 ·exact aB O
 ·rfl
 apply dG 5 O oK
 ·exact gD O (hE.t O) ⟨_,O⟩ O oO oO
 ·rfl
 apply fI 6 O oK O;refine mP (us:=(ys.drop a).take (ids.length-a)) (lo:=a) (N:=ids.length) (hE.t O) (hE.t O) O O (qBh hc2 han (ai _)) uK (by simp) py oO oO ?_;refine uE ?_;apply dG 7 O oK
 ·exact uBf O
 ·rfl
 apply iH O oK oK O;refine uS ?_;refine gg1 ?_;simp only[qh];have hseg:(ids.drop a).take (ids.length-a)=ids.drop a:=bz (by simp);have hl1:(out++ids.drop a).length=out.length+(ids.length-a):=by simp
 rw[hseg]at hov1;rw[←hl1];generalize hxs:bX xs out.length ((xs.drop a).take (ids.length-a))=xs1 at*;generalize hys:bX ys out.length ((ys.drop a).take (ids.length-a))=ys1 at*;refine gg8 ?_;apply cB
 ·rfl
 ·((apply Rs.cell rfl (hE.t rfl) rfl;(focus((repeat(first |rfl|assumption|constructor));done)));apply Rs.tmp rfl;exact Rs.nil)
 ·exact⟨M,out,a,O,oO,hpr,hfr,O⟩
 refine cO (cK (p:=sl (some ⟨g1,0,none⟩) c1 56 1 ids.length xs1) (p':=sl (some ⟨g1,0,none⟩) c1 56 1 (out++ids.drop a).length (idC (out++ids.drop a))) uK (nG hov1.le (by rw[qh];exact hov1.hx) (by simp))) ?_;refine cO (cK (p:=sl (some ⟨g2,0,none⟩) c2 91 1 ids.length ys1) (p':=sl (some ⟨g2,0,none⟩) c2 91 1 (out++ids.drop a).length (kyC ((out++ids.drop a).map (key (rls (Es++M)))))) uK (nG hov1.le (by rw[qh];exact hov1.hy) (by simp))) ?_;exact uI
end Go.Proofs.YtejcjelmpbkcbaaGreatDoor
namespace Eg
def num (l:Nat):Nat:=(l/2-1)%123
def num_le (l:Nat):num l≤122:=by unfold num;omega
def tX {low x y:Nat}(hx:x<P61)(hy:y<P61):eY (num (after low x y)) x y∧∀l,low<l→l%2=0→eY (num l) x y→after low x y≤l:=by
 have hc:low/2%123≤122:=oO;have hm:low/2=123*(low/2/123)+low/2%123:=oO;unfold after;rcases mW hc hx hy with⟨h1,h2⟩|⟨k,h1,h2,h3,h4,h5⟩
 ·rw[h1,if_neg oO];rcases mW (c:=0) oO hx hy with⟨g1,_⟩|⟨k,g1,g2,g3,g4,g5⟩
  ·have:=xL hx hy;omega
  rw[g1];simp only[oG];refine⟨?_,fun l hl he hf=>?_⟩
  ·have e:num (2*(low/2+1+k+123-low/2%123))=k:=by unfold num;omega
   rw[e];exact g4
  by_cases hlt:l/2-1<123*(low/2/123)+123
  ·exfalso;have e:num l=l/2-1-123*(low/2/123):=by unfold num;omega
   exact h2 (num l) oO (num_le l) hf
  apply Classical.byContradiction;intro hgt;have e:num l=l/2-1-123*(low/2/123)-123:=by unfold num;omega
  exact g5 (num l) oO oO hf
 rw[h1,if_pos oO];simp only[oG];refine⟨?_,fun l hl he hf=>?_⟩
 ·have e:num (2*(low/2+1+k-low/2%123))=k:=by unfold num;omega
  rw[e];exact h4
 apply Classical.byContradiction;intro hgt;have e:num l=l/2-1-123*(low/2/123):=by unfold num;omega
 exact h5 (num l) oO oO hf
def qOd {ks:List Nat}{c i:Nat}:∀{k:Nat},i∈biF ks c k↔i<k∧i+1<ks.length∧bt (ks[i]?.getD 0) (c/2)=c%2∧bt (ks[i+1]?.getD 0) (c/2)≠c%2
 |0=>by simp[biF]
 |k+1=>by
  rw[biF,bn,qOd];split
  ·rename_i h
   rw[bg];constructor
   ·rintro(⟨h1,h2⟩|rfl)
    ·exact⟨oO,h2⟩
    exact⟨oO,h⟩
   rintro⟨h1,h2⟩;by_cases e:i=k
   ·exact .inr e
   exact .inl ⟨oO,h2⟩
  rename_i h
  constructor
  ·rintro(⟨h1,h2⟩|h1)
   ·exact⟨oO,h2⟩
   cases h1
  rintro⟨h1,h2⟩;by_cases e:i=k
  ·subst e;exact absurd h2 h
  exact .inl ⟨oO,h2⟩
def sP {c x y:Nat}(hc:c≠122):eY c x y↔bt x (c/2)=c%2∧bt y (c/2)≠c%2:=by
 unfold eY;rw[if_neg hc];have:=qJz y (c/2);constructor
 ·rintro⟨h1,h2⟩;exact⟨h1,oO⟩
 rintro⟨h1,h2⟩;exact⟨h1,oO⟩
def xU {f i:Nat}:∀{j:Nat},i∈qAp f j↔∃m,m<j∧i=f+2*m
 |0=>by simp[qAp]
 |j+1=>by
  rw[qAp,bn,xU,bg];constructor
  ·rintro(⟨m,h1,h2⟩|h)
   ·exact⟨m,oO,h2⟩
   exact⟨j,oO,h⟩
  rintro⟨m,h1,h2⟩;by_cases e:m=j
  ·exact .inr (by rw[h2,e])
  exact .inl ⟨m,oO,h2⟩
def qIa {i:Nat}:∀{l:List (Nat×Nat)},i∈iB l↔∃g∈l,i∈qAp g.1 (g.2/2)
 |[]=>by simp[iB]
 |(f,n)::l=>by rw[iB,bn,qIa];simp
structure StOk (ks:List Nat)(k:Nat)(s:Nat×List (Nat×Nat)):Prop where
 le:s.1≤k
 opn:∀i,s.1≤i→i<k→i+1<ks.length∧ks[i+1]?=ks[i]?
 shut:∀g∈s.2,∀i,g.1≤i→i+1<g.1+g.2→i+1<ks.length∧ks[i+1]?=ks[i]?
 all:∀i,i<s.1→i+1<ks.length→ks[i+1]?=ks[i]?→∃g∈s.2,g.1≤i∧i+1<g.1+g.2
def qRd (ks:List Nat):∀k,StOk ks k (stF ks k)
 |0=>⟨ai _,fun i h1 h2=>by omega,fun g hg=>by simp[stF]at hg,fun i h=>by simp[stF]at h⟩
 |k+1=>by
  have h:=qRd ks k;have hle:=h.le;unfold stF;split
  ·rename_i hc
   refine⟨oO,fun i h1 h2=>?_,h.shut,h.all⟩;by_cases e:i=k
   ·subst e;exact hc
   exact h.opn i h1 oO
  rename_i hc
  refine⟨ai _,fun i h1 h2=>by simp only at h1;omega,?_,?_⟩
  ·intro g hg i h1 h2;simp only at hg;split at hg
   ·rcases bn.1 hg with hg|hg
    ·exact h.shut g hg i h1 h2
    obtain rfl:=bg.1 hg;simp only at h1 h2;exact h.opn i h1 oO
   exact h.shut g hg i h1 h2
  intro i h1 h2 h3;simp only at h1 ⊢;by_cases hi:i<(stF ks k).1
  ·obtain⟨g,hg,h4⟩:=h.all i hi h2 h3;refine⟨g,?_,h4⟩;split
   ·exact fu _ hg
   exact hg
  by_cases e:i=k
  ·subst e;exact absurd ⟨h2,h3⟩ hc
  rw[if_pos oO];exact⟨_,mg _ (bg.2 O),by simp only;omega,by simp only;omega⟩
def qFb {ks:List Nat}{g:Nat×Nat}(h:g∈gX ks){i:Nat}(h1:g.1≤i)(h2:i+1<g.1+g.2):i+1<ks.length∧ks[i+1]?=ks[i]?:=(qRd ks _).shut g h i h1 h2
def stF_end (ks:List Nat):(stF ks ks.length).1=ks.length:=by
 have h:=qRd ks ks.length;have:=h.le;apply Classical.byContradiction;intro hne;have:=(h.opn (ks.length-1) oO oO).1;omega
def qJd {ks:List Nat}{i:Nat}(h1:i+1<ks.length)(h2:ks[i+1]?=ks[i]?):∃g∈gX ks,g.1≤i∧i+1<g.1+g.2:=
 (qRd ks ks.length).all i (by rw[stF_end];omega) h1 h2
def qLr {ks:List Nat}{c i:Nat}(h:i∈gZ ks c):∃x y,ks[i]?=some x∧ks[i+1]?=some y∧eY c x y:=by
 unfold gZ at h;split at h
 ·rename_i hc
  obtain⟨g,hg,h2⟩:=qIa.1 h;obtain⟨m,h3,h4⟩:=xU.1 h2;obtain⟨h5,h6⟩:=qFb hg (i:=i) oO oO;have e:=ag h5;refine⟨_,_,by rw[←h6];exact e,e,?_⟩;unfold eY;rw[if_pos hc]
 rename_i hc
 obtain⟨h1,h2,h3⟩:=qOd.1 h;have e1:=ag (l:=ks) (i:=i) oO;have e2:=ag h2;rw[e1,e2]at h3;exact⟨_,_,e1,e2,(sP hc).2 h3⟩
def qFx {ks:List Nat}{c i x y:Nat}(hx:ks[i]?=some x)(hy:ks[i+1]?=some y)(h:eY c x y):i∈gZ ks c∨∃j,i=j+1∧j∈gZ ks c:=by
 have hl:=(ae.1 hy).1;unfold gZ;split
 ·rename_i hc
  unfold eY at h;rw[if_pos hc]at h;obtain⟨g,hg,h1,h2⟩:=qJd hl (by rw[hx,hy,h]);rcases rf (i-g.1)with hm|hm
  ·left;exact qIa.2 ⟨g,hg,xU.2 ⟨(i-g.1)/2,oO,oO⟩⟩
  right;exact⟨i-1,oO,qIa.2 ⟨g,hg,xU.2 ⟨(i-g.1)/2,oO,oO⟩⟩⟩
 rename_i hc
 left;refine qOd.2 ⟨oO,hl,?_⟩;rw[hx,hy];exact(sP hc).1 h
end Eg
namespace Go.Proofs.YtejcjelmpbkcbaaGreatDoor
section
open Go Sl Eg
def rowT (L:List Rl)(ids:List Nat):List UInt8:=(ids.map (txt L)).flatten
def jZ (L:List Rl)(a b:List Nat):rowT L (a++b)=rowT L a++rowT L b:=by simp[rowT]
def rX (L:List Rl)(x:Nat):rowT L [x]=txt L x:=by simp[rowT]
def qQt (L:List Rl)(x t:Nat):rowT L (List.replicate t x)=(List.replicate t (txt L x)).flatten:=by simp[rowT]
def qQs {L:List Rl}(M:List Rl){ids:List Nat}(h:∀x∈ids,x≤L.length):rowT (L++M) ids=rowT L ids:=by
 unfold rowT;rw[oD (fun x hx=>jQ M (h x hx))]
def Lts.text {L:List Rl}{ids:List Nat}{bs:List UInt8}(h:Lts L ids bs):rowT L ids=bs:=by
 induction h with
 |nil=>rfl
 |snoc _ h2 ih=>rw[jZ,ih,rX,gN h2]
def Rns.text {L:List Rl}(hw:Wf L){rs:List (Nat×Nat)}{out:List Nat}(h:Rns L rs out):rowT L out=rowT L (flat rs):=by
 induction h with
 |nil=>rfl
 |snoc _ h2 ih=>
  rw[jZ,ih,rX,iG,jZ]
  congr 1
  simp only[flat,aj]
  rw[qQt]
  rcases h2 with⟨rfl,rfl⟩|⟨_,i,rfl,h3⟩
  ·simp
  exact kW h3 (hw.ok _ _ h3)
def qAx {α:Type}{l:List α}{i:Nat}{x y:α}(hx:l[i]?=some x)(hy:l[i+1]?=some y):l.drop i=x::y::l.drop (i+2):=by
 obtain⟨h1,e1⟩:=ae.1 hx;obtain⟨h2,e2⟩:=ae.1 hy;rw[kz h1,kz h2,e1,e2]
def Prs.text {L:List Rl}(hw:Wf L){ids js out:List Nat}{a:Nat}(h:Prs L ids js a out):rowT L (out++ids.drop a)=rowT L ids:=by
 induction h with
 |nil=>simp
 | @snoc js out a i x y j _ h1 h2 h3 h4 ih=>
  rw[←ih]
  have e:ids.drop a=(ids.drop a).take (i-a)++(x::y::ids.drop (i+2)):=by
   rw[←qAx h2 h3];have:=iw (i-a) (ids.drop a);rw[yj,show a+(i-a)=i by omega]at this;exact this.symm
  conv=>rhs;rw[e]
  simp only[jZ,ah]
  congr 2
  rw[rX,jU h4 (hw.ok _ _ h4)]
  show _=rowT L ([x]++([y]++ids.drop (i+2)))
  simp only[jZ,rX,ah]
end
section
open Go Sl Eg
def aft (L:List Rl)(x y:Nat):Nat:=after (max (lvl L x).toNat (lvl L y).toNat) (key L x) (key L y)
structure Inv (L:List Rl)(lv:Nat)(ids:List Nat):Prop where
 wf:Wf L
 ok:∀x∈ids,1≤x∧x≤L.length∧0≤lvl L x∧lvl L x<lv
 same:∀i x,ids[i]?=some x→ids[i+1]?=some x→lv%2=1∧lvl L x=lv-1
 diff:∀i x y,ids[i]?=some x→ids[i+1]?=some y→x≠y→lv≤aft L x y
def aft_gt {L:List Rl}(hw:Wf L){x y:Nat}:(lvl L x).toNat<aft L x y∧(lvl L y).toNat<aft L x y:=by
 have:=wQ (low:=max (lvl L x).toNat (lvl L y).toNat) (jY hw x) (jY hw y);unfold aft;omega
def qPe {L:List Rl}(hw:Wf L){x y lv:Nat}(h:lvl L x=lv∨lvl L y=lv):lv+1≤aft L x y:=by
 have:=aft_gt hw (x:=x) (y:=y);omega
def Inv.ext {L:List Rl}(M:List Rl){lv:Nat}{ids:List Nat}(h:Inv L lv ids)(hw:Wf (L++M)):Inv (L++M) lv ids:=by
 have hm:∀{i x:Nat},ids[i]?=some x→x≤L.length:=fun hx=>(h.ok _ (ay hx)).2.1
 refine⟨hw,fun x hx=>?_,fun i x h1 h2=>?_,fun i x y h1 h2 h3=>?_⟩
 ·obtain⟨h1,h2,h3⟩:=h.ok x hx;rw[lF M h2];exact⟨h1,by simp;omega,h3⟩
 ·rw[lF M (hm h1)];exact h.same i x h1 h2
 unfold aft;rw[lF M (hm h1),lF M (hm h2),fM M (hm h1),fM M (hm h2)];exact h.diff i x y h1 h2 h3
def Lts.inv {L:List Rl}(hw:Wf L){ids:List Nat}{bs:List UInt8}(h:Lts L ids bs):Inv L 1 ids:=by
 have h0:∀x∈ids,1≤x∧x≤L.length∧lvl L x=0:=by
  induction h with
  |nil=>simp
  |snoc _ h2 ih=>
   intro x hx
   rcases bn.1 hx with h| h
   ·exact ih x h
   obtain rfl:x=_:=bg.1 h
   have:=(ae.1 h2).1
   exact⟨oO,oO,(jD h2).2⟩
 refine⟨hw,fun x hx=>?_,fun i x h1 h2=>?_,fun i x y h1 h2 h3=>?_⟩
 ·obtain⟨h1,h2,h3⟩:=h0 x hx;omega
 ·obtain⟨_,_,h3⟩:=h0 x (ay h1);omega
 have:=aft_gt hw (x:=x) (y:=y);omega
def Rns.get {L:List Rl}{rs:List (Nat×Nat)}{out:List Nat}(h:Rns L rs out):∀(k id:Nat),out[k]?=some id→∃x t,rs[k]?=some (x,t)∧RunId L x t id:=by
 induction h with
 |nil=>intro k id h;simp at h
 | @snoc rs out x t id h1 h2 ih=>
  intro k id' hk
  have hl:=h1.length
  rcases ed k out.length with hlt|hge
  ·rw[ak hlt]at hk
   obtain⟨x',t',h3,h4⟩:=ih k id' hk
   exact⟨x',t',by rw[ak oO];exact h3,h4⟩
  rw[ax hge]at hk
  have hz:k-out.length=0:=by
   have:=(ae.1 hk).1;simp at this;omega
  rw[hz]at hk
  obtain rfl:id=id':=by simpa using hk
  refine⟨x,t,?_,h2⟩
  rw[ax oO,show k-rs.length=0 by omega];rfl
def qQy (l:List Nat):∀(k x t y t':Nat),(dE l)[k]?=some (x,t)→(dE l)[k+1]?=some (y,t')→x≠y:=by
 refine wK (P:=fun l=>∀(k x t y t':Nat),(dE l)[k]?=some (x,t)→(dE l)[k+1]?=some (y,t')→x≠y) ?_ ?_ l
 ·intro k x t y t' h;simp[dE]at h
 intro l z ih k x t y t' h1 h2;rw[iJ]at h1 h2;rcases bu (dE l)with e|⟨a,⟨u,n⟩,e⟩
 ·rw[e,qI]at h2;simp at h2
 rw[bv]at e;by_cases huz:u=z
 ·subst huz;rw[e,jJ]at h1 h2;have hk:k+1<(a++[(u,n+1)]).length:=(ae.1 h2).1;simp at hk;rw[ak oO]at h1;rcases ed (k+1) a.length with hlt|hge
  ·rw[ak hlt]at h2;exact ih k x t y t' (by rw[e,ak oO];exact h1) (by rw[e,ak hlt];exact h2)
  rw[ax hge,show k+1-a.length=0 by omega]at h2;obtain⟨rfl,rfl⟩:u=y∧n+1=t':=by simpa using h2
  exact ih k x t u n (by rw[e,ak oO];exact h1) (by rw[e,ax hge,show k+1-a.length=0 by omega];rfl)
 rw[e,kG a huz]at h1 h2;rcases ed (k+1) (a++[(u,n)]).length with hlt|hge
 ·rw[ak hlt]at h2;rw[ak oO]at h1;exact ih k x t y t' (by rw[e];exact h1) (by rw[e];exact h2)
 have hk:k+1<(a++[(u,n)]++[(z,1)]).length:=(ae.1 h2).1;simp at hk hge;obtain rfl:k=a.length:=by omega
 rw[ax (by simp),show a.length+1-(a++[(u,n)]).length=0 by simp]at h2;rw[ak (by simp),ax oO,oW]at h1;obtain⟨rfl,rfl⟩:u=x∧n=t:=by simpa using h1
 obtain⟨rfl,rfl⟩:z=y∧1=t':=by simpa using h2
 exact huz
def qYk {ids:List Nat}{k x t:Nat}(h:(dE ids)[k]?=some (x,t)):∃A B,ids=A++List.replicate t x++B∧1≤t∧(∀y t',(dE ids)[k+1]?=some (y,t')→∃B',B=y::B'):=by
 have ht:=(nP ids _ (ay h)).1;refine⟨flat ((dE ids).take k),flat ((dE ids).drop (k+1)),?_,ht,fun y t' hy=>?_⟩
 ·have e:dE ids=(dE ids).take (k+1)++(dE ids).drop (k+1):=(iw _ _).symm;conv=>lhs;rw[←lD ids,e,iG,ic,h,iG]
  simp[flat]
 have hp:=(nP ids _ (ay hy)).1;simp only at hp;obtain⟨h1,h2⟩:=ae.1 hy;rw[kz h1,h2,flat];obtain⟨m,rfl⟩:∃m,t'=m+1:=⟨t'-1,oO⟩;exact⟨_,by simp[cu];rfl⟩
end
section
open Go Sl Eg
def qIx {L:List Rl}{lv:Nat}{ids:List Nat}(h:Inv L lv ids)(hodd:lv%2=1){k x t id:Nat}(hr:(dE ids)[k]?=some (x,t))(hi:RunId L x t id):
  x∈ids∧((t=1∧id=x)∨(lvl L id=lv∧∃i,id=i+1∧L[i]?=some (.power x t))):=by
 obtain⟨A,B,e,ht, -⟩:=qYk hr;have hm:x∈ids:=by rw[e];exact fu _ (mg _ (qb.2 ⟨oO,rfl⟩))
 refine⟨hm,?_⟩;rcases hi with h1|⟨h2,i,rfl,h3⟩
 ·exact .inl h1
 right;obtain⟨m,rfl⟩:∃m,t=m+2:=⟨t-2,oO⟩;have e1:ids[A.length]?=some x:=by rw[e,ah,ax (ai _),oW];simp[cu]
 have e2:ids[A.length+1]?=some x:=by rw[e,ah,ax oO,show A.length+1-A.length=1 by omega];simp[cu]
 have hs:=(h.same _ _ e1 e2).2;have hx:=h.ok x hm;refine⟨?_,i,O,h3⟩;rw[(mY h3 (h.wf.ok _ _ h3)).2,if_pos ⟨hx.2.2.1,oO⟩];omega
def Rns.inv {L:List Rl}{lv:Nat}{ids out:List Nat}(h:Inv L lv ids)(hodd:lv%2=1)(hr:Rns L (dE ids) out):Inv L (lv+1) out:=by
 have hne:∀i x y,out[i]?=some x→out[i+1]?=some y→x≠y∧lv+1≤aft L x y:=by
  intro k u v hu hv;obtain⟨x,t,r1,i1⟩:=hr.get k u hu;obtain⟨y,t',r2,i2⟩:=hr.get (k+1) v hv;have hxy:=qQy ids k x t y t' r1 r2;obtain⟨mx,cx⟩:=qIx h hodd r1 i1;obtain⟨my,cy⟩:=qIx h hodd r2 i2;have ox:=h.ok x mx;have oy:=h.ok y my;rcases cx with⟨rfl,rfl⟩|⟨lx,i,rfl,px⟩
  ·rcases cy with⟨rfl,rfl⟩|⟨ly,j,rfl,py⟩
   ·refine⟨hxy,?_⟩;obtain⟨A,B,e,_,hB⟩:=qYk r1;obtain⟨B',rfl⟩:=hB _ _ r2;have e1:ids[A.length]?=some u:=by rw[e,ah,ax (ai _),oW];simp
    have e2:ids[A.length+1]?=some v:=by rw[e,ah,ax oO,show A.length+1-A.length=1 by omega];simp
    have hd:=h.diff _ _ _ e1 e2 hxy;have hev:aft L u v%2=0:=qFe _ _ _;omega
   exact⟨fun e=>by rw[e]at ox;omega,qPe h.wf (.inr ly)⟩
  rcases cy with⟨rfl,rfl⟩|⟨ly,j,rfl,py⟩
  ·exact⟨fun e=>by rw[←e]at oy;omega,qPe h.wf (.inl lx)⟩
  refine⟨fun e=>?_,qPe h.wf (.inl lx)⟩;obtain rfl:i=j:=by omega
  rw[px]at py;injection py with py;injection py with p1 p2;exact hxy p1
 refine⟨h.wf,fun u hu=>?_,fun i x h1 h2=>absurd O (hne i x x h1 h2).1,fun i x y h1 h2 _=>(hne i x y h1 h2).2⟩;obtain⟨k,hk⟩:=kg hu;obtain⟨x,t,r1,i1⟩:=hr.get k u hk;obtain⟨mx,cx⟩:=qIx h hodd r1 i1;have ox:=h.ok x mx;rcases cx with⟨_,rfl⟩|⟨lx,i,rfl,px⟩
 ·omega
 have:=(ae.1 px).1;omega
def qQn {L:List Rl}{lv:Nat}{ids:List Nat}(h:Inv L lv ids)(hev:lv%2=0)(h2:2≤lv){i j x y:Nat}(hi:i∈gZ (ids.map (key L)) (num lv))(hx:ids[i]?=some x)(hy:ids[i+1]?=some y)(hj:L[j]?=some (.pair x y)):lvl L (j+1)=lv:=by
 obtain⟨kx,ky,e1,e2,hf⟩:=qLr hi;rw[bq,hx]at e1;rw[bq,hy]at e2;obtain rfl:key L x=kx:=by simpa using e1
 obtain rfl:key L y=ky:=by simpa using e2
 have hne:x≠y:=fun e=>by subst e;have:=(h.same i x hx hy).1;omega
 have ox:=h.ok x (ay hx);have oy:=h.ok y (ay hy);have h1:=h.diff i x y hx hy hne;have h3:=(tX (low:=max (lvl L x).toNat (lvl L y).toNat) (jY h.wf x) (jY h.wf y)).2 lv oO hev hf;rw[(nI hj (h.wf.ok _ _ hj)).2,if_pos ⟨hne,ox.2.2.1,oy.2.2.1⟩];unfold aft at h1;omega
structure POk (L:List Rl)(lv:Nat)(ids js:List Nat)(a:Nat)(out:List Nat):Prop where
 le:∀j∈js,j+2≤a
 last:∀u,out[out.length-1]?=some u→lvl L u=lv
 adj:∀p u v,out[p]?=some u→out[p+1]?=some v→lvl L u=lv∨lvl L v=lv∨∃i,i+1<a∧ids[i]?=some u∧ids[i+1]?=some v∧i∉js∧∀j∈js,j+1≠i
 mem:∀u∈out,u∈ids∨(lvl L u=lv∧1≤u∧u≤L.length)
def Prs.pok {L:List Rl}{lv:Nat}{ids js out:List Nat}{a:Nat}(h:Prs L ids js a out)(hp:∀i∈js,∀x y j,ids[i]?=some x→ids[i+1]?=some y→L[j]?=some (.pair x y)→lvl L (j+1)=lv):POk L lv ids js a out:=by
 induction h with
 |nil=>exact⟨by simp,by simp,by simp,by simp⟩
 | @snoc js out a i x y j h0 h1 h2 h3 h4 ih=>
  have ih:=ih (fun i hi=>hp i (fu _ hi))
  have hnew:=hp i (mg _ (bg.2 O)) x y j h2 h3 h4
  have hil:=(ae.1 h3).1
  have hsl:((ids.drop a).take (i-a)).length=i-a:=by simp;omega
  have hsg:∀q,q<i-a→((ids.drop a).take (i-a))[q]?=ids[a+q]?:=fun q hq=>by rw[mf,if_pos hq,pz]
  have hjl:=(ae.1 h4).1
  generalize(ids.drop a).take (i-a)=sg at*
  refine⟨?_,?_,?_,?_⟩
  ·intro j' hj'
   rcases bn.1 hj' with h| h
   ·have:=ih.le j' h;omega
   have:=bg.1 h;omega
  ·intro u hu
   rw[show(out++sg++[j+1]).length-1=(out++sg).length by simp,ax (ai _),oW]at hu
   obtain rfl:j+1=u:=by simpa using hu
   exact hnew
  ·intro p u v hu hv
   have hpl:p+1<(out++sg++[j+1]).length:=(ae.1 hv).1
   simp at hpl
   by_cases c1:p+1=out.length+sg.length
   ·rw[ax (by simp;omega),show p+1-(out++sg).length=0 by simp;omega]at hv
    obtain rfl:j+1=v:=by simpa using hv
    exact .inr (.inl hnew)
   rw[ak (by simp;omega)]at hu hv
   by_cases c2:p+1<out.length
   ·rw[ak oO]at hu hv
    rcases ih.adj p u v hu hv with h|h|⟨i0,g1,g2,g3,g4,g5⟩
    ·exact .inl h
    ·exact .inr (.inl h)
    refine .inr (.inr ⟨i0,oO,g2,g3,fun hm=>?_,fun j' hj'=>?_⟩)
    ·rcases bn.1 hm with h| h
     ·exact g4 h
     have:=bg.1 h;omega
    rcases bn.1 hj' with h| h
    ·exact g5 j' h
    have:=bg.1 h;omega
   by_cases c3:p+1=out.length
   ·rw[ak oO]at hu
    exact .inl (ih.last u (by rw[show out.length-1=p by omega];exact hu))
   rw[ax oO,hsg _ oO]at hu hv
   refine .inr (.inr ⟨a+(p-out.length),oO,hu,by rw[←hv];congr 1;omega,fun hm=>?_,fun j' hj'=>?_⟩)
   ·rcases bn.1 hm with h| h
    ·have:=ih.le _ h;omega
    have:=bg.1 h;omega
   rcases bn.1 hj' with h| h
   ·have:=ih.le _ h;omega
   have:=bg.1 h;omega
  intro u hu
  rcases bn.1 hu with h| h
  ·rcases bn.1 h with h| h
   ·exact ih.mem u h
   obtain⟨q,hq⟩:=kg h
   have:=(ae.1 hq).1
   rw[hsg q oO]at hq
   exact .inl (ay hq)
  have:=bg.1 h
  subst this
  exact .inr ⟨hnew,oO,oO⟩
end
section
open Go Sl Eg
def Prs.inv {L:List Rl}{lv:Nat}{ids out:List Nat}{a:Nat}(h:Inv L lv ids)(hev:lv%2=0)(h2:2≤lv)(hp:Prs L ids (gZ (ids.map (key L)) (num lv)) a out):Inv L (lv+1) (out++ids.drop a):=by
 have hk:=hp.pok (lv:=lv) (fun i hi x y j hx hy hj=>qQn h hev h2 hi hx hy hj)
 have hfit:∀i,(∃x y,ids[i]?=some x∧ids[i+1]?=some y∧eY (num lv) (key L x) (key L y))→i∈gZ (ids.map (key L)) (num lv)∨∃j,i=j+1∧j∈gZ (ids.map (key L)) (num lv):=by
  rintro i⟨x,y,hx,hy,hf⟩;exact qFx (by rw[bq,hx];rfl) (by rw[bq,hy];rfl) hf
 generalize gZ (ids.map (key L)) (num lv)=js at*
 have hadj:∀p u v,(out++ids.drop a)[p]?=some u→(out++ids.drop a)[p+1]?=some v→(lvl L u=lv∨lvl L v=lv)∨(u≠v∧lv+1≤aft L u v):=by
  intro p u v hu hv
  have main:(lvl L u=lv∨lvl L v=lv)∨∃i,ids[i]?=some u∧ids[i+1]?=some v∧i∉js∧∀j∈js,j+1≠i:=by
   by_cases c2:p+1<out.length
   ·rw[ak oO]at hu hv;rcases hk.adj p u v hu hv with h|h|⟨i,_,h⟩
    ·exact .inl (.inl h)
    ·exact .inl (.inr h)
    exact .inr ⟨i,h⟩
   by_cases c3:p+1=out.length
   ·rw[ak oO]at hu;exact .inl (.inl (hk.last u (by rw[show out.length-1=p by omega];exact hu)))
   rw[ax oO,pz]at hu hv;refine .inr ⟨a+(p-out.length),hu,by rw[←hv];congr 1;omega,fun hm=>?_,fun j hj=>?_⟩
   ·have:=hk.le _ hm;omega
   have:=hk.le _ hj;omega
  rcases main with h1|⟨i,g1,g2,g3,g4⟩
  ·exact .inl h1
  right;have hne:u≠v:=fun e=>by subst e;have:=(h.same i u g1 g2).1;omega
  refine⟨hne,?_⟩;have hd:=h.diff i u v g1 g2 hne;have hs:=(tX (low:=max (lvl L u).toNat (lvl L v).toNat) (jY h.wf u) (jY h.wf v)).1;apply Classical.byContradiction;intro hlt;have e:aft L u v=lv:=oO;unfold aft at e;rw[e]at hs;rcases hfit i ⟨u,v,g1,g2,hs⟩with h|⟨j,rfl,hj⟩
  ·exact g3 h
  exact g4 j hj O
 refine⟨h.wf,fun u hu=>?_,fun p u hu hv=>?_,fun p u v hu hv hne=>?_⟩
 ·rcases bn.1 hu with h1|h1
  ·rcases hk.mem u h1 with h3|h3
   ·have:=h.ok u h3;omega
   omega
  have:=h.ok u (ol h1);omega
 ·rcases hadj p u u hu hv with h1|h1
  ·omega
  exact absurd O h1.1
 rcases hadj p u v hu hv with h1|h1
 ·exact qPe h.wf h1
 exact h1.2
def d0 (L:List Rl):List Nat→Nat
 |x::y::_=>aft L x y
 |_=>0
def meas (L:List Rl)(lv:Nat)(ids:List Nat):Nat:=1000*ids.length+(d0 L ids-lv)
def qXb {L:List Rl}{lv:Nat}{ids:List Nat}(h:Inv L lv ids):meas L lv ids≤1000*ids.length+500:=by
 unfold meas;match ids,h with
 |[],h=>simp[d0]
 |[x],h=>simp[d0]
 |x::y::l,h=>
  have ox:=h.ok x (by simp)
  have oy:=h.ok y (by simp)
  have:=wQ (low:=max (lvl L x).toNat (lvl L y).toNat) (jY h.wf x) (jY h.wf y)
  simp only[d0,aft];omega
def qXc {L:List Rl}{lv:Nat}{ids out:List Nat}(h:Inv L lv ids)(h':Inv L (lv+1) out)(hl:2≤ids.length)(ho:out.length<ids.length∨out=ids):meas L (lv+1) out<meas L lv ids:=by
 rcases ho with hlt|rfl
 ·have:=qXb h';unfold meas at*;omega
 match out,hl,h,h' with
 |x::y::l,_,h,h'=>
  have hne:x≠y:=fun e=>by
   subst e;have h1:=(h.same 0 x O O).1;have h2:=(h'.same 0 x O O).1;omega
  have:=h'.diff 0 x y rfl rfl hne
  unfold meas;simp only[d0];omega
def meas_ext {L:List Rl}(M:List Rl){lv:Nat}{ids:List Nat}(h:∀x∈ids,x≤L.length):meas (L++M) lv ids=meas L lv ids:=by
 unfold meas;match ids,h with
 |[],h=>rfl
 |[x],h=>rfl
 |x::y::l,h=>
  have hx:=h x (by simp)
  have hy:=h y (by simp)
  simp only[d0,aft]
  rw[lF M hx,lF M hy,fM M hx,fM M hy]
def Prs.shorter {L:List Rl}{ids js out:List Nat}{a:Nat}(h:Prs L ids js a out):(out++ids.drop a).length<ids.length∨out++ids.drop a=ids:=by
 have hl:=h.length;match js,h,hl with
 |[],h,hl=>
  right
  have e1:out=[]∧a=0:=by
   generalize hj:([]:List Nat)=js at h;cases h with
   |nil=>exact⟨rfl,rfl⟩
   |snoc _ _ _ _ _=>simp at hj
  rw[e1.1,e1.2];rfl
 |j::js,h,hl=>
  left
  simp at hl ⊢
  omega
def qWc {rs:List (Nat×Nat)}(h:∀g∈rs,1≤g.2) (hl:tsum rs=rs.length):∀g∈rs,g.2=1:=by
 induction rs with
 |nil=>simp
 |cons x rs ih=>
  obtain⟨y,t⟩:=x
  have h1:=qZc (a:=rs) (fun g hg=>h g (og _ hg))
  have h2:=h (y,t) oC
  simp only[tsum,av]at hl h2
  intro g hg
  rcases iq.1 hg with rfl|hg
  ·simp only;omega
  exact ih (fun g hg=>h g (og _ hg)) oO g hg
def Rns.ones {L:List Rl}{rs:List (Nat×Nat)}{out:List Nat}(h:Rns L rs out)(h1:∀g∈rs,g.2=1):out=flat rs:=by
 induction h with
 |nil=>rfl
 | @snoc rs out x t id _ h2 ih=>
  have ht:=h1 (x,t) (mg _ (bg.2 O))
  simp only at ht
  subst ht
  rw[iG,ih (fun g hg=>h1 g (fu _ hg))]
  rcases h2 with⟨_,rfl⟩|⟨h3,_⟩
  ·rfl
  omega
def Rns.shorter {L:List Rl}{ids out:List Nat}(h:Rns L (dE ids) out):out.length<ids.length∨out=ids:=by
 have h1:=h.length;have h2:=rY ids;have h3:tsum (dE ids)=ids.length:=by rw[←lC,lD]
 rcases ed out.length ids.length with hlt|hge
 ·exact .inl hlt
 right;rw[h.ones (qWc (fun g hg=>(nP ids g hg).1) oO),lD]
end
section
open Go Go.RowKit Sl Eg
set_option maxRecDepth 10000
variable {E:Env}{Es:List Ent}{pp tb s most:Nat}
inductive Rch (L:List Rl)(bs:List UInt8):Nat→List Nat→Prop where
 |start {ids:List Nat}:Lts L ids bs→Rch L bs 1 ids
 |odd {lv:Nat} {ids out:List Nat}:Rch L bs lv ids→lv%2=1→2≤ids.length→Rns L (dE ids) out→Rch L bs (lv+1) out
 |even {lv a:Nat} {ids out:List Nat}:Rch L bs lv ids→lv%2=0→2≤ids.length→(∀x∈ids,x≤L.length)→Prs L ids (gZ (ids.map (key L)) (num lv)) a out→Rch L bs (lv+1) (out++ids.drop a)
def Rch.ext {L:List Rl}(M:List Rl){bs:List UInt8}{lv:Nat}{ids:List Nat}(h:Rch L bs lv ids):Rch (L++M) bs lv ids:=by
 induction h with
 |start h=>exact .start (h.ext M)
 |odd _ h1 h2 h3 ih=>exact .odd ih h1 h2 (h3.ext M)
 |even _ h1 h2 h4 h3 ih=>exact .even ih h1 h2 (fun x hx=>by have:=h4 x hx;simp;omega) (by rw[xP M h4];exact h3.ext M)
def qQu {L:List Rl}{A B:List Nat}{x t:Nat}:(txt L x).length*t≤(rowT L (A++List.replicate t x++B)).length:=by
 rw[jZ,jZ,qQt];simp[qf];omega
def qQv {L:List Rl}{ids:List Nat}{i x y:Nat}(hx:ids[i]?=some x)(hy:ids[i+1]?=some y):(txt L x).length+(txt L y).length≤(rowT L ids).length:=by
 have e:ids=ids.take i++([x]++([y]++ids.drop (i+2))):=by
  have:=iw i ids;rw[qAx hx hy]at this;exact this.symm
 rw[e];simp only[jZ,rX,aa];omega
structure OfG where
 lv:Nat
 M:List Ent
 ids:List Nat
structure OfI (Es:List Ent)(bs:List UInt8)(x:OfG):Prop where
 pos:1≤x.ids.length∧1≤x.lv
 le:x.ids.length≤bs.length
 room:x.M.length+x.ids.length≤2*bs.length
 inv:Inv (rls (Es++x.M)) x.lv x.ids
 text:rowT (rls (Es++x.M)) x.ids=bs
 rch:Rch (rls (Es++x.M)) bs x.lv x.ids
 end_ : x.lv + meas (rls (Es ++ x.M)) x.lv x.ids ≤ 1000 * bs.length + 501
def OfI.out_pos {L:List Rl}{bs:List UInt8}{out:List Nat}(h:rowT L out=bs)(hb:1≤bs.length):1≤out.length:=by
 cases out with
 |nil=>rw[←h]at hb;simp[rowT]at hb
 |cons _ _=>simp
def OfI.step {bs:List UInt8}{x:OfG}(h:OfI Es bs x){M2:List Ent}{out:List Nat}(h2:2≤x.ids.length)(hw:Wf (rls (Es++(x.M++M2))))(hl:M2.length+out.length≤x.ids.length)
  (hs:(x.lv%2=1∧Rns (rls (Es++(x.M++M2))) (dE x.ids) out)∨(x.lv%2=0∧∃o a,out=o++x.ids.drop a∧Prs (rls (Es++(x.M++M2))) x.ids (gZ (x.ids.map (key (rls (Es++x.M)))) (num x.lv)) a o)):
  OfI Es bs ⟨x.lv+1,x.M++M2,out⟩∧meas (rls (Es++(x.M++M2))) (x.lv+1) out<meas (rls (Es++x.M)) x.lv x.ids:=by
 have eL:rls (Es++(x.M++M2))=rls (Es++x.M)++rls M2:=by rw[←ah,dA]
 have hle:∀y∈x.ids,y≤(rls (Es++x.M)).length:=fun y hy=>(h.inv.ok y hy).2.1
 have hle2:∀y∈x.ids,y≤(rls (Es++(x.M++M2))).length:=fun y hy=>by have:=hle y hy;rw[eL];simp;omega
 have i1:Inv (rls (Es++(x.M++M2))) x.lv x.ids:=by rw[eL]at hw ⊢;exact h.inv.ext _ hw
 have t1:rowT (rls (Es++(x.M++M2))) x.ids=bs:=by rw[eL,qQs _ hle];exact h.text
 have r1:Rch (rls (Es++(x.M++M2))) bs x.lv x.ids:=by rw[eL];exact h.rch.ext _
 have m1:meas (rls (Es++(x.M++M2))) x.lv x.ids=meas (rls (Es++x.M)) x.lv x.ids:=by rw[eL];exact meas_ext _ hle
 have k1:x.ids.map (key (rls (Es++(x.M++M2))))=x.ids.map (key (rls (Es++x.M))):=by rw[eL];exact xP _ hle
 have main:Inv (rls (Es++(x.M++M2))) (x.lv+1) out∧rowT (rls (Es++(x.M++M2))) out=bs∧Rch (rls (Es++(x.M++M2))) bs (x.lv+1) out∧(out.length<x.ids.length∨out=x.ids):=by
  have hpos:=h.pos;rcases hs with⟨ho,hr⟩|⟨he,o,a,rfl,hp⟩
  ·exact⟨hr.inv i1 ho,by rw[hr.text hw,lD];exact t1,.odd r1 ho h2 hr,hr.shorter⟩
  rw[←k1]at hp;exact⟨hp.inv i1 he oO,by rw[hp.text hw];exact t1,.even r1 he h2 hle2 hp,hp.shorter⟩
 obtain⟨a1,a2,a3,a4⟩:=main;have hm:=qXc i1 a1 h2 a4;rw[m1]at hm;have h3:=h.end_;have h4:=h.room;have h5:=h.le;have h6:=h.pos;refine⟨⟨⟨OfI.out_pos a2 oO,by show 1≤x.lv+1;omega⟩,by show out.length≤_;omega,by show(x.M++M2).length+out.length≤_;simp;omega,a1,a2,a3,?_⟩,hm⟩;show x.lv+1+meas (rls (Es++(x.M++M2))) (x.lv+1) out≤_;omega
def ct_OfQ (hE:Seat E)(hB:Base E.w0){a:Option Addr}{c:Nat}{bs:List UInt8}{q:HP}(hq:bs≠[]→∃g o,a=some ⟨g,o,none⟩∧∀k,q k→RdAt E.w0 g o (byC bs) k) (hn:bs.length≤65536) (hroom:Es.length+2*bs.length≤most):
  Ct E 190 [uPt pp,.slice a bs.length c] [cells pp [uPt s,uPt tb] 117,tabP tb s (rls Es),bR s most Es,q]
   (fun v Q=>∃M id,v= .tuple #[.int .i64 (id:Nat),.nilIface]∧M.length≤2*bs.length∧txt (rls (Es++M)) id=bs∧good (rls (Es++M)) id∧((bs=[]∧id=0)∨∃lv,Rch (rls (Es++M)) bs lv [id])∧
    Q=[cells pp [uPt s,uPt tb] 117,tabP tb s (rls (Es++M)),bR s most (Es++M),q]):=by
 refine bO (hE.fn Tryz.func190) O O O (fun R=>?_);simp only[dX,uV,uW];refine gg36 ?_;refine bE O (fun h0=>?_) (fun h0=>?_)
 ·exfalso;omega
 refine gg10 ?_;refine bE O (fun h1=>?_) (fun h1=>?_)
 ·obtain rfl:bs=[]:=dh oO;refine gg8 ?_;apply cB
  ·rfl
  ·(apply Rs.tmp rfl;apply Rs.tmp rfl;exact Rs.nil)
  ·exact⟨[],0,O,ai _,O,⟨au _,zu _⟩,.inl ⟨O,O⟩,O⟩
  rw[aj];exact uI
 have hb1:1≤bs.length:=oO;obtain⟨g,o,rfl,hqq⟩:=hq (by rintro rfl;simp at hb1);have hr0:Es.length+bs.length≤most:=oO;refine gg6 ?_;refine uX (qSb hE hB hqq hn hr0) O ?_;rintro _ _⟨M,ids,xs,ys,g1,g2,rfl,hM,hlts,hrow, -,rfl⟩;have hil:=hlts.le.1;have ex:xs=idC ids:=by have:=hrow.hx;rwa [bz (by have:=hrow.xl;omega)]at this
 have ey:ys=kyC (ids.map (key (rls (Es++M)))):=by have:=hrow.hy;rwa [bz (by have:=hrow.yl;omega)]at this
 subst ex ey;simp only[uV,uW];refine gg3 ?_;refine uU (cZ (hE.t O) (fun b6=>?_));refine gg21 ?_;refine jG (p:=bR s most (Es++M)) uK (fun _ h=>dS h) ?_;rintro⟨hwf0, -, -, -⟩;refine eQ (fun x:OfG=>[(0,uPt pp),(6,uPt b6),(8,.int .i64 (x.lv:Nat))]) (fun x=>[cells pp [uPt s,uPt tb] 117,tabP tb s (rls (Es++x.M)),bR s most (Es++x.M),cells b6 [.slice (some ⟨g1,0,none⟩) x.ids.length bs.length,.slice (some ⟨g2,0,none⟩) x.ids.length bs.length] 328,sl (some ⟨g1,0,none⟩) bs.length 56 1 x.ids.length (idC x.ids),sl (some ⟨g2,0,none⟩) bs.length 91 1 x.ids.length (kyC (x.ids.map (key (rls (Es++x.M))))),q,R]) (fun x=>meas (rls (Es++x.M)) x.lv x.ids) (OfI Es bs) ⟨1,M,ids⟩ ?_ ?_ ?_ ?_
 ·have hi:=hlts.inv hwf0;have hm:=qXb hi;exact⟨⟨by show 1≤ids.length;omega,ai _⟩,by show ids.length≤_;omega,by show M.length+ids.length≤_;omega,hi,hlts.text,.start hlts,by show 1+meas (rls (Es++M)) 1 ids≤_;omega⟩
 ·exact⟨O,O,O,trivial⟩
 ·refine cO (cK (p:=sl (some ⟨g1,0,none⟩) bs.length 56 1 bs.length (idC ids)) (p':=sl (some ⟨g1,0,none⟩) bs.length 56 1 ids.length (idC ids)) uK (fun _ h=>by rw[hil];exact h)) ?_;refine cO (cK (p:=sl (some ⟨g2,0,none⟩) bs.length 91 1 bs.length (kyC (ids.map (key (rls (Es++M)))))) (p':=sl (some ⟨g2,0,none⟩) bs.length 91 1 ids.length (kyC (ids.map (key (rls (Es++M)))))) uK (fun _ h=>by rw[hil];exact h)) ?_;exact uI
 clear hlts hrow hwf0 hM hil;rintro⟨lv,M',ids'⟩hI;clear ids M;have hpos:=hI.pos;have hle:=hI.le;have hrm:=hI.room;have hinv:=hI.inv;have htx:=hI.text;have hrc:=hI.rch;have hend:=hI.end_;simp only at hpos hle hrm hinv htx hrc hend ⊢;refine gg9 ?_;refine bE O (fun hlt=>?_) (fun hlt=>?_)
 ·have h2:2≤ids'.length:=oO;have hids:∀x∈ids',1≤x∧x≤(Es++M').length:=fun x hx=>by have:=hinv.ok x hx;rw[bQ]at this;omega
  have hlv:lv<1099511627776:=oO;have hr1:(Es++M').length+ids'.length≤most:=by simp;omega
  have hmx:dC=1152921504606846976:=rfl
  have hln1:∀A x t B,ids'=A++List.replicate t x++B→(txt (rls (Es++M')) x).length*t≤dC:=fun A x t B e=>by
   have:=qQu (L:=rls (Es++M')) (A:=A) (B:=B) (x:=x) (t:=t);rw[←e,htx]at this;omega
  have hln2:∀i x y,ids'[i]?=some x→ids'[i+1]?=some y→(txt (rls (Es++M')) x).length+(txt (rls (Es++M')) y).length≤dC:=fun i x y hx hy=>by
   have:=qQv (L:=rls (Es++M')) hx hy;rw[htx]at this;omega
  have hin:ids'.length≤65536:=oO;refine gg12 ?_;refine bE O (fun hodd=>?_) (fun hodd=>?_)
  ·refine gg3 ?_;refine uX (ct_runs hE hB hin hids hln1 hr1) O ?_;rintro _ _⟨M2,out,rfl,hM2,hrn, -,rfl⟩;simp only[uV,uW];rw[ah]at hrn ⊢;refine gg22 ?_;refine qGs (p:=bR s most (Es++(M'++M2))) uK (fun _ h=>dS h) ?_;rintro⟨hwf, -, -, -⟩;obtain⟨hI2,hm2⟩:=hI.step (M2:=M2) (out:=out) h2 hwf hM2 (.inl ⟨(by show lv%2=1;omega),hrn⟩);refine jR 8 (.int .i64 ((lv+1:Nat):Int)) O (bW oO) ?_;refine bS (ι:=OfG) (j:=⟨lv+1,M'++M2,out⟩) hI2 hm2 ⟨O,O,O,trivial⟩ ?_;exact uI
  have hev:lv%2=0:=oO;have h2l:2≤lv:=oO;refine gg4 ?_;refine uX (ct_pairs hE hB hin h2l hev hlv hids hln2 hr1) O ?_;rintro _ _⟨M2,out,a,rfl,hM2,hrn, -,rfl⟩;simp only[uV,uW];rw[ah]at hrn ⊢;refine gg22 ?_;refine qGs (p:=bR s most (Es++(M'++M2))) uK (fun _ h=>dS h) ?_;rintro⟨hwf, -, -, -⟩;obtain⟨hI2,hm2⟩:=hI.step (M2:=M2) (out:=out++ids'.drop a) h2 hwf hM2 (.inr ⟨hev,out,a,rfl,hrn⟩);refine jR 8 (.int .i64 ((lv+1:Nat):Int)) O (bW oO) ?_;refine bS (ι:=OfG) (j:=⟨lv+1,M'++M2,out++ids'.drop a⟩) hI2 hm2 ⟨O,O,O,trivial⟩ ?_;exact uI
 obtain⟨id,rfl⟩:∃id,ids'=[id]:=nz.1 oO;have f0:(idC [id])[0]?=some (.int .i64 (id:Nat)):=rfl;have hok:=hinv.ok id (by simp);refine gg16 ?_;exact uZ O (.tmp O (.tmp O .nil)) ⟨M',id,O,oO,by rw[←htx,rX],⟨hok.2.1,hok.2.2.1⟩,.inr ⟨lv,hrc⟩,rfl⟩
end
