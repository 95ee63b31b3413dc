import Derived.Test.YtejcjelmpbkcbaaGreatDoorQ9a
set_option linter.all false
set_option maxHeartbeats 1000000
namespace Sl
open Go Go.RowKit
variable {E:Env}{n:Nat}{L:Fr}{S H H':List HP}{ty:TypeId}{pos:String}{af:Array Edge}{d:Option Nat}{gd:Option (Nat×Bool)}{K:Value->List HP->Prop}
def qTm (z:Value)(n:Nat):(Builtin.zeroCells #[z] n).toList=List.replicate n z:=by
 apply kz;intro k;rcases ed k n with hk|hk
 ·rw[oo,if_pos hk];simp[Builtin.zeroCells,hk,Nat.mod_one]
 rw[fq (by simpa[Builtin.zeroCells]using hk),fq (by simpa using hk)]
def ld_clear {x:Operand}{t e:TypeId}{b o c dl dc N by_ sz sz':Nat}{xs zs:List Value}{z:Value}{kk:TK}(ht:E.tab t=some ⟨.slice e 1 by_,sz,zs⟩)(he:E.tab e=some ⟨kk,sz',[z]⟩)
  (hx:ev L x=some (.slice (some ⟨b,o,none⟩) dl dc)) (hd:0<dl) (hm:Take (sl (some ⟨b,0,none⟩) c e 1 N xs) H H') (hp:iR (List.replicate dl z)=true) (hN:o+dl<=N)
  (hk:K (.tuple #[]) (sl (some ⟨b,0,none⟩) c e 1 N (bX xs o (List.replicate dl z))::H')):Ld E n L H ⟨d,.call {callee:= .builtin .clear,args:= #[x],argTypes:= #[t]},ty,pos,af,gd⟩ K:=fun Q next a w G hn=>by
 obtain⟨hu,j,hj,hs,hby⟩:=fB ht;obtain⟨i,z0,hi,hi2,hiz,hzc,_⟩:=eU he;obtain rfl:i=j:=by rw[hi]at hj;simpa using hj
 have hz1:z0.cells= #[z]:=by
  apply ug.1;rw[hzc]
 have s1:=G.hp.take hm;rw[<-hs]at s1;have hxl:xs.length=N*i.size:=by obtain⟨h1,h2,_,_,hh,_⟩:=s1.hp;exact hh.1
 obtain⟨cur,s2,h1,h2,h3,h4⟩:=s1.slice;have hme:N*i.size<=cur.size:=by rw[h3];exact jw _ h1
 have hr1:(List.replicate dl z).length=dl:=qa;rw[hs,oI]at hme hxl;obtain⟨w',hr,ho⟩:=pX (E:=E) cur o (List.replicate dl z) w s2 hp oO
 have hcl:(Builtin.clear_ #[t] ty #[.slice (some ⟨b,o,none⟩) dl dc]).run E.P w= .ok (.tuple #[]) w':=by
  obtain⟨dl,rfl⟩:∃k,dl=k+1:=⟨dl-1,oO⟩;have hzv:(zeroValue e).run E.P w= .ok z0 w:=by simp[zeroValue,typeInfo,program,Sem.run,hi,hiz]
  simp[Builtin.clear_,run_underlying hu,hzv,hz1,qTm,hr]
 have hrun:(execOp a.eval ⟨d,.call {callee:= .builtin .clear,args:= #[x],argTypes:= #[t]},ty,pos,af,gd⟩).run E.P w= .ok (.value (.tuple #[])) w':=by
  simp[execOp,resolve,invoke,builtin,G.f.ev hx,hcl]
 unfold Oper.wp;rw[hrun,Oper.upon_value];refine hn _ _ _ hk (ho.imp fun k' hk'=>fA (fun k'' hk''=>?_) hk');refine⟨by rw[aN,hxl,oI],.inr ⟨b,_,rfl,hk'',h1,h2,by simpa[aN,hs]using h3,?_⟩⟩;rw[mV _ _ _ _ oO,oI];rw[hs,oI]at h4;rw[h4]
end Sl
namespace Go.Proofs.YtejcjelmpbkcbaaGreatDoor
open Go Go.RowKit Sl Eg
set_option maxRecDepth 10000
section
variable {E:Env}{g c:Nat}
def qHt (ids:List Nat):(idC ids).length=ids.length:=by simp[idC]
def qWm (ids:List Nat)(k:Nat):(idC ids).take k=idC (ids.take k):=by simp[idC,qf]
def qHu {xs:List Nat}{k a:Nat}(h:k<xs.length)(o:Nat)(ho:o=k):bX (idC xs) o (bP (.int .i64 (a:Nat)))=idC (xs.set k a):=by
 subst ho;rw[iB _ _ _ (by rw[qHt];exact h)];unfold idC;rw[yj,oP,if_pos (by simpa using h)];simp[bP]
def qWl {xs:List Nat}{k m:Nat}(h:k+m<=xs.length):(bX (idC xs) k (List.replicate m (.int .i64 0))).take (k*1)=idC (xs.take k):=by
 rw[iB _ _ _ (by rw[qHt,qa];exact h),oI,ai,AP (by rw[fw,qHt];omega),qWm]
def qDk:∀(m:Nat),iR (List.replicate m (Value.int .i64 0))=true
 |0=>rfl
 |m+1=>qDk m
structure CpG where
 k:Nat
 i:Nat
 xs:List Nat
def qMw (hE:Seat E){l:List Nat}(hn:l.length<=1000):Ct E 159 [.slice (some ⟨g,0,none⟩) l.length c] [sl (some ⟨g,0,none⟩) c 3 1 l.length (idC l)]
  (fun v Q=>∃V:List Nat,v= .slice (some ⟨g,0,none⟩) V.length c/\(∀x,x∈V↔x∈l)/\V.length<=l.length/\Q=[sl (some ⟨g,0,none⟩) c 3 1 V.length (idC V)]):=by
 refine dW (p:=sl (some ⟨g,0,none⟩) c 3 1 l.length (idC l)) uK (fun _ h=>pE h) ?_;rintro⟨hcap,hcm, -⟩;refine bO (hE.fn Tryz.func159) O O O (fun R=>?_);simp only[dQ,uV,uW];refine gg13 ?_;refine bE O (fun h1=>?_) (fun h1=>?_)
 ·refine gg8 ?_;exact uZ O (.tmp O .nil) ⟨l,O,fun x=>Iff.rfl,aj _,O⟩
 refine gg9 ?_;refine dV (fun k:Nat=>[(0,.slice (some ⟨g,0,none⟩) l.length c),(3,.int .i64 (k:Nat))]) (fun _=>[sl (some ⟨g,0,none⟩) c 3 1 l.length (idC l),R]) (fun k=>l.length-k) (fun k=>1<=k/\k<=l.length) 1 ⟨aj _,oO⟩ ⟨O,O,trivial⟩ uI ?_;rintro k⟨hk1,hk2⟩;refine gg9 ?_;refine bE O (fun h2=>?_) (fun h2=>?_)
 ·have hkl:k<l.length:=oO;obtain⟨a,ha⟩:∃a,l[k]?=some a:=⟨_,ah hkl⟩;obtain⟨b,hb⟩:∃b,l[k-1]?=some b:=⟨_,ah oO⟩;have f0:=eF ha (((k:Nat):Int).toNat) oO;have f1:=eF hb ((((k:Nat):Int)-1).toNat) oO;refine gg18 ?_;refine bE O (fun h3=>?_) (fun h3=>?_)
  ·obtain rfl:a=b:=by omega
   clear f0 f1;refine gg4 ?_;refine uB (qAa (l:=k) (h:=l.length) O (hE.t O) ⟨_,O⟩ O oO hcap) ?_;refine l_eq 28 (.slice (some ⟨g,k,none⟩) (l.length-k) (c-k)) O (by rw[if_neg (by omega:¬c=k)];show Value.slice (some ((⟨g,0,none⟩:Addr).add (k*1))) _ _=_;rw[addr_add];simp) ?_;refine gg10 ?_;refine dV (fun x:CpG=>[(0,.slice (some ⟨g,0,none⟩) l.length c),(3,.int .i64 (x.k:Nat)),(4,.slice (some ⟨g,k,none⟩) (l.length-k) (c-k)),(5,.int .i64 (x.i:Nat))]) (fun x=>[sl (some ⟨g,0,none⟩) c 3 1 l.length (idC x.xs),R]) (fun x=>l.length-x.i) (fun x=>x.xs.length=l.length/\1<=x.i/\k+x.i<=l.length/\x.k<=k+x.i-1/\1<=x.k/\(∀y,y∈x.xs.take x.k↔y∈l.take (k+x.i))/\∀j,k+x.i-1<=j->x.xs[j]?=l[j]?) ⟨k,1,l⟩ ⟨O,aj _,hkl,by simp only;omega,hk1,fun y=>?_,fun j _=>rfl⟩ ⟨rfl,rfl,rfl,rfl,trivial⟩ uI ?_
   ·simp only;rw[di,ha,bi];refine⟨.inl,fun h=>h.elim id fun h=>?_⟩;simp at h;subst h;refine ak (i:=k-1) ?_;rw[kw,if_pos oO];exact hb
   clear ha hb;rintro⟨m,i,xs⟩⟨q1,q2,q3,q4,q5,q6,q7⟩;simp only at q1 q2 q3 q4 q5 q6 q7 ⊢;refine gg9 ?_;refine bE O (fun h4=>?_) (fun h4=>?_)
   ·have hil:k+i<l.length:=oO;obtain⟨u,hu⟩:∃u,l[k+i]?=some u:=⟨_,ah hil⟩;obtain⟨v,hv⟩:∃v,l[k+i-1]?=some v:=⟨_,ah oO⟩;have hu':xs[k+i]?=some u:=by rw[q7 _ oO];exact hu
    have hv':xs[k+i-1]?=some v:=by rw[q7 _ oO];exact hv
    have f0:=eF hu' (k+((i:Nat):Int).toNat*1) oO;have f1:=eF hv' (k+(((i:Nat):Int)-1).toNat*1) oO;refine gg18 ?_;refine bE O (fun h5=>?_) (fun h5=>?_)
    ·refine gg24 ?_;rw[qHu (k:=m) oO (((m:Nat):Int)).toNat oO];refine bS (ι:=CpG) (j:=⟨m+1,i+1,xs.set m u⟩) ⟨by simp only[ny];exact q1,by simp only;omega,by simp only;omega,by simp only;omega,by simp only;omega,fun y=>?_,fun j hj=>?_⟩ (by simp only;omega) ⟨rfl,bg some (bW (by simp only;omega)),rfl,bg some (bW (by simp only;omega)),trivial⟩ uI
     ·simp only
      have e1:(xs.set m u).take (m+1)=xs.take m++[u]:=by
       rw[di,List.take_set_of_le (aj _),oC oO];rfl
      rw[e1,<-ol,di,hu,bi,bi,q6];rfl
     simp only at hj ⊢;rw[lh oO];exact q7 j oO
    obtain rfl:u=v:=by omega
    refine gg8 ?_;refine bS (ι:=CpG) (j:=⟨m,i+1,xs⟩) ⟨q1,by simp only;omega,by simp only;omega,by simp only;omega,q5,fun y=>?_,fun j hj=>q7 j (by simp only at hj;omega)⟩ (by simp only;omega) ⟨rfl,rfl,rfl,bg some (bW (by simp only;omega)),trivial⟩ uI;simp only;rw[q6,<-ol,di,hu,bi];refine⟨.inl,fun h=>h.elim id fun h=>?_⟩;simp at h;subst h;refine ak (i:=k+i-1) ?_;rw[kw,if_pos oO];exact hv
   have hki:k+i=l.length:=oO;refine gg9 ?_;refine uB (qAa (l:=m) (h:=l.length) O (hE.t O) ⟨_,O⟩ O oO hcap) ?_;refine l_eq 56 (.slice (some ⟨g,m,none⟩) (l.length-m) (c-m)) O (by rw[if_neg (by omega:¬c=m)];show Value.slice (some ((⟨g,0,none⟩:Addr).add (m*1))) _ _=_;rw[addr_add];simp) ?_;refine uU ?_;refine ld_clear (hE.t O) (hE.t O) O oO uK (qDk _) oO ?_;refine gg6 ?_;refine uB (fK m O O (hE.t O) O oO) ?_;refine gg9 ?_;have hml:(xs.take m).length=m:=by rw[fw];omega
   apply cK
   ·rfl
   ·(apply Rs.tmp rfl;exact Rs.nil)
   ·exact⟨xs.take m,by rw[hml];rfl,fun x=>by rw[q6,hki,lw],oO,rfl⟩
   rw[hml];refine cZ (cO (p:=sl (some ⟨g,0,none⟩) c 3 1 l.length (bX (idC xs) m (List.replicate (l.length-m) (.int .i64 0)))) (p':=sl (some ⟨g,0,none⟩) c 3 1 m (idC (xs.take m))) uK (lU oO (qWl oO) (by simp))) ?_;exact uI
  refine gg8 ?_;refine bS (ι:=Nat) (j:=k+1) ⟨oO,oO⟩ oO ⟨O,bg some (bW oO),trivial⟩ uI
 refine gg12 ?_;exact uZ O (.tmp O .nil) ⟨l,O,fun x=>Iff.rfl,aj _,O⟩
open Go.Sort in
def qYp {d:Array Nat}{n i j:Nat}(h:d.size=n)(hi:i<n)(hj:j<n):(swp d i j).toList.Perm d.toList/\(swp d i j).size=n:=by
 obtain⟨p1,p2,p3⟩:=swp_permIn d 0 n i j (au _) hi (au _) hj oO;have hx:∀e:Array Nat,e.size=n->e.extract 0 n=e:=fun e h=>by subst h;simp
 rw[hx _ h,hx _ (p1.trans h)]at p3;exact⟨p3,p1.trans h⟩
open Go.Sort in
def qNl (hE:Seat E){l:List Nat}(h0:0<l.length)(hn:l.length<=1000000):Ct E 122 [.slice (some ⟨g,0,none⟩) l.length c] [sl (some ⟨g,0,none⟩) c 3 1 l.length (idC l)]
  (fun v Q=>∃l':List Nat,v= .tuple #[]/\l'.Perm l/\Q=[sl (some ⟨g,0,none⟩) c 3 1 l'.length (idC l')]):=by
 obtain⟨n,hnl⟩:∃n,n=l.length:=⟨_,rfl⟩;have hd:l.toArray.size=n:=by simp[hnl]
 have hdl:idC l=dCO l.toArray:=rfl;rw[<-hnl,hdl];refine bO (hE.fn Tryz.func122) O O O (fun R=>?_);simp only[dQ,uV,uW];refine gg10 ?_;refine dV (fun x:Nat×Nat×Array Nat=>[(0,.slice (some ⟨g,0,none⟩) n c),(2,.int .i64 (x.1:Nat)),(3,.int .i64 (x.2.1:Nat))]) (fun x=>[sl (some ⟨g,0,none⟩) c 3 1 n (dCO x.2.2),R]) (fun x=>x.2.1-x.1) (fun x=>x.2.2.toList.Perm l/\x.2.2.size=n/\x.2.1<n/\x.1<=n) (0,n-1,l.toArray) ⟨List.Perm.refl _,hd,by show n-1<n;omega,by show 0<=n;omega⟩ ⟨rfl,rfl,bg some (bW (by simp only;omega)),trivial⟩ uI ?_;rintro⟨i,j,e⟩⟨hp,hs,hj,hi⟩;simp only at hp hs hi hj ⊢;refine gg8 ?_;refine bE O (fun h1=>?_) (fun h1=>?_)
 ·have f0:=dZ e (i:=i) oO ((i:Int)).toNat oO;have f1:=dZ e (i:=j) oO ((j:Int)).toNat oO;obtain⟨w1,w2⟩:=qYp (i:=i) (j:=j) hs oO hj;refine gg4 ?_;refine gK 13 ([sl (some ⟨g,0,none⟩) c 3 1 n (dCO e)]) [(15,[])] ?_ ?_
  ·exact uI
  refine uP 0 O (aB O) (uP 1 O (aB O) (uP 2 O (aB O) (uP 3 O (aB O) (uP 4 O (aB O) (uP 5 O (aB O) ?_)))));refine uP 6 O (gY) ?_;refine uQ 7 O (uY) ?_;refine uP 8 O (aB O) (uP 9 O (aB O) ?_);refine uP 10 O (gY) ?_;refine uQ 11 O (uY) ?_;refine uP 12 O (gY) ?_;apply jZ O oK O;(first |(apply bL rfl rfl (hE.t rfl) rfl;(focus((repeat constructor);done));(focus rfl);(focus(exact bn rfl)))|(apply aS rfl rfl (hE.t rfl) rfl;(focus((repeat constructor);done));(focus rfl);(focus(first |omega |(simp only[bP,aN,bf,dz];omega)))))
  refine uE ?_;refine uP 14 O (gY) ?_;apply jY O oK oK O;(first |(apply bL rfl rfl (hE.t rfl) rfl;(focus((repeat constructor);done));(focus rfl);(focus(exact bn rfl)))|(apply aS rfl rfl (hE.t rfl) rfl;(focus((repeat constructor);done));(focus rfl);(focus(first |omega |(simp only[bP,aN,bf,dz];omega)))))
  refine gg10 ?_;simp only[bP];rw[jE e (i:=i) (j:=j) oO oO]
  case ho=>omega
  case ho'=>omega
  refine bS (ι:=Nat×Nat×Array Nat) (j:=(i+1,j-1,swp e i j)) ⟨w1.trans hp,w2,by show j-1<n;omega,by show i+1<=n;omega⟩ (by show j-1-(i+1)<j-i;omega) ⟨rfl,bg some (bW (by simp only;omega)),bg some (bW (by simp only;omega)),trivial⟩ uI
 have hel:e.toList.length=n:=by simp[hs]
 refine gg4 ?_;apply wJ
 ·rfl
 ·(exact Rs.nil)
 ·exact⟨e.toList,O,hp,O⟩
 rw[hel];exact uI
def qNk (hE:Seat E){p:Option Addr}{c:Nat}:Ct E 122 [.slice p 0 c] [] (fun v Q=>v= .tuple #[]/\Q=[]):=by
 refine bO (hE.fn Tryz.func122) O O O (fun R=>?_);simp only[dQ,uV,uW];refine gg10 ?_;refine fT 1 ?_;refine gg14 ?_;exact uZe O .nil ⟨O,O⟩
def qMv (hE:Seat E){p:Option Addr}{c:Nat}:Ct E 159 [.slice p 0 c] [] (fun v Q=>v= .slice p 0 c/\Q=[]):=by
 refine bO (hE.fn Tryz.func159) O O O (fun R=>?_);simp only[dQ,uV,uW];refine gg22 ?_;exact uZ O (.tmp O .nil) ⟨O,O⟩
end
section
variable {E:Env}
def tgV (n:Nat):Value:= .agg #[.int .i64 (n:Nat),.bool false]
def tgF (f:List UInt8->Option Nat):List UInt8->Option Value:=fun x=>(f x).map tgV
def setG (f:List UInt8->Option Nat)(x:List UInt8)(n:Nat):List UInt8->Option Nat:=fun y=>if y=x then some n else f y
def qYv (f:List UInt8->Option Nat)(x:List UInt8)(n:Nat):qIv (tgF f) x (tgV n)=tgF (setG f x n):=by
 funext y;unfold qIv tgF setG;split <;>rfl
def qBp {f:List UInt8->Option Nat}{x:List UInt8}{n:Nat}(h:f x=some n):tgF f x=some (tgV n):=by unfold tgF;rw[h];rfl
def tgF_none {f:List UInt8->Option Nat}{x:List UInt8}(h:f x=none):tgF f x=none:=by unfold tgF;rw[h];rfl
def qYu {f:List UInt8->Option Nat}{x:List UInt8}{v:Value}(h:tgF f x=some v):∃n,f x=some n/\v=tgV n:=by
 unfold tgF at h;cases e:f x with
 |none=>rw[e]at h;cases h
 |some n=>rw[e]at h;exact⟨n,rfl,(mg h).symm⟩
def tgF_ne {f:List UInt8->Option Nat}{x:List UInt8}:tgF f x≠none↔f x≠none:=by
 unfold tgF;cases f x<;>simp
def finG (f:List UInt8->Option Nat)(k:Nat):Prop:=∃D:List (List UInt8),D.length<=k/\∀x,f x≠none->x∈D
def finG.cnt {f:List UInt8->Option Nat}{k n:Nat}(h:finG f k)(hc:cntS (tgF f) n):n<=k:=by
 obtain⟨D,h1,h2⟩:=h;obtain⟨M,m1,m2,rfl⟩:=hc;have:=xV m1 (B:=D) fun x hx=>h2 x (tgF_ne.1 (by rw[<-m2];exact qM.1 hx))
 rw[ic]at this;omega
def Kys.len {F:List UInt8->Option Value}{l:List (List UInt8)}{n:Nat}(h:Kys F l)(hc:cntS F n):l.length=n:=by
 have h1:=lY hc h.nd fun x hx=>(h.mem x).1 hx
 obtain⟨M,m1,m2,rfl⟩:=hc;have:=xV m1 (B:=l) fun x hx=>(h.mem x).2 (by rw[<-m2];exact qM.1 hx)
 rw[ic]at this;omega
def tbP (t:Nat)(f:List UInt8->Option Nat):HP:=fun k=>∃b:Nat,dS [cells t [.map (some b)] 165,kL b (tgF f)] k
def vH {t:Nat}{f:List UInt8->Option Nat}:∀k,tbP t f k->∃b:Nat,dS [cells t [.map (some b)] 165,kL b (tgF f)] k:=fun _ h=>h
def nE {t b:Nat}{f:List UInt8->Option Nat}:∀k,dS [cells t [.map (some b)] 165,kL b (tgF f)] k->tbP t f k:=fun _ h=>⟨b,h⟩
def qVc (hE:Seat E):Ct E 27 [] [] (fun v Q=>∃t,v=uPt t/\Q=[tbP t (fun _=>none)]):=by
 refine bO (hE.fn Tryz.func27) O O O (fun R=>?_);simp only[dQ,uV,uW];refine gg7 ?_;refine uU ?_;refine qSn (fun b1=>?_);refine gg1 ?_;refine uU ?_;refine gW O (fun b3=>?_);refine gg4 ?_;apply cK
 ·rfl
 ·(apply Rs.tmp rfl;exact Rs.nil)
 ·exact⟨_,O,O⟩
 exact fH uK (fun k h=>nE (f:=fun _=>none) k h)
def ct_tSet (hE:Seat E){t b n:Nat}{x:List UInt8}{F:List UInt8->Option Value}:Ct E 66 [uPt t,.string ⟨⟨x⟩⟩,.agg #[.int .i64 (n:Nat),.bool false]] [cells t [.map (some b)] 165,kL b F] (fun v Q=>v= .tuple #[]/\Q=[cells t [.map (some b)] 165,kL b (qIv F x (tgV n))]):=by
 refine bO (hE.fn Tryz.func66) O O O (fun R=>?_);simp only[dQ,uV,uW];refine gg2 ?_;refine uU ?_;refine gW O (fun b5=>?_);refine gg9 ?_;refine uB (y_eq_map (k:=9) (e:=170) O (by rw[hE.P];kernel_rfl)) ?_;refine gg5 ?_;refine uN 6 ([cells t [.map (some b)] 165,cells b5 [.int .i64 (n:Nat),.bool false] 170]) ?_;refine gg5 ?_;apply dG 5 O oK
 ·(apply bV rfl (hE.t rfl) rfl;(repeat(first |rfl|assumption|constructor));done)
 ·rfl
 apply fU O oK oK O;apply qFx (kt:=9) (et:=170) (by rw[hE.P];kernel_rfl) (by rw[hE.P];kernel_rfl) O O O
 ·exact uK
 exact uZe O .nil ⟨O,O⟩
def qSa (hE:Seat E){t n:Nat}{x:List UInt8}{f:List UInt8->Option Nat}(hx:ValidN x)(hf:f x=none):Ct E 29 [uPt t,.string ⟨⟨x⟩⟩,.int .i64 (-1),.int .i64 (n:Nat)] [tbP t f] (fun v Q=>v= .nilIface/\Q=[tbP t (setG f x n)]):=by
 have hm1:E.P.underlying 163=some (.map 9 170):=by rw[hE.P];kernel_rfl
 have hm2:E.P.underlying 9=some .string:=by rw[hE.P];kernel_rfl
 have hm3:∀w,(zeroValue 170).run E.P w= .ok (.agg #[.int .i64 0,.bool false]) w:=fun w=>by rw[hE.P];kernel_rfl
 have hz:=tgF_none hf;have hdv:decide (ValidN x)=true:=lq hx;refine Sl.ct_open vH (fun b=>?_);simp only[uV,uW];refine bO (hE.fn Tryz.func29) O O O (fun R=>?_);simp only[dQ,uV,uW];refine gg19 ?_;refine uX (rX hE) O ?_;rintro _ _⟨rfl,rfl⟩;simp only[uV,uW];rw[hdv];refine gg29 ?_;refine uB (qPa hm1 hm2 hm3 O O uK hz) ?_;refine gg3 ?_;refine uU (dA (hE.t O) (fun b9=>?_));refine gg35 ?_;refine uX (ct_tSet hE) O ?_;rintro _ _⟨rfl,rfl⟩;simp only[uV,uW];rw[qYv];refine gg8 ?_;apply cK
 ·rfl
 ·(apply Rs.tmp rfl;exact Rs.nil)
 ·exact⟨O,O⟩
 refine cZ (fH (ps:=[cells t [.map (some b)] 165,kL b (tgF (setG f x n))]) (p:=tbP t (setG f x n)) uK nE) ?_;exact uI
def qVa (hE:Seat E){t n:Nat}{x:List UInt8}{f:List UInt8->Option Nat}(hx:ValidN x)(hf:f x=some n):Ct E 32 [uPt t,.string ⟨⟨x⟩⟩] [tbP t f] (fun v Q=>v= .tuple #[.int .i64 (n:Nat),.bool false,.nilIface]/\Q=[tbP t f]):=by
 have hm1:E.P.underlying 163=some (.map 9 170):=by rw[hE.P];kernel_rfl
 have hm2:E.P.underlying 9=some .string:=by rw[hE.P];kernel_rfl
 have hm3:∀w,(zeroValue 170).run E.P w= .ok (.agg #[.int .i64 0,.bool false]) w:=fun w=>by rw[hE.P];kernel_rfl
 have hz:=qBp hf;have hdv:decide (ValidN x)=true:=lq hx;refine Sl.ct_open vH (fun b=>?_);simp only[uV,uW];refine bO (hE.fn Tryz.func32) O O O (fun R=>?_);simp only[dQ,uV,uW];refine gg21 ?_;refine uX (rX hE) O ?_;rintro _ _⟨rfl,rfl⟩;simp only[uV,uW];rw[hdv];refine gg13 ?_;refine uB (qPa hm1 hm2 hm3 O O uK hz) ?_;refine gg3 ?_;refine uU (dA (hE.t O) (fun b7=>?_));refine gg26 ?_;apply cK
 ·rfl
 ·(apply Rs.tmp rfl;apply Rs.tmp rfl;apply Rs.tmp rfl;exact Rs.nil)
 ·exact⟨O,O⟩
 refine cZ (fH (ps:=[cells t [.map (some b)] 165,kL b (tgF f)]) (p:=tbP t f) uK nE) ?_;exact uI
end
section
variable {E:Env}
def qDz {D:List (List UInt8)}{done:List UInt8->Bool}{k:List UInt8}(h1:D.Nodup)(h2:∀y,y∈D↔done y=true) (hd:done k=false):(D++[k]).Nodup/\∀y,y∈D++[k]↔(y==k||done y)=true:=by
 have hkD:k∉D:=fun h=>by
  have:=(h2 k).1 h;rw[hd]at this;cases this
 refine⟨?_,fun y=>?_⟩
 ·rw[nu];exact⟨h1,by simp,fun a ha b hb e=>by simp at hb;subst hb;subst e;exact hkD ha⟩
 simp only[bi,az,Bool.or_eq_true,beq_iff_eq];rw[h2 y];exact or_comm
def qVb (hE:Seat E){t:Nat}{f:List UInt8->Option Nat}(hf:finG f 12):Ct E 75 [uPt t] [tbP t f] (fun v Q=>∃l q c,v= .slice q l.length c/\Kys (tgF f) l/\Q=[tbP t f,sl q c 9 1 l.length (nmC l)]):=by
 have hm1:E.P.underlying 163=some (.map 9 170):=by rw[hE.P];kernel_rfl
 have hm2:E.P.underlying 9=some .string:=by rw[hE.P];kernel_rfl
 have hm3:∀w,(zeroValue 170).run E.P w= .ok (.agg #[.int .i64 0,.bool false]) w:=fun w=>by rw[hE.P];kernel_rfl
 refine Sl.ct_open vH (fun b=>?_);simp only[uV,uW];refine dW (p:=kL b (tgF f)) uK (fun _ h=>qBf h) ?_;rintro⟨nn,hc⟩;have hn:=hf.cnt hc;refine bO (hE.fn Tryz.func75) O O O (fun R=>?_);simp only[dQ,uV,uW];refine gg27 ?_;refine lT (fV (t:=9) (sz:=1)) ?_;refine uU ?_;apply qCz hm1 O uK;intro br;refine gg3 ?_;refine dV (fun x:NmG=>[(0,uPt t),(3,.slice x.q x.D.length x.d),(11,uPt br)]) (fun x=>[qAs br b (tgF f) x.done,cells t [.map (some b)] 165,sl x.q x.d 9 1 x.D.length (nmC x.D),R]) (fun x=>nn+1-x.D.length) (fun x=>x.D.Nodup/\(∀y,y∈x.D↔x.done y=true)/\∀y∈x.D,tgF f y≠none) ⟨[],fun _=>false,none,0⟩ ⟨.nil,fun y=>by simp,fun y h=>by simp at h⟩ ⟨rfl,rfl,rfl,trivial⟩ uI ?_;rintro⟨D,done,q,dd⟩⟨h1,h2,h3⟩;simp only at h1 h2 h3 ⊢;have hDn:=lY hc h1 h3;refine gg2 ?_;refine uU ?_;apply qHy O uK
 ·intro hall;refine gg5 ?_;refine gF (cO (p:=qAs br b (tgF f) done) (p':=kL b (tgF f)) uK (fun k h=>qIo h)) ?_;refine gF (fH (ps:=[cells t [.map (some b)] 165,kL b (tgF f)]) (p:=tbP t f) uK nE) ?_
  have hmem:∀x,x∈D↔tgF f x≠none:=fun x=>⟨h3 x,fun hx=>by
   cases e:tgF f x with
   |none=>exact absurd e hx
   |some v=>exact(h2 x).2 (hall x v e)⟩
  refine gg8 ?_;rcases fu D.length with h0|h0
  ·obtain rfl:=qi.1 h0;refine uX (qCd hE) O ?_;rintro _ _⟨rfl,rfl⟩;simp only[uV,uW];refine gg9 ?_;exact uZ O (.tmp O .nil) ⟨[],q,dd,O,⟨.nil,hmem,.nil⟩,O⟩
  refine lQ (p:=sl q dd 9 1 D.length (nmC D)) uK (fun _ h=>dX h h0) ?_;rintro⟨g,rfl⟩;refine uX (qKq hE oO) O ?_;rintro _ _⟨l,rfl,hp,hs,rfl⟩;rw[<-hp.length_eq];simp only[uV,uW];refine gg9 ?_;exact uZ O (.tmp O .nil) ⟨l,_,dd,O,⟨hp.nodup_iff.2 h1,fun x=>(hp.mem_iff).trans (hmem x),hs⟩,O⟩
 intro k v hk hd;refine gg10 ?_;refine uB (qJq O uK) ?_;refine lT (fun _ h=>fA (fun _ x=>qOl x) h) ?_;refine gg7 ?_;refine uU ?_;refine aU (hE.t O) (hE.t O) O O O (fun b18=>?_);refine uU ?_;apply bU (hE.t O) (hE.t O) O O O
 ·exact uK
 ·exact uK
 ·rfl
 ·rfl
 ·omega
 ·omega
 ·(unfold maxLen;omega)
 intro g19 c19 n19 x19 hn19 hx19;refine gg3 ?_;obtain rfl:x19=nmC (D++[k]):=by rw[hx19];unfold nmC;rw[jh];rfl
 obtain rfl:n19=(D++[k]).length:=by rw[hn19,ae];rfl
 obtain⟨hnd,hdn⟩:=qDz h1 h2 hd
 have hne:∀y∈D++[k],tgF f y≠none:=fun y hy=>by
  rcases bi.1 hy with hy|hy
  ·exact h3 y hy
  simp at hy;subst hy;rw[hk];simp
 have hb2:=lY hc hnd hne;refine bS (ι:=NmG) (j:=⟨D++[k],fun x=>x==k||done x,some ⟨g19,0,none⟩,c19⟩) ⟨hnd,hdn,hne⟩ (by simp only[ae,ay]at hb2 ⊢;omega) ⟨rfl,rfl,rfl,trivial⟩ uI
def qNa (hE:Seat E){q:Option Addr}{d:Nat}:Ct E 228 [.slice q 0 d,.int .i64 0,.int .i64 0] [] (fun v Q=>v= .tuple #[]/\Q=[]):=by
 refine bO (hE.fn Tryz.func228) O O O (fun R=>?_);simp only[dQ,uV,uW];refine gg8 ?_;refine fT 1 ?_;refine gg14 ?_;exact uZe O .nil ⟨O,O⟩
def qNh (hE:Seat E){q:Option Addr}{d:Nat}{l:Int}:Ct E 201 [.slice q 0 d,.int .i64 0,.int .i64 0,.int .i64 l] [] (fun v Q=>v= .tuple #[]/\Q=[]):=by
 refine bO (hE.fn Tryz.func201) O O O (fun R=>?_);simp only[dQ,uV,uW];refine gg11 ?_;refine fT 1 ?_;refine gg23 ?_;refine uX (qNa hE) O ?_;rintro _ _⟨rfl,rfl⟩;simp only[uV,uW];refine gg7 ?_;exact uZ O .nil ⟨O,O⟩
def qKo (hE:Seat E){q:Option Addr}{d:Nat}:Ct E 158 [.slice q 0 d] [] (fun v Q=>v= .tuple #[]/\Q=[]):=by
 refine bO (hE.fn Tryz.func158) O O O (fun R=>?_);simp only[dQ,uV,uW];refine gg12 ?_;refine uX (kP hE (k:=0) (by decide)) O ?_;rintro _ _⟨rfl,rfl⟩;simp only[uV,uW];refine uX (qNh hE) O ?_;rintro _ _⟨rfl,rfl⟩;simp only[uV,uW];refine gg1 ?_;exact uZe O .nil ⟨O,O⟩
structure TgG where
 D:List (List UInt8)
 A:List Nat
 done:List UInt8->Bool
 q:Option Addr
 d:Nat
def qNm (hE:Seat E){t:Nat}{f:List UInt8->Option Nat}(hf:finG f 12):Ct E 121 [uPt t] [tbP t f] (fun v Q=>∃(V:List Nat)(q:Option Addr)(c:Nat),v= .slice q V.length c/\(∀x,x∈V↔∃y,f y=some x)/\V.length<=12/\Q=[tbP t f,sl q c 3 1 V.length (idC V)]):=by
 have hm1:E.P.underlying 163=some (.map 9 170):=by rw[hE.P];kernel_rfl
 have hm2:E.P.underlying 9=some .string:=by rw[hE.P];kernel_rfl
 have hm3:∀w,(zeroValue 170).run E.P w= .ok (.agg #[.int .i64 0,.bool false]) w:=fun w=>by rw[hE.P];kernel_rfl
 refine Sl.ct_open vH (fun b=>?_);simp only[uV,uW];refine dW (p:=kL b (tgF f)) uK (fun _ h=>qBf h) ?_;rintro⟨nn,hc⟩;have hn:=hf.cnt hc;refine bO (hE.fn Tryz.func121) O O O (fun R=>?_);simp only[dQ,uV,uW];refine gg27 ?_;refine lT (fV (t:=3) (sz:=1)) ?_;refine uU ?_;apply qCz hm1 O uK;intro br;refine gg3 ?_;refine dV (fun x:TgG=>[(0,uPt t),(3,.slice x.q x.A.length x.d),(12,uPt br)]) (fun x=>[qAs br b (tgF f) x.done,cells t [.map (some b)] 165,sl x.q x.d 3 1 x.A.length (idC x.A),R]) (fun x=>nn+1-x.D.length) (fun x=>(x.D.Nodup/\(∀y,y∈x.D↔x.done y=true)/\∀y∈x.D,tgF f y≠none)/\x.A.length=x.D.length/\∀m,m∈x.A↔∃y∈x.D,f y=some m) ⟨[],[],fun _=>false,none,0⟩ ⟨⟨.nil,fun y=>by simp,fun y h=>by simp at h⟩,rfl,fun m=>by simp⟩ ⟨rfl,rfl,rfl,trivial⟩ uI ?_;rintro⟨D,A,done,q,dd⟩⟨⟨h1,h2,h3⟩,h4,h5⟩;simp only at h1 h2 h3 h4 h5 ⊢;have hDn:=lY hc h1 h3;refine gg2 ?_;refine uU ?_;apply qHy O uK
 ·intro hall;refine gg5 ?_;refine gF (cO (p:=qAs br b (tgF f) done) (p':=kL b (tgF f)) uK (fun k h=>qIo h)) ?_;refine gF (fH (ps:=[cells t [.map (some b)] 165,kL b (tgF f)]) (p:=tbP t f) uK nE) ?_;have hmem:∀m,m∈A↔∃y,f y=some m:=fun m=>(h5 m).trans ⟨fun⟨y,_,e⟩=>⟨y,e⟩,fun⟨y,e⟩=>⟨y,(h2 y).2 (hall y _ (qBp e)),e⟩⟩
  refine gg8 ?_;rcases fu A.length with h0|h0
  ·obtain rfl:=qi.1 h0;refine uX (qKo hE) O ?_;rintro _ _⟨rfl,rfl⟩;simp only[uV,uW];refine gg5 ?_;refine uX (qMv hE) O ?_;rintro _ _⟨rfl,rfl⟩;simp only[uV,uW];refine gg4 ?_;exact uZ O (.tmp O .nil) ⟨[],q,dd,O,hmem,au _,O⟩
  refine lQ (p:=sl q dd 3 1 A.length (idC A)) uK (fun _ h=>dX h h0) ?_;rintro⟨g,rfl⟩;refine uX (qKp hE oO) O ?_;rintro _ _⟨l,rfl,hll,hp,hs,rfl⟩;rw[<-hll];simp only[uV,uW];refine gg5 ?_;refine uX (qMw hE oO) O ?_;rintro _ _⟨V,rfl,hV,hVl,rfl⟩;simp only[uV,uW];refine gg4 ?_;exact uZ O (.tmp O .nil) ⟨V,_,dd,O,fun x=>(hV x).trans ((hp.mem_iff).trans (hmem x)),oO,O⟩
 intro k v hk hd;obtain⟨m,hfm,rfl⟩:=qYu hk;refine gg10 ?_;refine uB (qJq O uK) ?_;refine lT (fun _ h=>fA (fun _ x=>qOl x) h) ?_;unfold tgV;refine gg1 ?_;refine uU (dA (hE.t O) (fun b5=>?_));refine gg7 ?_;refine uU ?_;refine aU (hE.t O) (hE.t O) O O O (fun b20=>?_);refine uU ?_;apply bU (hE.t O) (hE.t O) O O O
 ·exact uK
 ·exact uK
 ·rfl
 ·rfl
 ·omega
 ·omega
 ·(unfold maxLen;omega)
 intro g21 c21 n21 x21 hn21 hx21;refine gg3 ?_;obtain rfl:x21=idC (A++[m]):=by rw[hx21,gZ];rfl
 obtain rfl:n21=(A++[m]).length:=by rw[hn21,ae];rfl
 obtain⟨hnd,hdn⟩:=qDz h1 h2 hd
 have hne:∀y∈D++[k],tgF f y≠none:=fun y hy=>by
  rcases bi.1 hy with hy|hy
  ·exact h3 y hy
  simp at hy;subst hy;rw[hk];simp
 have hb2:=lY hc hnd hne;refine bS (ι:=TgG) (j:=⟨D++[k],A++[m],fun x=>x==k||done x,some ⟨g21,0,none⟩,c21⟩) ⟨⟨hnd,hdn,hne⟩,by simp only[ae,ay];omega,fun z=>?_⟩ (by simp only[ae,ay]at hb2 ⊢;omega) ⟨rfl,rfl,rfl,trivial⟩ uI;simp only[bi,az];rw[h5];constructor
 ·rintro(⟨y,hy,e⟩|rfl)
  ·exact⟨y,.inl hy,e⟩
  exact⟨k,.inr O,hfm⟩
 rintro⟨y,hy|rfl,e⟩
 ·exact .inl ⟨y,hy,e⟩
 rw[hfm]at e;exact .inr (mg e).symm
end
