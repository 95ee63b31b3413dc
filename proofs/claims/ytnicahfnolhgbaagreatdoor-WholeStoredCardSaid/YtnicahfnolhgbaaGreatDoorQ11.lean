import Derived.Test.YtnicahfnolhgbaaGreatDoorQ10
import Derived.Laws.MakeOwn
set_option linter.all false
set_option maxHeartbeats 1000000
namespace Go.Proofs.YtnicahfnolhgbaaGreatDoor
open Go Go.RowKit Sl Eg
set_option maxRecDepth 10000
variable {E:Bp}
def Ef (l:Nat):Nat:=(l/2-1)%123
def OU (l:Nat):Ef l<123:=tq _ oO
def xX (hE:BP E){l}(h2:2<=l)(he:l%2=0)(hl:l<1099511627776)(hc:Ef l=122):Ct E 206 [BK l] []
  (fun v Q=>v= .tuple ⟨[BL 0,.int .u64 0,.bool true]⟩/\Q=[]):=by
 apply rG;intro w;rw[hE.P];refine(qHf l w h2 he hl).mono ?_;rintro e w'⟨h1,h3⟩;refine⟨?_,h3⟩;rw[h1];unfold Ef at hc;rw[if_pos hc]
def xW (hE:BP E){l}(h2:2<=l)(he:l%2=0)(hl:l<1099511627776)(hc:¬Ef l=122):Ct E 206 [BK l] []
  (fun v Q=>v= .tuple ⟨[BL ((Ef l/2:Nat):Int),.int .u64 ((Ef l%2:Nat):Int),.bool false]⟩/\Q=[]):=by
 apply rG;intro w;rw[hE.P];refine(qHf l w h2 he hl).mono ?_;rintro e w'⟨h1,h3⟩;refine⟨?_,h3⟩;rw[h1];unfold Ef at hc;rw[if_neg hc];rfl
structure Pq where
 k:Nat
 l:List Nat
 p:Option Addr
 c:Nat
def qLf (hE:BP E){g c l:Nat}{ks:List Nat}(hl:ks.length<1048577)(h2:2<=l)(he:l%2=0)(hG:l<1099511627776)(hc:¬Ef l=122):
  Ct E 197 [.slice (some ⟨g,0,none⟩) ks.length c,.int .i64 (l:Nat)] [sl (some ⟨g,0,none⟩) c 62 1 ks.length (EB ks)]
   (fun v Q=>∃p c',v= .slice p (Ho ks (Ef l) (ks.length-1)).length c'/\Q=[sl p c' 3 1 (Ho ks (Ef l) (ks.length-1)).length (Bg (Ho ks (Ef l) (ks.length-1))),sl (some ⟨g,0,none⟩) c 62 1 ks.length (EB ks)]):=by
 have hn:=OU l;refine bO (hE.fn Tryz.func197) O O O (fun R=>?_);simp only[dS,uV,uW];refine Bo ?_;refine dV 15 O (fun h0=>?_) (fun h0=>?_)
 ·exfalso;omega
 refine Bu ?_;refine bE O (fun h1=>?_) (fun h1=>?_)
 ·exfalso;omega
 refine Bc ?_;refine uX (xW hE h2 he hG hc) O ?_;rintro _ _⟨rfl,rfl⟩;simp only[uV,uW];refine CX ?_;clear hc;generalize Ef l=cc at*;refine Bu ?_;refine dX (fun x:Pq=>[(0,.slice (some ⟨g,0,none⟩) ks.length c),(5,.slice x.p x.l.length x.c),(6,.int .i64 ((cc/2:Nat):Int)),(7,.int .u64 ((cc%2:Nat):Int)),(12,.int .i64 (x.k:Nat))]) (fun x=>[sl x.p x.c 3 1 x.l.length (Bg x.l),sl (some ⟨g,0,none⟩) c 62 1 ks.length (EB ks),R]) (fun x=>ks.length-x.k) (fun x=>x.k<=ks.length-1/\x.l=Ho ks cc x.k) ⟨0,[],none,0⟩ ?_ ?_ ?_ ?_
 ·exact⟨av _,O⟩
 ·exact⟨O,O,O,O,O,trivial⟩
 ·apply cZ (fU (t:=3) (sz:=1));exact uI
 rintro⟨k,rs,p,c1⟩⟨hk,hA⟩;simp only at hk hA ⊢;refine Bc ?_;refine bE O (fun hH=>?_) (fun hH=>?_)
 ·have hI:k+1<ks.length:=oO;obtain⟨x,hx⟩:∃x,ks[k]?=some x:=⟨_,ag oO⟩;obtain⟨y,hy⟩:∃y,ks[k+1]?=some y:=⟨_,ag oO⟩;have f0:=VV hx ((k:Nat):Int).toNat oO;have f1:=VV hy (((k:Nat):Int)+1).toNat oO;have hN:rs.length<=k:=hA▸Zx ks cc k
  have eB:Ho ks cc (k+1)=rs++if bt x (cc/2)=cc%2/\bt y (cc/2)≠cc%2 then[k]else[]:=by
   rw[Ho,<-hA,hx,hy];by_cases h:bt x (cc/2)=cc%2/\bt y (cc/2)≠cc%2
   ·rw[if_pos h,if_pos ⟨hI,h⟩]
   rw[if_neg h,if_neg (fun q=>h q.2)]
  refine CX ?_;refine dV 66 O (fun h5=>?_) (fun h5=>?_)
  ·have hB:bt x (cc/2)=cc%2:=by unfold bt;omega
   refine DL ?_;refine bE O (fun h6=>?_) (fun h6=>?_)
   ·have hC:bt y (cc/2)≠cc%2:=(by unfold bt;omega);rw[if_pos ⟨hB,hC⟩]at eB;refine CG ?_;refine uU ?_;refine aU (hE.t O) (hE.t O) O O O (fun hO=>?_);refine uU ?_;apply bU (hE.t O) (hE.t O) O O O
    ·exact uK
    ·exact uK
    ·rfl
    ·rfl
    ·omega
    ·omega
    ·(unfold maxLen;omega)
    intro hJ hK hL hM hD hF;refine Bu ?_;obtain rfl:hL=(rs++[k]).length:=by rw[hD];simp
    obtain rfl:hM=Bg (rs++[k]):=by rw[hF];unfold Bg;rw[kv];rfl
    refine jY 12 (.int .i64 ((k+1:Nat):Int)) O (bW oO) ?_;refine bS (ι:=Pq) (j:=⟨k+1,rs++[k],some ⟨hJ,0,none⟩,hK⟩) ?_ ?_ ?_ ?_
    ·exact⟨by show k+1<=_;omega,eB.symm⟩
    ·show ks.length-(k+1)<ks.length-k;omega
    ·exact⟨O,O,O,O,O,trivial⟩
    exact uI
   have hC:¬bt y (cc/2)≠cc%2:=(by unfold bt;omega);rw[if_neg (fun q=>hC q.2),ax]at eB;refine Br ?_;refine jY 12 (.int .i64 ((k+1:Nat):Int)) O (bW oO) ?_;refine bS (ι:=Pq) (j:=⟨k+1,rs,p,c1⟩) ?_ ?_ ?_ ?_
   ·exact⟨by show k+1<=_;omega,eB.symm⟩
   ·show ks.length-(k+1)<ks.length-k;omega
   ·exact⟨O,O,O,O,O,trivial⟩
   exact uI
  have hB:¬bt x (cc/2)=cc%2:=by unfold bt;omega
  rw[if_neg (fun q=>hB q.1),ax]at eB;refine Df ?_;refine jY 12 (.int .i64 ((k+1:Nat):Int)) O (bW oO) ?_;refine bS (ι:=Pq) (j:=⟨k+1,rs,p,c1⟩) ?_ ?_ ?_ ?_
  ·exact⟨by show k+1<=_;omega,eB.symm⟩
  ·show ks.length-(k+1)<ks.length-k;omega
  ·exact⟨O,O,O,O,O,trivial⟩
  exact uI
 refine Bq ?_;obtain rfl:k=ks.length-1:=by omega
 subst hA;exact uZ O (.tmp O .nil) ⟨p,c1,O,O⟩
def MK {st:List (Nat×Nat)}{m f q:Nat}(h:st[m]?=some (f,q)):iJ (st.take (m+1))=iJ (st.take m)++Iz f (q/2):=by
 rw[ed,h,zm,qFe];simp[iJ]
def Wz (f:Nat):∀j,(Iz f j).length=j
 |0=>rfl
 |j+1=>by simp[Iz,Wz f j]
def qNv:∀{st:List (Nat×Nat)}{m f q a e:Nat},FX st a e->st[m]?=some (f,q)->f+q<=e/\a+2*(iJ (st.take m)).length<=f
 |[],m,f,q,a,e,_,h=>by simp at h
 |(f',n')::st,0,f,q,a,e,⟨h0,h1,h2⟩,h=>by
  obtain⟨rfl,rfl⟩:f'=f/\n'=q:=by simpa using h
  have:=Xv h2;exact⟨this,h0⟩
 |(f',n')::st,m+1,f,q,a,e,⟨h0,h1,h2⟩,h=>by
  obtain⟨h3,h4⟩:=qNv h2 (m:=m) (by simpa using h);refine⟨h3,?_⟩;simp only[oD,iJ,aa,Wz];omega
def qLg (hE:BP E){g c l:Nat}{ks:List Nat}(hl:ks.length<1048577)(h2:2<=l)(he:l%2=0)(hF:l<1099511627776)(hc:Ef l=122):
  Ct E 197 [.slice (some ⟨g,0,none⟩) ks.length c,.int .i64 (l:Nat)] [sl (some ⟨g,0,none⟩) c 62 1 ks.length (EB ks)]
   (fun v Q=>∃p c',v= .slice p (iJ (iH ks)).length c'/\Q=[sl p c' 3 1 (iJ (iH ks)).length (Bg (iJ (iH ks))),sl (some ⟨g,0,none⟩) c 62 1 ks.length (EB ks)]):=by
 have hH:=vC ks;have hQ:(iH ks).length<=ks.length:=We ks _;refine bO (hE.fn Tryz.func197) O O O (fun R=>?_);simp only[dS,uV,uW];refine Bo ?_;refine dV 15 O (fun h0=>?_) (fun h0=>?_)
 ·exfalso;omega
 refine Bu ?_;refine bE O (fun h1=>?_) (fun h1=>?_)
 ·exfalso;omega
 refine Bc ?_;refine uX (xX hE h2 he hF hc) O ?_;rintro _ _⟨rfl,rfl⟩;simp only[uV,uW];refine CX ?_;clear hc;refine Bz ?_;refine uX (qLh hE hl) O ?_;rintro _ _⟨sp,sc,rfl,rfl⟩;simp only[uV,uW];generalize iH ks=st at*;refine Bw ?_;refine dX (fun x:Pq=>[(5,.slice x.p x.l.length x.c),(28,.slice sp st.length sc),(29,.int .i64 (st.length:Nat)),(30,.int .i64 (x.k:Nat))]) (fun x=>[sl x.p x.c 3 1 x.l.length (Bg x.l),sl sp sc 330 2 st.length (FI st),sl (some ⟨g,0,none⟩) c 62 1 ks.length (EB ks),R]) (fun x=>st.length-x.k) (fun x=>x.k<=st.length/\x.l=iJ (st.take x.k)) ⟨0,[],none,0⟩ ?_ ?_ ?_ ?_
 ·exact⟨av _,O⟩
 ·exact⟨O,O,O,O,trivial⟩
 ·apply cZ (fU (t:=3) (sz:=1));exact uI
 rintro⟨m,rs,p,c1⟩⟨hk,hA⟩;simp only at hk hA ⊢;refine CB ?_;refine bE O (fun hI=>?_) (fun hI=>?_)
 ·have hJ:m<st.length:=oO;obtain⟨⟨f,q⟩,hx⟩:∃x,st[m]?=some x:=⟨_,ag hJ⟩;have eT:=MK hx;obtain⟨hR,hK⟩:=qNv hH hx;rw[<-hA]at eT hK;refine iO (p:=sl sp sc 330 2 st.length (FI st)) uK (fun _ h=>eG h oO) ?_;rintro⟨g1,rfl⟩;have f0:(FI st)[0+((m:Nat):Int).toNat*2]?=some (.int .i64 (f:Nat)):=by rw[show 0+((m:Nat):Int).toNat*2=m*2 by omega];exact(Ti hx).1
  have f1:(FI st)[0+((m:Nat):Int).toNat*2+1]?=some (.int .i64 (q:Nat)):=by rw[show 0+((m:Nat):Int).toNat*2+1=m*2+1 by omega];exact(Ti hx).2
  refine Br ?_;refine uU (dA (hE.t O) (fun hG=>?_));refine Bu ?_;refine dX (fun x:Pq=>[(5,.slice x.p x.l.length x.c),(10,uPt hG),(11,.int .i64 ((2*x.k:Nat):Int)),(28,.slice (some ⟨g1,0,none⟩) st.length sc),(29,.int .i64 (st.length:Nat)),(30,.int .i64 (m:Nat))]) (fun x=>[cells hG [.int .i64 (f:Nat),.int .i64 (q:Nat)] 330,sl x.p x.c 3 1 x.l.length (Bg x.l),sl (some ⟨g1,0,none⟩) sc 330 2 st.length (FI st),sl (some ⟨g,0,none⟩) c 62 1 ks.length (EB ks),R]) (fun x=>q-x.k) (fun x=>x.k<=q/2/\x.l=rs++Iz f x.k) ⟨0,rs,p,c1⟩ ?_ ?_ ?_ ?_
  ·exact⟨av _,(ax rs).symm⟩
  ·exact⟨O,O,O,O,O,O,trivial⟩
  ·exact uI
  clear hA;rintro⟨j,ls,p',c2⟩⟨hj,hB⟩;simp only at hj hB ⊢;have hF:ls.length=rs.length+j:=by rw[hB,aa,Wz]
  refine Bc ?_;refine bE O (fun hL=>?_) (fun hL=>?_)
  ·refine Bc ?_;refine uU ?_;refine aU (hE.t O) (hE.t O) O O O (fun hS=>?_);refine uU ?_;apply bU (hE.t O) (hE.t O) O O O
   ·exact uK
   ·exact uK
   ·rfl
   ·rfl
   ·omega
   ·omega
   ·(unfold maxLen;omega)
   intro hM hN hO hP hC hD;refine Bu ?_;obtain rfl:hO=(ls++[f+2*j]).length:=by rw[hC];simp
   obtain rfl:hP=Bg (ls++[f+2*j]):=by rw[hD];unfold Bg;rw[kv];rfl
   refine jY 11 (.int .i64 ((2*(j+1):Nat):Int)) O (bW oO) ?_;refine bS (ι:=Pq) (j:=⟨j+1,ls++[f+2*j],some ⟨hM,0,none⟩,hN⟩) ?_ ?_ ?_ ?_
   ·exact⟨by show j+1<=_;omega,by show _=rs++(Iz f j++[f+2*j]);rw[hB,ah]⟩
   ·show q-(j+1)<q-j;omega
   ·exact⟨O,O,O,O,O,O,trivial⟩
   exact uI
  obtain rfl:j=q/2:=by omega
  refine Bc ?_;refine jY 30 (.int .i64 ((m+1:Nat):Int)) O (bW oO) ?_;refine bS (ι:=Pq) (j:=⟨m+1,ls,p',c2⟩) ?_ ?_ ?_ ?_
  ·exact⟨by show m+1<=_;omega,by rw[hB];exact eT.symm⟩
  ·show st.length-(m+1)<st.length-m;omega
  ·exact⟨O,O,O,O,trivial⟩
  exact uI
 refine CP ?_;rw[fe oO]at hA;subst hA;exact uZ O (.tmp O .nil) ⟨p,c1,O,O⟩
def Jh (hE:BP E){g c l ks}(hl:ks.length<1048577)(h2:2<=l)(he:l%2=0)(hA:l<1099511627776):
  Ct E 197 [.slice (BM g) ks.length c,BK l] [sl (BM g) c 62 1 ks.length (EB ks)]
   (fun v Q=>∃p c',v= .slice p (iI ks (Ef l)).length c'/\Q=[sl p c' 3 1 (iI ks (Ef l)).length (Bg (iI ks (Ef l))),sl (BM g) c 62 1 ks.length (EB ks)]):=by
 unfold iI;split
 ·exact qLg hE hl h2 he hA (by assumption)
 exact qLf hE hl h2 he hA (by assumption)
end Go.Proofs.YtnicahfnolhgbaaGreatDoor
namespace Sl
open Go Go.RowKit
variable {E:Bp}{n:Nat}{L:Fr}{S H H':List HP}{ty:TypeId}{pos:String}{af:Array Edge}{d:Option Nat}{gd:Option (Nat×Bool)}{K:Value->List HP->Prop}{Q:Exit->Act->World->Prop}
def Lv {t e:TypeId}{i:TypeInfo}(ht:E.P.underlying t=some (.slice e))(hi:E.P.info? e=some i){b c m k cc N q xs us w}(ty:TypeId)
  (s:CR E.w0 w (sl (BM b) c e i.size N xs::H)) (hu:us.length=k*i.size) (hq:∀j u,us[j]?=some u->w.cell? (q.add j)=some u) (hp:iU us=true) (hN:m+k<=N):
  ∃w',(Builtin.append_ #[t,t] ty #[.slice (BM b) m c,.slice (some q) k cc]).run E.P w= .ok (.slice (BM b) (m+k) c) w'/\CR E.w0 w' (sl (BM b) c e i.size N (bX xs (m*i.size) us)::H):=by
 have hC:xs.length=N*i.size:=by obtain⟨h1,h2,_,_,hh,_⟩:=s.hp;exact hh.1
 obtain⟨cur,s1,h1,h2,h3,h4⟩:=s.slice;have hF:N*i.size<=cur.size:=by rw[h3];exact kg _ h1
 have hG:m*i.size+k*i.size<=N*i.size:=by rw[<-qc];exact kg _ hN
 obtain⟨w',hr,hs⟩:=tZ (E:=E) cur (m*i.size) us w s1 hp oO;have hD:=run_firstCells_some (P:=E.P) w i.size k q k cc us hu hq;have hA:m+k<=c:=oO;refine⟨w',?_,hs.imp fun k' hE=>eU (fun k'' hB=>?_) hE⟩
 ·simp[Builtin.append_,run_underlying ht,Go.sizeOf,typeInfo,hi,Builtin.lenOf,hA,hD,Addr.add_lit,hr]
 refine⟨by rw[aN,hC],.inr ⟨b,_,rfl,hB,h1,h2,by simpa[aN]using h3,?_⟩⟩;rw[qE _ _ _ _ oO,h4]
def qB {x y}{t e:TypeId}{c m k cc N b g es by_ sz sz' xs us zs zs' kk H''}{bt:TypeId}(ht:E.tab t=some ⟨.slice e es by_,sz,zs⟩)(he:E.tab e=some ⟨kk,sz',zs'⟩)
  (hx:ev L x=some (.slice (BM b) m c)) (hy:ev L y=some (.slice (BM g) k cc)) (hm:CO (cells g us bt) H H') (hC:CO (sl (BM b) c e es N xs) H' H'') (hp:iU us=true) (hl:us.length=k*es) (hN:m+k<=N)
  (hk:K (.slice (BM b) (m+k) c) (sl (BM b) c e es N (bX xs (m*es) us)::H'')):Ld E n L H ⟨d,.call {callee:= .builtin .append,args:= #[x,y],argTypes:= #[t,t]},ty,pos,af,gd⟩ K:=fun Q next a w G hn=>by
 obtain⟨hu,j,hj,hs,hD⟩:=fD ht;obtain⟨i,z,hi,hE,hF,hG,_⟩:=fC he;obtain rfl:i=j:=by rw[hi]at hj;simpa using hj
 subst hs;have s1:=G.hp.take hm;have s2:CR E.w0 w (sl (BM b) c e i.size N xs::cells g us bt::H''):=(s1.imp fun _ h=>gK (fG (fun _=>hC.out) h));have hA:∀j u,us[j]?=some u->w.cell? ((⟨g,0,none⟩:Addr).add j)=some u:=fun j u hu=>by rw[addr_add,jh];exact s1.cell j hu
 obtain⟨w',hr,ho⟩:=Lv hu hi ty (m:=m) (cc:=cc) s2 hl hA hp hN
 have hB:(execOp a.eval ⟨d,.call {callee:= .builtin .append,args:= #[x,y],argTypes:= #[t,t]},ty,pos,af,gd⟩).run E.P w= .ok (.value (.slice (BM b) (m+k) c)) w':=by
  simp[execOp,resolve,invoke,builtin,G.f.ev hx,G.f.ev hy,hr]
 unfold Oper.wp;rw[hB,Oper.upon_value];exact hn _ _ _ hk (ho.imp fun _=>fG fun _=>Wh)
def mP {x y}{t e:TypeId}{c m k cc lo N b es by_ sz sz' q xs us zs zs' kk}(ht:E.tab t=some ⟨.slice e es by_,sz,zs⟩)(he:E.tab e=some ⟨kk,sz',zs'⟩)
  (hx:ev L x=some (.slice (BM b) m c)) (hy:ev L y=some (.slice (some q) k cc)) (hq:k=0\/q=⟨b,lo*es,none⟩) (hD:CO (sl (BM b) c e es N xs) H H') (hC:us=(xs.drop (lo*es)).take (k*es)) (hp:iU us=true) (hE:lo+k<=N) (hN:m+k<=N)
  (hk:K (.slice (BM b) (m+k) c) (sl (BM b) c e es N (bX xs (m*es) us)::H')):Ld E n L H ⟨d,.call {callee:= .builtin .append,args:= #[x,y],argTypes:= #[t,t]},ty,pos,af,gd⟩ K:=fun Q next a w G hn=>by
 obtain⟨hu,j,hj,hs,hF⟩:=fD ht;obtain⟨i,z,hi,hG,hH,hI,_⟩:=fC he;obtain rfl:i=j:=by rw[hi]at hj;simpa using hj
 subst hs;have s1:=G.hp.take hD;have hJ:xs.length=N*i.size:=by obtain⟨h1,h2,_,_,hh,_⟩:=s1.hp;exact hh.1
 have hK:lo*i.size+k*i.size<=N*i.size:=by rw[<-qc];exact kg _ hE
 have hl:us.length=k*i.size:=by rw[hC,ig,lw];omega
 have hA:∀j u,us[j]?=some u->w.cell? (q.add j)=some u:=fun j u hu=>by
  rcases hq with rfl|rfl
  ·rw[zi]at hl;rw[dw hl]at hu;simp at hu
  rw[addr_add];refine(Ew.slice ?_).cell s1;rw[hC,ni]at hu;split at hu
  ·rw[om]at hu;exact hu
  cases hu
 obtain⟨w',hr,ho⟩:=Lv hu hi ty (m:=m) (cc:=cc) s1 hl hA hp hN
 have hB:(execOp a.eval ⟨d,.call {callee:= .builtin .append,args:= #[x,y],argTypes:= #[t,t]},ty,pos,af,gd⟩).run E.P w= .ok (.value (.slice (BM b) (m+k) c)) w':=by
  simp[execOp,resolve,invoke,builtin,G.f.ev hx,G.f.ev hy,hr]
 unfold Oper.wp;rw[hB,Oper.upon_value];exact hn _ _ _ hk ho
def kE {x y}{t e:TypeId}{c es by_ sz sz' zs zs' kk}(ht:E.tab t=some ⟨.slice e es by_,sz,zs⟩)(he:E.tab e=some ⟨kk,sz',zs'⟩)
  (hx:ev L x=some (BL 0)) (hy:ev L y=some (BK c)) (hb:by_*c<=281474976710656) (hc:c<=maxLen)
  (hk:∀b us,us.length=c*es->K (.slice (BM b) 0 c) (sl (BM b) c e es c us::H)):Ld E n L H ⟨d,.makeSlice t x y,ty,pos,af,gd⟩ K:=fun Q next a w G hn=>by
 obtain⟨hu,j,hj,hs,hB⟩:=fD ht;obtain⟨i,z,hi,hE,hC,hF,_⟩:=fC he;obtain rfl:i=j:=by rw[hi]at hj;simpa using hj
 subst hs hB;have hD:(c:Int)<=9223372036854775807:=by have h:=hc;simp[maxLen]at h;omega
 have hr:=run_make (P:=E.P) w t e i z hu hi hC .i64 .i64 0 (c:Int) (yu _) (oP c) (by rw[<-nz];omega) hD
 have hA:(execOp a.eval ⟨d,.makeSlice t x y,ty,pos,af,gd⟩).run E.P w= .ok (.value (.slice (BM w.heap.size) 0 c)) (w.alloc (.cells (madeCells z.cells (c*i.size)) e)):=by
  simp[execOp,G.f.ev hx,G.f.ev hy,hr]
 unfold Oper.wp;rw[hA,Oper.upon_value];have hz:=size_madeCells z.cells (c*i.size);generalize madeCells z.cells (c*i.size)=M at*;refine hn _ _ _ (hk _ M.toList (by simpa using hz)) ?_;have:=G.hp.new (.cells M e);exact this.imp fun _=>eU fun _ h=>gU (by simpa using hz) hc _ h
end Sl
namespace Go.Proofs.YtnicahfnolhgbaaGreatDoor
open Go Go.RowKit Sl Eg
set_option maxRecDepth 10000
variable {E:Bp}{Es:List Bj}{pp tb s most:Nat}
def Jk (hE:BP E)(hB:Ca E.w0){i r g1 g2 c1 c2 m N xs ys}(hi:i<Es.length)(hm:m<N):
  Ct E 194 [uPt pp,uPt r,BL ((i+1:Nat):Int)] [cells pp [uPt s,uPt tb] 122,BV tb s (BO Es),bR s most Es,cells r [.slice (BM g1) m c1,.slice (BM g2) m c2] 281,sl (BM g1) c1 41 1 N xs,sl (BM g2) c2 62 1 N ys]
   (fun v Q=>v= .nilIface/\Q=[cells pp [uPt s,uPt tb] 122,BV tb s (BO Es),bR s most Es,cells r [.slice (BM g1) (m+1) c1,.slice (BM g2) (m+1) c2] 281,sl (BM g1) c1 41 1 N (xs.set m (BL ((i+1:Nat):Int))),sl (BM g2) c2 62 1 N (ys.set m (.int .u64 (key (BO Es) (i+1):Nat)))]):=by
 refine bO (hE.fn Tryz.func194) O O O (fun R=>?_);simp only[dS,uV,uW];refine Bq ?_;refine BH (Su hE hB hi) O ?_;refine EK ?_;refine uU (aU (hE.t O) (hE.t O) O O O (fun hA=>?_));refine uU ?_;apply qB (hE.t O) (hE.t O) O O
 ·exact uK
 ·exact uK
 ·rfl
 ·rfl
 ·omega
 refine CP ?_;refine uU (aU (hE.t O) (hE.t O) O O O (fun hC=>?_));refine uU ?_;apply qB (hE.t O) (hE.t O) O O
 ·exact uK
 ·exact uK
 ·rfl
 ·rfl
 ·omega
 refine Bo ?_;rw[oV];exact uZ O (.tmp O .nil) ⟨O,O⟩
end Go.Proofs.YtnicahfnolhgbaaGreatDoor
namespace Sl
open Go Go.RowKit
variable {E:Bp}{n:Nat}{L:Fr}{S S' H H':List HP}{ty:TypeId}{pos:String}{af:Array Edge}{d:Option Nat}{gd:Option (Nat×Bool)}{K:Value->List HP->Prop}{Q:Exit->Act->World->Prop}
def ro (g:Nat)(vs:List Value):HP:=fun h=>∃cur t z,h g=some (.cells cur t z)/\∀(i:Nat)(v:Value),vs[i]?=some v->cur[i]?=some v
def Oz {w0 w g vs}(s:CR w0 w (ro g vs::H)){o v}(hv:vs[o]?=some v):w.cell? ⟨g,o,none⟩=some v:=by
 obtain⟨h1,h2,dj,e,⟨cur,t,z,hc,hh⟩,hq⟩:=s.hp;have s':CR w0 w (pt g (.cells cur t z)::H):=⟨s.os,s.tape,s.output,s.size,s.old,h1,h2,dj,e,hc,hq⟩;simp[World.cell?,(s'.ptr).1,hh _ _ hv]
def FN (w0:World)(g o:Nat)(vs:List Value)(h:PH):Prop:=∀(i:Nat)(v:Value),vs[i]?=some v->w0.cell? ⟨g,o+i,none⟩=some v\/∃cur t z,h g=some (.cells cur t z)/\cur[o+i]?=some v
def Tt {w0 w g o vs q}(hq:∀k,q k->FN w0 g o vs k) (s:CR w0 w (q::H)) {i} {v} (hv:vs[i]?=some v):w.cell? ⟨g,o+i,none⟩=some v:=by
 obtain⟨h1,h2,dj,e,hc,hr⟩:=s.hp;rcases hq _ hc i v hv with h|⟨cur,t,z,hg,hh⟩
 ·exact s.old_cell h
 have s':CR w0 w (pt g (.cells cur t z)::H):=⟨s.os,s.tape,s.output,s.size,s.old,h1,h2,dj,e,hg,hr⟩;simp[World.cell?,(s'.ptr).1,hh]
def bJ {x}{t:TypeId}{g o p i k sz zs vs v q}(h:ev L x=some (.pointer (some ⟨g,p,none⟩)))(ht:E.tab t=some ⟨k,sz,zs⟩)(hk:k.agg=false)
  (hq:∀k,q k->FN E.w0 g o vs k) (hm:CO q S S') (hv:vs[i]?=some v) (hp:p=o+i):Yl E n L S ⟨d,.load t x,ty,pos,af,gd⟩ v:=fun a w g s=>by
 subst hp;have hc:=Tt hq (s.take hm) hv;simp[execOp,Instr.loadAt,Instr.sureAddr,loadVar,g.ev h,nD ht,hk,load,Sem.run,hc]
def Ll {w0 g vs}:∀k,ro g vs k->FN w0 g 0 vs k:=fun k⟨cur,t,z,h,hh⟩i v hv=> .inr ⟨cur,t,z,h,by rw[jh];exact hh i v hv⟩
def old:HP:=fun _=>True
def Nt:∀k,dW H k->dW (old::H) k:=fun k h=>⟨fun _=>none,k,fun _=> .inl rfl,by funext b;simp[join],trivial,h⟩
def Ro {w0 g o vs}(h:∀(i:Nat)(v:Value),vs[i]?=some v->w0.cell? ⟨g,o+i,none⟩=some v):∀k,old k->FN w0 g o vs k:=fun _ _ i v hv=> .inl (h i v hv)
def OY {ops m S fuel listed}(i j l:Nat){d d' d'' op op' op''}{ty ty' ty'':TypeId}{pos pos' pos'' af af' af''}(hi:ops[i]?=some ⟨d,op,ty,pos,af,none⟩)(hj:ops[j]?=some ⟨d',op',ty',pos',af',none⟩)(hl:ops[l]?=some ⟨d'',op'',ty'',pos'',af'',none⟩)
  (hr:Region.ready .any ops.toArray listed=[i,j,l]) (hd:Ep n d=true) (hB:Ep n d'=true) (hA:Ep n d''=true)
  (h:Ld E n L H ⟨d,op,ty,pos,af,none⟩ (fun v H'=>(∀k,dW H' k->dW S k)/\Ea E ops m S Q fuel (listed.setIfInBounds i true) n (Cj d v L) H')) (h':Ld E n L H ⟨d',op',ty',pos',af',none⟩ (fun v H'=>(∀k,dW H' k->dW S k)/\Ea E ops m S Q fuel (listed.setIfInBounds j true) n (Cj d' v L) H'))
  (hC:Ld E n L H ⟨d'',op'',ty'',pos'',af'',none⟩ (fun v H'=>(∀k,dW H' k->dW S k)/\Ea E ops m S Q fuel (listed.setIfInBounds l true) n (Cj d'' v L) H')):Ea E ops m S Q (fuel+1) listed n L H:=fun _ a w g=>
 ⟨fun h0=>(by rw[hr]at h0;cases h0),fun x hx=>by
  have hD:x=i\/x=j\/x=l:=by rw[hr]at hx;simpa using hx
  rcases hD with rfl|rfl|rfl
  ·unfold wpOp;simp only[fA hi,Region.wanted,if_true];exact .inl (h _ _ a w g (fun v H' w' hk hs=>⟨fun _=>hs.imp hk.1,hk.2 hk.1 _ _ ⟨g.f.put d v hd,hs⟩⟩))
  ·unfold wpOp;simp only[fA hj,Region.wanted,if_true];exact .inl (h' _ _ a w g (fun v H' w' hk hs=>⟨fun _=>hs.imp hk.1,hk.2 hk.1 _ _ ⟨g.f.put d' v hB,hs⟩⟩))
  unfold wpOp;simp only[fA hl,Region.wanted,if_true];exact .inl (hC _ _ a w g (fun v H' w' hk hs=>⟨fun _=>hs.imp hk.1,hk.2 hk.1 _ _ ⟨g.f.put d'' v hA,hs⟩⟩))⟩
end Sl
namespace Go.Proofs.YtnicahfnolhgbaaGreatDoor
open Go Go.RowKit Sl Eg
set_option maxRecDepth 10000
section
variable {E:Bp}{Es:List Bj}{pp tb s most:Nat}
def Bd (l:List UInt8):List Value:=l.map fun b=> .int .u8 (b.toNat:Nat)
def qVn {l i x}(h:l[i]?=some x)(k:Nat)(hk:k=i):(Bd l)[k]?=some (.int .u8 (x.toNat:Nat)):=by subst hk;simp[Bd,h]
inductive Ej (L:List Rl):List Nat->List UInt8->Prop where
 |nil:Ej L [] []
 |snoc {ids:List Nat} {bs:List UInt8} {i:Nat} {b:UInt8}:Ej L ids bs->L[i]?=some (.letter b)->Ej L (ids++[i+1]) (bs++[b])
def Ej.ext {L}(M:List Rl){ids bs}(h:Ej L ids bs):Ej (L++M) ids bs:=by
 induction h with
 |nil=>exact .nil
 |snoc _ h2 ih=>exact .snoc ih (by rw[aj (ae.1 h2).1];exact h2)
def Ej.le {L ids bs}(h:Ej L ids bs):ids.length=bs.length/\∀x∈ids,1<=x/\x<=L.length:=by
 induction h with
 |nil=>simp
 |snoc _ h2 ih=>
  have:=(ae.1 h2).1
  refine⟨by simp[ih.1],fun x hx=>?_⟩
  rcases ay.1 hx with h| h
  ·exact ih.2 x h
  obtain rfl:x=_:=bg.1 h
  omega
structure NH (L:List Rl)(ids:List Nat)(N:Nat)(xs ys:List Value):Prop where
 hx:xs.take ids.length=Bg ids
 hy:ys.take ids.length=EB (ids.map (key L))
 le:ids.length<=N
 xl:xs.length=N
 yl:ys.length=N
def take_set {α:Type}{xs:List α}{m:Nat}{l:List α}{x:α}(h:xs.take m=l)(hm:m<xs.length):(xs.set m x).take (m+1)=l++[x]:=by
 rw[ed,List.take_set_of_le (ai m),h];simp[hm]
def yP {L:List Rl}(M:List Rl){ids:List Nat}(h:∀x∈ids,x<=L.length):ids.map (key (L++M))=ids.map (key L):=by
 apply qi;intro x hx;exact fO M (h x hx)
def NH.ext {L:List Rl}(M:List Rl){ids:List Nat}{N:Nat}{xs ys:List Value}(h:NH L ids N xs ys)(hi:∀x∈ids,x<=L.length):NH (L++M) ids N xs ys:=
 ⟨h.hx,by rw[yP M hi];exact h.hy,h.le,h.xl,h.yl⟩
def NH.snoc {L:List Rl}{ids:List Nat}{N:Nat}{xs ys:List Value}(h:NH L ids N xs ys)(hN:ids.length<N)(x:Nat):
  NH L (ids++[x]) N (xs.set ids.length (.int .i64 (x:Nat))) (ys.set ids.length (.int .u64 (key L x:Nat))):=by
 refine⟨?_,?_,by simp;omega,by simp[h.xl],by simp[h.yl]⟩
 ·rw[aa,bf,take_set h.hx (by rw[h.xl];exact hN)];simp[Bg]
 rw[aa,bf,take_set h.hy (by rw[h.yl];exact hN)];simp[EB]
structure NF where
 M:List Bj
 ids:List Nat
 xs:List Value
 ys:List Value
 b6:Nat
 g1:Nat
 g2:Nat
def qTm (hE:BP E)(hB:Ca E.w0){g o c:Nat}{bs:List UInt8}{q:HP}(hq:∀k,q k->FN E.w0 g o (Bd bs) k) (hn:bs.length<=65536) (hL:Es.length+bs.length<=most):
  Ct E 179 [uPt pp,.slice (some ⟨g,o,none⟩) bs.length c] [cells pp [uPt s,uPt tb] 122,BV tb s (BO Es),bR s most Es,q]
   (fun v Q=>∃M ids xs ys g1 g2,v= .tuple #[.agg #[.slice (some ⟨g1,0,none⟩) ids.length bs.length,.slice (some ⟨g2,0,none⟩) ids.length bs.length],.nilIface]/\M.length<=bs.length/\Ej (BO (Es++M)) ids bs/\NH (BO (Es++M)) ids bs.length xs ys/\
    Q=[cells pp [uPt s,uPt tb] 122,BV tb s (BO (Es++M)),bR s most (Es++M),sl (some ⟨g1,0,none⟩) bs.length 41 1 bs.length xs,sl (some ⟨g2,0,none⟩) bs.length 62 1 bs.length ys,q]):=by
 refine bO (hE.fn Tryz.func179) O O O (fun R=>?_);simp only[dS,uV,uW];refine CL ?_;refine uU (dA (hE.t O) (fun b4=>?_));refine CG ?_;refine jT (fun x:NF=>[(0,uPt pp),(1,.slice (some ⟨g,o,none⟩) bs.length c),(4,uPt b4),(6,.pointer (some ⟨x.b6,0,none⟩))]) (fun x=>[cells pp [uPt s,uPt tb] 122,BV tb s (BO Es),bR s most Es,cells x.b6 [.slice (some ⟨x.g1,0,none⟩) 0 bs.length,.slice (some ⟨x.g2,0,none⟩) 0 bs.length] 281,cells b4 [.slice none 0 0,.slice none 0 0] 281,sl (some ⟨x.g1,0,none⟩) bs.length 41 1 bs.length x.xs,sl (some ⟨x.g2,0,none⟩) bs.length 62 1 bs.length x.ys,q,R]) (fun x=>x.xs.length=bs.length/\x.ys.length=bs.length) ?_ ?_
 ·refine uN 8 ([]) ?_;refine CL ?_;refine uT 3 O (aB O) ?_;refine Bv ?_;apply OY 2 5 7 O O O oK O O O
  ·refine kE (hE.t O) (hE.t O) O O (by first |omega |exact bz rfl) (by(unfold maxLen;first |omega |exact bz rfl)) (fun hF us14 hA=>?_);refine uE ?_;apply UB 5 7 O O oK O O
   ·refine kE (hE.t O) (hE.t O) O O (by first |omega |exact bz rfl) (by(unfold maxLen;first |omega |exact bz rfl)) (fun hG us17 hC=>?_);refine uE ?_;refine uT 6 O (iE (hE.t O) O O) ?_;apply fE 7 O oK O;refine dA (hE.t O) (fun b6=>?_);refine uE ?_;apply gW O oK oK O;refine uS ?_;refine eX (⟨[],[],us14,us17,b6,hF,hG⟩:NF) ⟨by simpa using hA,by simpa using hC⟩ ⟨rfl,rfl,rfl,rfl,trivial⟩ ?_;exact uI
   refine dA (hE.t O) (fun b6=>?_);refine uE ?_;apply fE 5 O oK O;refine kE (hE.t O) (hE.t O) O O (by first |omega |exact bz rfl) (by(unfold maxLen;first |omega |exact bz rfl)) (fun hG us17 hC=>?_);refine uE ?_;apply dG 6 O oK
   ·exact iE (hE.t O) O O
   ·rfl
   apply gW O oK oK O;refine uS ?_;refine eX (⟨[],[],us14,us17,b6,hF,hG⟩:NF) ⟨by simpa using hA,by simpa using hC⟩ ⟨rfl,rfl,rfl,rfl,trivial⟩ ?_;exact uI
  ·refine kE (hE.t O) (hE.t O) O O (by first |omega |exact bz rfl) (by(unfold maxLen;first |omega |exact bz rfl)) (fun hG us17 hC=>?_);refine uE ?_;apply UB 2 7 O O oK O O
   ·refine kE (hE.t O) (hE.t O) O O (by first |omega |exact bz rfl) (by(unfold maxLen;first |omega |exact bz rfl)) (fun hF us14 hA=>?_);refine uE ?_;refine uT 6 O (iE (hE.t O) O O) ?_;apply fE 7 O oK O;refine dA (hE.t O) (fun b6=>?_);refine uE ?_;apply gW O oK oK O;refine uS ?_;refine eX (⟨[],[],us14,us17,b6,hF,hG⟩:NF) ⟨by simpa using hA,by simpa using hC⟩ ⟨rfl,rfl,rfl,rfl,trivial⟩ ?_;exact uI
   refine dA (hE.t O) (fun b6=>?_);refine uE ?_;apply fE 2 O oK O;refine kE (hE.t O) (hE.t O) O O (by first |omega |exact bz rfl) (by(unfold maxLen;first |omega |exact bz rfl)) (fun hF us14 hA=>?_);refine uE ?_;apply dG 6 O oK
   ·exact iE (hE.t O) O O
   ·rfl
   apply gW O oK oK O;refine uS ?_;refine eX (⟨[],[],us14,us17,b6,hF,hG⟩:NF) ⟨by simpa using hA,by simpa using hC⟩ ⟨rfl,rfl,rfl,rfl,trivial⟩ ?_;exact uI
  refine dA (hE.t O) (fun b6=>?_);refine uE ?_;apply UB 2 5 O O oK O O
  ·refine kE (hE.t O) (hE.t O) O O (by first |omega |exact bz rfl) (by(unfold maxLen;first |omega |exact bz rfl)) (fun hF us14 hA=>?_);refine uE ?_;apply fE 5 O oK O;refine kE (hE.t O) (hE.t O) O O (by first |omega |exact bz rfl) (by(unfold maxLen;first |omega |exact bz rfl)) (fun hG us17 hC=>?_);refine uE ?_;apply dG 6 O oK
   ·exact iE (hE.t O) O O
   ·rfl
   apply gW O oK oK O;refine uS ?_;refine eX (⟨[],[],us14,us17,b6,hF,hG⟩:NF) ⟨by simpa using hA,by simpa using hC⟩ ⟨rfl,rfl,rfl,rfl,trivial⟩ ?_;exact uI
  refine kE (hE.t O) (hE.t O) O O (by first |omega |exact bz rfl) (by(unfold maxLen;first |omega |exact bz rfl)) (fun hG us17 hC=>?_);refine uE ?_;apply fE 2 O oK O;refine kE (hE.t O) (hE.t O) O O (by first |omega |exact bz rfl) (by(unfold maxLen;first |omega |exact bz rfl)) (fun hF us14 hA=>?_);refine uE ?_;apply dG 6 O oK
  ·exact iE (hE.t O) O O
  ·rfl
  apply gW O oK oK O;refine uS ?_;refine eX (⟨[],[],us14,us17,b6,hF,hG⟩:NF) ⟨by simpa using hA,by simpa using hC⟩ ⟨rfl,rfl,rfl,rfl,trivial⟩ ?_;exact uI
 rintro⟨_,_,us1,us2,b6,g1,g2⟩⟨hN,hO⟩;simp only at hN hO ⊢;refine Bu ?_
 refine dX (fun x:NF=>[(0,uPt pp),(4,uPt b4),(6,uPt b6),(19,.slice (some ⟨g,o,none⟩) bs.length c),(20,.int .i64 (bs.length:Nat)),(21,.int .i64 (x.ids.length:Nat))]) (fun x=>[cells pp [uPt s,uPt tb] 122,BV tb s (BO (Es++x.M)),bR s most (Es++x.M),cells b6 [.slice (some ⟨g1,0,none⟩) x.ids.length bs.length,.slice (some ⟨g2,0,none⟩) x.ids.length bs.length] 281,cells b4 [.slice none 0 0,.slice none 0 0] 281,sl (some ⟨g1,0,none⟩) bs.length 41 1 bs.length x.xs,sl (some ⟨g2,0,none⟩) bs.length 62 1 bs.length x.ys,q,R]) (fun x=>bs.length-x.ids.length)
  (fun x=>x.M.length<=x.ids.length/\x.ids.length<=bs.length/\Ej (BO (Es++x.M)) x.ids (bs.take x.ids.length)/\NH (BO (Es++x.M)) x.ids bs.length x.xs x.ys) ⟨[],[],us1,us2,b6,g1,g2⟩ ?_ ?_ ?_ ?_
 ·exact⟨ai _,av _,.nil,⟨O,O,av _,hN,hO⟩⟩
 ·exact⟨O,O,O,O,O,O,trivial⟩
 ·rw[ax];exact uI
 rintro⟨M,ids,xs,ys,_,_,_⟩⟨hM,hQ,hD,hJ⟩;simp only at hM hQ hD hJ ⊢;refine CB ?_;refine bE O (fun hR=>?_) (fun hR=>?_)
 ·have hk:ids.length<bs.length:=oO;obtain⟨b,hb⟩:∃b,bs[ids.length]?=some b:=⟨_,ag hk⟩;have f0:=qVn hb ids.length O;have eb:bs.take (ids.length+1)=bs.take ids.length++[b]:=by rw[ed,hb];rfl
  have hr:(Es++M).length<most:=by simp;omega
  refine Cw ?_;refine uX (qLo hE b hr) O ?_;rintro _ _⟨M2,id,rfl,hS,hT,hK,rfl⟩;obtain⟨i,rfl⟩:∃i,id=i+1:=⟨id-1,oO⟩;rw[fu]at hK;have hP:i<(Es++M++M2).length:=by have:=(ae.1 hK).1;rwa [bQ]at this
  have hH:Ej (BO (Es++M++M2)) (ids++[i+1]) (bs.take (ids.length+1)):=by rw[eb];exact .snoc (by rw[dB (Es++M)];exact hD.ext _) hK
  have hI:NH (BO (Es++M++M2)) ids bs.length xs ys:=by rw[dB (Es++M)];exact hJ.ext _ (fun x hx=>(hD.le.2 x hx).2)
  simp only[uV,uW];refine jM (cO (p:=BV tb s (BO (Es++M))) (p':=BV tb s (BO (Es++M++M2))) uK (fun _ h=>by rw[dB (Es++M)];exact sG _ h)) ?_;rw[ah]at hP hH hI ⊢;refine DW ?_;refine uX (Jk hE hB hP hk) O ?_;rintro _ _⟨rfl,rfl⟩;simp only[uV,uW];refine CY ?_;refine jY 21 (.int .i64 ((ids++[i+1]).length:Nat)) O (bW (by simp)) ?_;refine bS (ι:=NF) (j:=⟨M++M2,ids++[i+1],_,_,b6,g1,g2⟩) ⟨?_,?_,?_,hI.snoc hk _⟩ ?_ ?_ ?_
  ·simp;omega
  ·simp;omega
  ·show Ej _ _ (bs.take (ids++[i+1]).length);rw[show(ids++[i+1]).length=ids.length+1 by simp];exact hH
  ·show bs.length-(ids++[i+1]).length<bs.length-ids.length;simp;omega
  ·exact⟨O,O,O,O,O,O,trivial⟩
  rw[show(ids++[i+1]).length=ids.length+1 by simp];exact uI
 have hk:ids.length=bs.length:=oO;rw[fe oO]at hD;refine CP ?_;apply cK
 ·rfl
 ·((apply Rs.cell rfl (hE.t rfl) rfl;(focus((repeat(first |rfl|assumption|constructor));done)));apply Rs.tmp rfl;exact Rs.nil)
 ·exact⟨M,ids,xs,ys,g1,g2,O,oO,hD,hJ,O⟩
 exact uI
end
section
variable {E:Bp}{Es:List Bj}{pp tb s most:Nat}
def EI (L:List Rl)(x t id:Nat):Prop:=(t=1/\id=x)\/(2<=t/\∃i,id=i+1/\L[i]?=some (.power x t))
inductive Dx (L:List Rl):List (Nat×Nat)->List Nat->Prop where
 |nil:Dx L [] []
 |snoc {rs:List (Nat×Nat)} {out:List Nat} {x t id:Nat}:Dx L rs out->EI L x t id->Dx L (rs++[(x,t)]) (out++[id])
def Sk {L:List Rl}(M:List Rl){i:Nat}{r:Rl}(h:L[i]?=some r):(L++M)[i]?=some r:=by rw[aj (ae.1 h).1];exact h
def EI.ext {L:List Rl}(M:List Rl){x t id:Nat}(h:EI L x t id):EI (L++M) x t id:=by
 rcases h with h|⟨h1,i,h2,h3⟩
 ·exact .inl h
 exact .inr ⟨h1,i,h2,Sk M h3⟩
def Dx.ext {L}(M:List Rl){rs out}(h:Dx L rs out):Dx (L++M) rs out:=by
 induction h with
 |nil=>exact .nil
 |snoc _ h2 ih=>exact .snoc ih (h2.ext M)
def Dx.length {L rs out}(h:Dx L rs out):out.length=rs.length:=by
 induction h with
 |nil=>rfl
 |snoc _ _ ih=>simp[ih]
def Dx.le {L rs out}(h:Dx L rs out)(hx:∀g∈rs,g.1<=L.length):∀x∈out,x<=L.length:=by
 induction h with
 |nil=>simp
 |snoc _ h2 ih=>
  intro x hA
  rcases ay.1 hA with h| h
  ·exact ih (fun g hg=>hx g (cu _ hg)) x h
  obtain rfl:x=_:=bg.1 h
  rcases h2 with⟨_,rfl⟩|⟨_,i,rfl,h3⟩
  ·exact hx _ (jy _ (bg.2 O))
  exact(ae.1 h3).1
structure EH (L:List Rl)(out ids:List Nat)(xs ys:List Value):Prop where
 hx:xs.take out.length=Bg out
 hy:ys.take out.length=EB (out.map (key L))
 ox:xs.drop out.length=(Bg ids).drop out.length
 oy:ys.drop out.length=(EB (ids.map (key L))).drop out.length
 le:out.length<=ids.length
 xl:xs.length=ids.length
 yl:ys.length=ids.length
def EH.start (L:List Rl)(ids:List Nat):EH L [] ids (Bg ids) (EB (ids.map (key L))):=⟨rfl,rfl,rfl,rfl,av _,by simp[Bg],by simp[EB]⟩
def EH.ext {L:List Rl}(M:List Rl){out ids:List Nat}{xs ys:List Value}(h:EH L out ids xs ys)(h1:∀x∈out,x<=L.length) (h2:∀x∈ids,x<=L.length):EH (L++M) out ids xs ys:=
 ⟨h.hx,by rw[yP M h1];exact h.hy,h.ox,by rw[yP M h2];exact h.oy,h.le,h.xl,h.yl⟩
def qRd {α:Type}{xs ys:List α}{m:Nat}{x:α}(h:xs.drop m=ys.drop m):(xs.set m x).drop (m+1)=ys.drop (m+1):=by
 rw[List.drop_set_of_lt (Nat.lt_succ_self m),<-xc (i:=1) (j:=m),h,xc]
def EH.snoc {L:List Rl}{out ids:List Nat}{xs ys:List Value}(h:EH L out ids xs ys)(hN:out.length<ids.length)(x:Nat):
  EH L (out++[x]) ids (xs.set out.length (.int .i64 (x:Nat))) (ys.set out.length (.int .u64 (key L x:Nat))):=by
 have e:(out++[x]).length=out.length+1:=by simp
 refine⟨?_,?_,?_,?_,by rw[e];omega,by simp[h.xl],by simp[h.yl]⟩
 ·rw[e,take_set h.hx (by rw[h.xl];exact hN)];simp[Bg]
 ·rw[e,take_set h.hy (by rw[h.yl];exact hN)];simp[EB]
 ·rw[e];exact qRd h.ox
 rw[e];exact qRd h.oy
def Ze {α:Type}{xs ys:List α}{m k:Nat}(h:xs.drop m=ys.drop m)(hk:m<=k):xs[k]?=ys[k]?:=by
 have:=au (fun l=>l[k-m]?) h;simp only[om]at this;rwa [show m+(k-m)=k by omega]at this
def EH.key {L:List Rl}{out ids:List Nat}{xs ys:List Value}(h:EH L out ids xs ys){k x:Nat}(hk:out.length<=k)(hx:ids[k]?=some x):ys[k]?=some (.int .u64 (Eg.key L x:Nat)):=by
 rw[Ze h.oy hk];simp[EB,hx]
def EH.id {L:List Rl}{out ids:List Nat}{xs ys:List Value}(h:EH L out ids xs ys){k x:Nat}(hk:out.length<=k)(hx:ids[k]?=some x):xs[k]?=some (.int .i64 (x:Nat)):=by
 rw[Ze h.ox hk];simp[Bg,hx]
def DT:List (Nat×Nat)->Nat
 |[]=>0
 |(_,t)::l=>t+DT l
def xL (a b:List (Nat×Nat)):DT (a++b)=DT a+DT b:=by
 induction a with
 |nil=>simp[DT]
 |cons g a ih=>obtain⟨x,t⟩:=g;simp only[jq,DT,ih];omega
def kW (a:List (Nat×Nat)):(Ch a).length=DT a:=by
 induction a with
 |nil=>rfl
 |cons g a ih=>obtain⟨x,t⟩:=g;simp[Ch,DT,ih]
def zBe {a}(h:∀g∈a,1<=g.2):a.length<=DT a:=by
 induction a with
 |nil=>exact ai _
 |cons g a ih=>
  have:=ih (fun g hg=>h g (lg _ hg))
  have:=h g nk
  obtain⟨x,t⟩:=g
  simp only[DT,az]at*;omega
def KY {a g}(h:g∈a)(h1:1<=g.2):g.1∈Ch a:=by
 induction a with
 |nil=>simp at h
 |cons x a ih=>
  rw[Ch]
  rcases di.1 h with rfl| h
  ·exact cu _ (ql.2 ⟨oO,O⟩)
  exact jy _ (ih h)
structure TH where
 k:Nat
 M:List Bj
 out:List Nat
 xs:List Value
 ys:List Value
 id:Nat
def Np (hE:BP E)(hB:Ca E.w0){g1 g2 c1 c2:Nat}{ids:List Nat}(hn:ids.length<=65536)(hF:∀x∈ids,1<=x/\x<=Es.length) (hL:∀A x t B,ids=A++List.replicate t x++B->(txt (BO Es) x).length*t<=dC) (hU:Es.length+ids.length<=most):
  Ct E 180 [uPt pp,.agg #[.slice (some ⟨g1,0,none⟩) ids.length c1,.slice (some ⟨g2,0,none⟩) ids.length c2]] [cells pp [uPt s,uPt tb] 122,BV tb s (BO Es),bR s most Es,sl (some ⟨g1,0,none⟩) c1 41 1 ids.length (Bg ids),sl (some ⟨g2,0,none⟩) c2 62 1 ids.length (EB (ids.map (key (BO Es))))]
   (fun v Q=>∃M out,v= .tuple #[.agg #[.slice (some ⟨g1,0,none⟩) out.length c1,.slice (some ⟨g2,0,none⟩) out.length c2],.nilIface]/\M.length+out.length<=ids.length/\Dx (BO (Es++M)) (dE ids) out/\
    Q=[cells pp [uPt s,uPt tb] 122,BV tb s (BO (Es++M)),bR s most (Es++M),sl (some ⟨g1,0,none⟩) c1 41 1 out.length (Bg out),sl (some ⟨g2,0,none⟩) c2 62 1 out.length (EB (out.map (key (BO (Es++M)))))]):=by
 refine bO (hE.fn Tryz.func180) O O O (fun R=>?_);simp only[dS,uV,uW];refine CL ?_;refine uU ?_;refine gN O (fun b3=>?_);refine uU (dA (hE.t O) (fun b4=>?_));refine Bz ?_;refine uN 8 ([cells b3 [.slice (some ⟨g1,0,none⟩) ids.length c1,.slice (some ⟨g2,0,none⟩) ids.length c2] 281]) ?_;refine CL ?_;refine uT 2 O (gF 0 O O (hE.t O) O (av _)) ?_;refine CL ?_;refine uT 5 O (gF 0 O O (hE.t O) O (av _)) ?_;refine Bv ?_;apply fE 7 O oK O;refine dA (hE.t O) (fun b6=>?_);refine uE ?_;apply gW O oK oK O;refine uS ?_;refine Bo ?_;refine uX (Na hE oO) O ?_;rintro _ _⟨rp,rc,rfl,rfl⟩;simp only[uV,uW];have hN:=kX ids;have hC:=nT ids;have hG:=sD ids;generalize dE ids=rs at*;refine Bw ?_
 refine dX (fun x:TH=>[(0,uPt pp),(3,uPt b3),(4,uPt b4),(6,uPt b6),(7,.int .i64 (DT (rs.take x.k):Nat)),(22,.slice rp rs.length rc),(23,.int .i64 (rs.length:Nat)),(24,.int .i64 (x.k:Nat))]) (fun x=>[cells pp [uPt s,uPt tb] 122,BV tb s (BO (Es++x.M)),bR s most (Es++x.M),cells b6 [.slice (some ⟨g1,0,none⟩) x.k c1,.slice (some ⟨g2,0,none⟩) x.k c2] 281,sl (some ⟨g1,0,none⟩) c1 41 1 ids.length x.xs,sl (some ⟨g2,0,none⟩) c2 62 1 ids.length x.ys,cells b3 [.slice (some ⟨g1,0,none⟩) ids.length c1,.slice (some ⟨g2,0,none⟩) ids.length c2] 281,cells b4 [.slice none 0 0,.slice none 0 0] 281,sl rp rc 306 2 rs.length (FI rs),R]) (fun x=>rs.length-x.k)
  (fun x=>x.k<=rs.length/\x.out.length=x.k/\x.M.length+x.k<=DT (rs.take x.k)/\Dx (BO (Es++x.M)) (rs.take x.k) x.out/\EH (BO (Es++x.M)) x.out ids x.xs x.ys) ⟨0,[],[],Bg ids,EB (ids.map (key (BO Es))),0⟩ ?_ ?_ ?_ ?_
 ·refine⟨av _,O,ai _,.nil,?_⟩;show EH (BO (Es++[])) _ _ _ _;rw[ax];exact EH.start _ _
 ·exact⟨O,O,O,O,O,O,O,O,trivial⟩
 ·rw[ax];exact uI
 rintro⟨k,M,out,xs,ys,_⟩⟨hk,hK,hM,hH,hD⟩;simp only at hk hK hM hH hD ⊢;refine CB ?_;refine bE O (fun ha=>?_) (fun ha=>?_)
 ·have hV:k<rs.length:=oO;obtain⟨⟨x,t⟩,hx⟩:∃x,rs[k]?=some x:=⟨_,ag hV⟩;have eT:rs.take (k+1)=rs.take k++[(x,t)]:=by rw[ed,hx];rfl
  have eS:DT (rs.take (k+1))=DT (rs.take k)+t:=by rw[eT,xL];rfl
  have hO:(x,t)∈rs:=ak hx;obtain⟨hb,hc⟩:=hC _ hO;simp only at hb hc
  have hA:ids=Ch (rs.take k)++List.replicate t x++Ch (rs.drop (k+1)):=by
   have e:rs=rs.take (k+1)++rs.drop (k+1):=(dh _ _).symm;rw[<-hN];conv=>lhs;rw[e,iT,eT,iT]
   simp[Ch]
  have hd:DT (rs.take k)+t<=ids.length:=by rw[hA];simp[kW]
  have hW:ids[DT (rs.take k)]?=some x:=by
   rw[hA,ah,bi (by rw[kW];exact ai _),kW,uf,aj (by simp;omega),xy,if_pos oO]
  have hm:k<=DT (rs.take k):=by
   have:=zBe (a:=rs.take k) (fun g hg=>(hC g (mq hg)).1);rw[ig]at this;omega
  obtain⟨ho,hp⟩:=hF x (ak hW);obtain⟨i,rfl⟩:∃i,x=i+1:=⟨x-1,oO⟩;have he:=hL _ _ _ _ hA;refine iO (p:=sl rp rc 306 2 rs.length (FI rs)) uK (fun _ h=>eG h oO) ?_;rintro⟨g3,rfl⟩;refine iO (p:=bR s most (Es++M)) uK (fun _ h=>dR h) ?_;rintro⟨hq,hf, -, -⟩;have f0:(FI rs)[0+((k:Nat):Int).toNat*2]?=some (.int .i64 ((i+1:Nat):Int)):=by rw[show 0+((k:Nat):Int).toNat*2=k*2 by omega];exact(Ti hx).1
  have f1:(FI rs)[0+((k:Nat):Int).toNat*2+1]?=some (.int .i64 (t:Nat)):=by rw[show 0+((k:Nat):Int).toNat*2+1=k*2+1 by omega];exact(Ti hx).2
  have f2:ys[((DT (rs.take k):Nat):Int).toNat]?=some (.int .u64 (key (BO (Es++M)) (i+1):Nat)):=hD.key oO (by rw[ny];exact hW);refine Br ?_;refine uU (dA (hE.t O) (fun b9=>?_));refine CX ?_;refine jT (fun y:TH=>[(0,uPt pp),(3,uPt b3),(4,uPt b4),(6,uPt b6),(7,.int .i64 (DT (rs.take k):Nat)),(9,uPt b9),(10,.int .i64 (y.id:Nat)),(11,.int .u64 (key (BO (Es++y.M)) y.id:Nat)),(22,.slice (some ⟨g3,0,none⟩) rs.length rc),(23,.int .i64 (rs.length:Nat)),(24,.int .i64 (k:Nat))]) (fun y=>[cells pp [uPt s,uPt tb] 122,BV tb s (BO (Es++y.M)),bR s most (Es++y.M),cells b9 [.int .i64 ((i+1:Nat):Int),.int .i64 (t:Nat)] 306,cells b6 [.slice (some ⟨g1,0,none⟩) k c1,.slice (some ⟨g2,0,none⟩) k c2] 281,sl (some ⟨g1,0,none⟩) c1 41 1 ids.length xs,sl (some ⟨g2,0,none⟩) c2 62 1 ids.length ys,cells b3 [.slice (some ⟨g1,0,none⟩) ids.length c1,.slice (some ⟨g2,0,none⟩) ids.length c2] 281,cells b4 [.slice none 0 0,.slice none 0 0] 281,sl (some ⟨g3,0,none⟩) rc 306 2 rs.length (FI rs),R]) (fun y=>y.M.length+k+1<=DT (rs.take k)+t/\EI (BO (Es++y.M)) (i+1) t y.id/\∃M2,y.M=M++M2) ?_ ?_
  ·refine Bi ?_;refine bE O (fun hh=>?_) (fun hh=>?_)
   ·have hX:(Es++M)[i]?=some Es[i]:=by rw[aj oO,ag oO]
    have hP:(Es[i]).t.length*t<=dC:=(by rw[hf i _ hX,dB,jX _ (by rw[bQ];omega)];exact he);have hr:(Es++M).length<most:=(by simp;omega);have hY:2<=t:=oO;refine Bi ?_;refine uH ([cells pp [uPt s,uPt tb] 122,cells b9 [.int .i64 ((i+1:Nat):Int),.int .i64 (t:Nat)] 306]) ?_;refine Bi ?_;apply dH 7 O oK O;refine uC (Xc hE hX hY hP hr) O ?_;rintro _ _⟨M2,id,rfl,hQ,hs,hG,rfl⟩;obtain⟨j,rfl⟩:∃j,id=j+1:=⟨id-1,oO⟩;rw[fu]at hG;have hZ:j<(Es++M++M2).length:=(by have:=(ae.1 hG).1;rwa [bQ]at this);simp only[uV,uW];refine uE ?_;refine Bi ?_;refine fF (cO (p:=BV tb s (BO (Es++M))) (p':=BV tb s (BO (Es++M++M2))) uK (fun _ h=>by rw[dB (Es++M)];exact sG _ h)) ?_;rw[ah]at hZ hG ⊢;refine CX ?_;refine uX (Su hE hB hZ) O ?_;rintro _ _⟨rfl,rfl⟩;simp only[uV,uW];refine CK ?_;refine eX (ι:=TH) ⟨0,M++M2,[],[],[],j+1⟩ ⟨by simp;omega,.inr ⟨hY,j,rfl,hG⟩,M2,rfl⟩ ⟨rfl,rfl,rfl,rfl,rfl,rfl,rfl,rfl,rfl,rfl,rfl,trivial⟩ ?_;exact uI
   refine Bv ?_;refine eX (ι:=TH) ⟨0,M,[],[],[],i+1⟩ ⟨by show M.length+k+1<=_;omega,.inl ⟨oO,rfl⟩,[],(ax M).symm⟩ ⟨rfl,rfl,rfl,rfl,rfl,rfl,rfl,rfl,rfl,rfl,rfl,trivial⟩ ?_;exact uI
  rintro⟨_,M',_,_,_,id⟩⟨hi,hI,M2,hQ⟩;simp only at hi hI hQ ⊢;subst hQ;have hJ:∀y∈ids,y<=(BO (Es++M)).length:=fun y hy=>by have:=(hF y hy).2;rw[bQ];simp;omega
  have hR:∀y∈out,y<=(BO (Es++M)).length:=hH.le (fun g hg=>by
   have hj:g.1∈ids:=(by rw[<-hN];exact KY (mq hg) (hC g (mq hg)).1);exact hJ _ hj)
  have hS:EH (BO (Es++(M++M2))) out ids xs ys:=by rw[<-ah,dB (Es++M)];exact hD.ext _ hR hJ
  have hT:Dx (BO (Es++(M++M2))) (rs.take (k+1)) (out++[id]):=by rw[eT];exact .snoc (by rw[<-ah,dB (Es++M)];exact hH.ext _) hI
  have hl:k<ids.length:=oO;subst hK;refine Bw ?_;refine uU ?_;refine aU (hE.t O) (hE.t O) O O O (fun ht=>?_);refine uU ?_;apply qB (hE.t O) (hE.t O) O O
  ·exact uK
  ·exact uK
  ·rfl
  ·rfl
  ·omega
  refine Bu ?_;refine uU ?_;refine aU (hE.t O) (hE.t O) O O O (fun hu=>?_);refine uU ?_;apply qB (hE.t O) (hE.t O) O O
  ·exact uK
  ·exact uK
  ·rfl
  ·rfl
  ·omega
  refine CY ?_;simp only[oV,bX];refine jY 24 (.int .i64 ((out.length+1:Nat):Int)) O (bW oO) ?_;refine jY 7 (.int .i64 (DT (rs.take (out.length+1)):Nat)) O (bW oO) ?_;refine bS (ι:=TH) (j:=⟨out.length+1,M++M2,out++[id],_,_,0⟩) ⟨hV,by simp,by show(M++M2).length+(out.length+1)<=DT (rs.take (out.length+1));rw[eS];omega,hT,hS.snoc hl _⟩ ?_ ?_ ?_
  ·show rs.length-(out.length+1)<rs.length-out.length;omega
  ·exact⟨O,O,O,O,O,O,O,O,trivial⟩
  exact uI
 obtain rfl:k=rs.length:=by omega
 rw[fe (ai _)]at hH hM;have hv:DT rs=ids.length:=by rw[<-kW,hN]
 rw[<-hK]at hM;refine CP ?_;apply cK
 ·rfl
 ·((apply Rs.cell rfl (hE.t rfl) rfl;(focus((repeat(first |rfl|assumption|constructor));done)));apply Rs.tmp rfl;exact Rs.nil)
 ·exact⟨M,out,by rw[hK];rfl,oO,hH,rfl⟩
 refine cZ (cO (p:=sl (some ⟨g1,0,none⟩) c1 41 1 ids.length xs) (p':=sl (some ⟨g1,0,none⟩) c1 41 1 out.length (Bg out)) uK (nK hD.le (by rw[oV];exact hD.hx) (by simp))) ?_;refine cZ (cO (p:=sl (some ⟨g2,0,none⟩) c2 62 1 ids.length ys) (p':=sl (some ⟨g2,0,none⟩) c2 62 1 out.length (EB (out.map (key (BO (Es++M)))))) uK (nK hD.le (by rw[oV];exact hD.hy) (by simp))) ?_;exact uI
end
section
inductive Er (L:List Rl)(ids:List Nat):List Nat->Nat->List Nat->Prop where
 |nil:Er L ids [] 0 []
 |snoc {js out:List Nat} {at' i x y j:Nat}:Er L ids js at' out->at'<=i->ids[i]?=some x->ids[i+1]?=some y->L[j]?=some (.pair x y)->Er L ids (js++[i]) (i+2) (out++(ids.drop at').take (i-at')++[j+1])
def Er.ext {L:List Rl}(M:List Rl){ids js out:List Nat}{a:Nat}(h:Er L ids js a out):Er (L++M) ids js a out:=by
 induction h with
 |nil=>exact .nil
 |snoc _ h1 h2 h3 h4 ih=>exact .snoc ih h1 h2 h3 (Sk M h4)
def Er.length {L ids js out a}(h:Er L ids js a out):out.length+js.length=a/\a<=ids.length:=by
 induction h with
 |nil=>simp
 |snoc _ h1 h2 h3 h4 ih=>
  have:=(ae.1 h3).1
  simp;omega
def Er.le {L ids js out a}(h:Er L ids js a out)(hx:∀x∈ids,x<=L.length):∀x∈out,x<=L.length:=by
 induction h with
 |nil=>simp
 |snoc _ h1 h2 h3 h4 ih=>
  intro x hA
  rcases ay.1 hA with h| h
  ·rcases ay.1 h with h| h
   ·exact ih x h
   exact hx x (qf (mq h))
  obtain rfl:x=_:=bg.1 h
  exact(ae.1 h4).1
def jO:∀(us xs:List Value)(m:Nat),m+us.length<=xs.length->bX xs m us=xs.take m++us++xs.drop (m+us.length)
 |[],xs,m,_=>by simp[bX]
 |u::us,xs,m,h=>by
  rw[bX,jO us _ _ (by simp at h ⊢;omega)];have hm:m<xs.length:=by simp at h;omega
  rw[take_set rfl hm,List.drop_set_of_lt oO,az,show m+1+us.length=m+(us.length+1) by omega];simp
def iF (a b:List Nat):Bg (a++b)=Bg a++Bg b:=by simp[Bg]
def qUi (a b:List Nat):EB (a++b)=EB a++EB b:=by simp[EB]
def sU {α:Type}{xs ys:List α}{m a:Nat}(h:xs.drop m=ys.drop m)(hm:m<=a):xs.drop a=ys.drop a:=by
 have:=au (List.drop (a-m)) h;simpa[xc,show m+(a-m)=a by omega]using this
def qZl {f:List Nat->List Value}(hf:∀l,f l=l.map (fun x=>(f [x]).headD default)) {ids:List Nat} {xs:List Value} {m a i:Nat} (ox:xs.drop m=(f ids).drop m) (hm:m<=a):(xs.drop a).take (i-a)=f ((ids.drop a).take (i-a)):=by
 rw[sU ox hm,hf ids,hf,<-qp,<-qo]
def qMw {out seg xs}(hx:xs.take out.length=out)(hl:out.length+seg.length<=xs.length):(bX xs out.length seg).take (out.length+seg.length)=out++seg:=by
 rw[jO _ _ _ hl,hx,oW BF,fe BF]
def qMv {m seg xs}(hl:m+seg.length<=xs.length):(bX xs m seg).drop (m+seg.length)=xs.drop (m+seg.length):=by
 rw[jO _ _ _ hl,pz (by simp;omega),ma (by simp;omega),jw]
def EH.seg {L:List Rl}{out ids:List Nat}{xs ys:List Value}(h:EH L out ids xs ys){a i:Nat}(ha:out.length<=a)(hi:a<=i)(hn:i<=ids.length):
  EH L (out++(ids.drop a).take (i-a)) ids (bX xs out.length ((xs.drop a).take (i-a))) (bX ys out.length ((ys.drop a).take (i-a))):=by
 have hA:=h.xl;have hB:=h.yl;have s1:(xs.drop a).take (i-a)=Bg ((ids.drop a).take (i-a)):=qZl (f:=Bg) (fun l=>O) h.ox ha
 have s2:(ys.drop a).take (i-a)=EB (((ids.drop a).take (i-a)).map (Eg.key L)):=by
  rw[sU h.oy ha];simp[EB,qp,qo]
 have l0:((ids.drop a).take (i-a)).length=i-a:=by simp;omega
 rw[s1,s2];generalize(ids.drop a).take (i-a)=sg at*;have l1:(Bg sg).length=sg.length:=by simp[Bg]
 have l2:(EB (sg.map (Eg.key L))).length=sg.length:=by simp[EB]
 have e:(out++sg).length=out.length+sg.length:=aa;have o1:(Bg out).length=out.length:=by simp[Bg]
 have o2:(EB (out.map (Eg.key L))).length=out.length:=by simp[EB]
 refine⟨?_,?_,?_,?_,oO,by rw[aN,h.xl],by rw[aN,h.yl]⟩
 ·have:=qMw (out:=Bg out) (seg:=Bg sg) (xs:=xs) (by rw[o1];exact h.hx) oO;rw[o1,l1]at this;rw[e,this,iF]
 ·have:=qMw (out:=EB (out.map (Eg.key L))) (seg:=EB (sg.map (Eg.key L))) (xs:=ys) (by rw[o2];exact h.hy) oO;rw[o2,l2]at this;rw[e,this,kv,qUi]
 ·have:=qMv (m:=out.length) (seg:=Bg sg) (xs:=xs) oO;rw[l1]at this;rw[e,this];exact sU h.ox oO
 have:=qMv (m:=out.length) (seg:=EB (sg.map (Eg.key L))) (xs:=ys) oO;rw[l2]at this;rw[e,this];exact sU h.oy oO
def VJ {g c a i n}(hc:n<=c)(ha:a<=i)(hi:i<=n):i-a=0\/(if c=a then(⟨g,0,none⟩:Addr)else Addr.add ⟨g,0,none⟩ (a*1))=⟨g,a*1,none⟩:=by
 by_cases h:c=a
 ·left;omega
 right;rw[if_neg h,addr_add]
def qNd (l:List Nat):iU (Bg l)=true:=by
 induction l with
 |nil=>rfl
 |cons x l ih=>exact ih
def qNe (l:List Nat):iU (EB l)=true:=by
 induction l with
 |nil=>rfl
 |cons x l ih=>exact ih
end
end Go.Proofs.YtnicahfnolhgbaaGreatDoor
namespace Sl
open Go Go.RowKit
variable {E:Bp}{n:Nat}{L:Fr}{S:List HP}{ty:TypeId}{pos:String}{af:Array Edge}{d:Option Nat}{gd:Option (Nat×Bool)}
def gL {x}{t e:TypeId}{q len cap s b sz zs lo hi l h}(hx:ev L x=some (.slice (some q) len cap))(ht:E.tab t=some ⟨.slice e s b,sz,zs⟩)
  (hA:match lo with |none=>l=0|some y=>∃k,ev L y=some (.int k (l:Nat))) (hB:match hi with |none=>h=len|some y=>∃k,ev L y=some (.int k (h:Nat))) (h1:l<=h) (h2:h<=cap):
  Yl E n L S ⟨d,.slice t x lo hi none,ty,pos,af,gd⟩ (.slice (some (if cap=l then q else q.add (l*s))) (h-l) (cap-l)):=fun a w g hs=>by
 have:=jZ (S:=S) (d:=d) (ty:=ty) (pos:=pos) (af:=af) (gd:=gd) (lo:=lo) (hi:=hi) (l:=l) (h:=h) hx ht hA hB h1 h2 a w g hs;rw[this];split <;>rfl
end Sl
