import Derived.Test.YtlmpojkmeglepaaGreatDoorQ72
set_option linter.all false
set_option maxHeartbeats 1000000
namespace Go.Proofs.YtlmpojkmeglepaaGreatDoor
open Go Go.RowKit Sl Eg
def te (L:List Rl)(K:Nat):List Nat→Bool×Bool
 |[]=>(false,true)
 |x::r=>if(te L K r).2=true then(if Eg.key L x=K then(!(te L K r).1,true)else((te L K r).1,false))else te L K r
def te_one (L:List Rl)(K x:Nat):te L K [x]=(decide (Eg.key L x=K),decide (Eg.key L x=K)):=by
 by_cases h:Eg.key L x=K<;>simp[te,h]
def qQd (L:List Rl)(K:Nat)(B:List Nat):∀A:List Nat,te L K (A++B)=if(te L K B).2=true then((te L K A).1^^(te L K B).1,(te L K A).2)else te L K B
 |[]=>by
  simp only[fu,te,Bool.false_xor];split
  ·rename_i h;rw[←h]
  rfl
 |x::A=>by
  have ih:=qQd L K B A;simp only[ik,te];rw[ih];by_cases h:(te L K B).2=true
  ·rw[if_pos h];simp only;by_cases hA:(te L K A).2=true
   ·rw[if_pos hA,if_pos hA,if_pos h];by_cases e:Eg.key L x=K
    ·rw[if_pos e,if_pos e];simp
    rw[if_neg e,if_neg e]
   rw[if_neg hA,if_neg hA,if_pos h]
  rw[if_neg h,if_neg h,if_neg h]
def te_rep (L:List Rl)(K:Nat)(A:List Nat):∀t,1≤t→te L K (List.replicate t A).flatten=if(te L K A).2=true then(if t%2=0 then false else(te L K A).1,true)else te L K A
 |0,h=>by omega
 |1,_=>by
  simp only[bn,List.replicate_zero,jo,List.flatten_nil,aj];split
  ·rename_i h;rw[if_neg oO,←h]
  rfl
 |t+2,_=>by
  have ih:=te_rep L K A (t+1) oO;rw[bn,jo,qQd,ih];by_cases h:(te L K A).2=true
  ·rw[if_pos h,if_pos h];simp only[if_true,h];have e:(t+2)%2=t%2:=oO;rcases qo t with h0|h1
   ·rw[if_neg oO,if_pos oO];simp
   rw[if_pos oO,if_neg oO];simp
  rw[if_neg h,if_neg h,if_neg h]
def qQf {L:List Rl}{K:Nat}:∀{A:List Nat},(te L K A).2=true→∀x∈A,Eg.key L x=K
 |[],_,x,hx=>by simp at hx
 |a::A,h,x,hx=>by
  simp only[te]at h;by_cases hA:(te L K A).2=true
  ·rw[if_pos hA]at h;by_cases e:Eg.key L a=K
   ·rcases ku.1 hx with rfl|hx
    ·exact e
    exact qQf hA x hx
   rw[if_neg e]at h;cases h
  rw[if_neg hA]at h;exact absurd h hA
def qKo {L:List Rl}{c:Nat}{X X':List Nat}(h:Pg L c X X'):∀{u:Nat},X.getLast?=some u→X'.getLast?=some u∨∃z,eH c (Eg.key L z) (Eg.key L u):=by
 induction h with
 |nil=>intro u hu;simp at hu
 | @one x r o h1 h2 ih=>
  intro u hu
  rcases zB x r with⟨rfl,e⟩|⟨b,e1,e2⟩
  ·rw[e]at hu
   cases hu
   cases h2
   exact .inl O
  rw[e2]at hu
  cases hu
  rcases ih e1 with h| h
  ·exact .inl (lI x h)
  exact .inr h
 | @two x y j r o h1 h2 h3 ih=>
  intro u hu
  rcases zB y r with⟨rfl,e⟩|⟨b,e1,e2⟩
  ·rw[mg,e]at hu
   cases hu
   exact .inr ⟨x,h1⟩
  rw[mg,e2]at hu
  cases hu
  rcases ih e1 with h| h
  ·exact .inl (lI _ h)
  exact .inr h
def last_tie {L:List Rl}{X X':List Nat}(h:Pg L 122 X X'):∀{u:Nat},X.getLast?=some u→(te L (Eg.key L u) X).1=true→X'.getLast?=some u:=by
 have hf:∀x y,eH 122 x y↔x=y:=fun x y=>by unfold eH;rw[if_pos rfl]
 induction h with
 |nil=>intro u hu;simp at hu
 | @one x r o h1 h2 ih=>
  intro u hu ht
  rcases zB x r with⟨rfl,e⟩|⟨b,e1,e2⟩
  ·rw[e]at hu
   cases hu
   cases h2
   rfl
  rw[e2]at hu
  cases hu
  refine lI x (ih e1 ?_)
  simp only[te]at ht
  by_cases hA:(te L (Eg.key L u) r).2=true
  ·rw[if_pos hA]at ht
   have hne:¬Eg.key L x=Eg.key L u:=fun e=>by
    cases r with
    |nil=>simp at e1
    |cons y r=>exact h1 y rfl ((hf _ _).2 (e.trans (qQf hA y (by simp)).symm))
   rw[if_neg hne]at ht
   exact ht
  rw[if_neg hA]at ht;exact ht
 | @two x y j r o h1 h2 h3 ih=>
  intro u hu ht
  have hxy:=(hf _ _).1 h1
  rcases zB y r with⟨rfl,e⟩|⟨b,e1,e2⟩
  ·rw[mg,e]at hu
   cases hu
   simp[te,hxy]at ht
  rw[mg,e2]at hu
  cases hu
  refine lI _ (ih e1 ?_)
  have e:x::y::r=[x,y]++r:=rfl
  rw[e,qQd]at ht
  by_cases hA:(te L (Eg.key L u) r).2=true
  ·rw[if_pos hA]at ht
   have e2:(te L (Eg.key L u) [x,y]).1=false:=by by_cases e:Eg.key L y=Eg.key L u<;>simp[te,hxy,e]
   simp only[e2,Bool.false_xor]at ht
   exact ht
  rw[if_neg hA]at ht;exact ht
def nb_step {L:List Rl}(hw:Wf L){A B:Nat}(hs:Sig L A)(hn:Nb L A B){k:Nat}(h1:1≤k)(h2:(k:Int)≤max (lvl L A) (lvl L B)){u v:Nat}(hu:(expd L (k-1) A).getLast?=some u)(hv:(expd L (k-1) B).head?=some v):
  u≠v∧k≤aft L u v∧(aft L u v=k→num k=122∧(te L (Eg.key L u) (expd L (k-1) A)).1=false):=by
 obtain⟨hbd,hi⟩:=hn k h1 h2;obtain⟨C,eC⟩:=yj.1 hu
 obtain⟨D,eD⟩:∃D,expd L (k-1) B=v::D:=by
  cases e:expd L (k-1) B with
  |nil=>rw[e]at hv;cases hv
  |cons z D=>rw[e]at hv;cases hv;exact⟨D,rfl⟩
 have e1:(expd L (k-1) A++expd L (k-1) B)[C.length]?=some u:=by
  rw[eC,eD,ah,ay (ai _),oQ];rfl
 have e2:(expd L (k-1) A++expd L (k-1) B)[C.length+1]?=some v:=by
  rw[eC,eD,ah,ay oO,oL];rfl
 have hne:u≠v:=fun e=>by
  subst e;have:=(hi.same _ _ e1 e2).1;have hb:=hbd u u hu hv;rw[if_pos this]at hb;exact hb O
 refine⟨hne,hi.diff _ _ _ e1 e2 hne,fun ha=>?_⟩;have hev:k%2=0:=by rw[←ha];exact vC _ _ _
 have hfit:eH (num k) (Eg.key L u) (Eg.key L v):=by
  have:=(nE (low:=max (lvl L u).toNat (lvl L v).toNat) (iU hw u) (iU hw v)).1;unfold aft at ha;rwa [ha]at this
 have hb:=hbd u v hu hv;rw[if_neg oO]at hb;have hnl:¬(expd L k A).getLast?=some u:=fun h=>hb h hfit
 have hq:=hs.step k h1;unfold Sq at hq;rw[if_neg oO]at hq;rcases qKo hq hu with h|⟨z,hz⟩
 ·exact absurd h hnl
 by_cases hc:num k=122
 ·refine⟨hc,?_⟩;rw[hc]at hq;cases ht:(te L (Eg.key L u) (expd L (k-1) A)).1 with
  |false=>rfl
  |true=>exact absurd (last_tie hq hu ht) hnl
 exact absurd hfit (qHu hc hz)
def nX:Rl→Nat
 | .pair _ b=>b
 | .power y _=>y
 | .letter _=>0
def qKn {α:Type}{l:List α}{a:α}(h:l.getLast?=some a):∀t,1≤t→(List.replicate t l).flatten.getLast?=some a
 |0,h=>by omega
 |1,_=>by simpa using h
 |t+2,_=>by
  rw[bn,jo,qb,qKn h (t+1) oO];rfl
def qBd {L:List Rl}(hw:Wf L){l A a:Nat}{m:Nat}(hA:A≤L.length)(hm:l≤m)(h:(expd L m A).getLast?=some a)(ha:1≤a∧a≤L.length):(expd L l A).getLast?=(expd L l a).getLast?∧(lvl L a≤(l:Nat)→(expd L l A).getLast?=some a):=by
 obtain⟨C,e⟩:=yj.1 h
 have e1:expd L l A=eZ L l C++expd L l a:=by
  rw[←fE (x:=A) (l:=l),←jZ hw hm (by simpa using hA),fE,e,fT,fE]
 have hne:expd L l a≠[]:=fun e=>by have:=(lG hw (l:=l) a ha.1 ha.2).1;rw[e]at this;simp at this
 obtain⟨b,hb⟩:∃b,(expd L l a).getLast?=some b:=⟨_,oV hne⟩;have e2:(expd L l A).getLast?=(expd L l a).getLast?:=by rw[e1,qb,hb];rfl
 exact⟨e2,fun hl=>by rw[e2,eO ha.1 hl];rfl⟩
def qBc {L:List Rl}(hw:Wf L){l A a:Nat}{m:Nat}(hA:A≤L.length)(hm:l≤m)(h:(expd L m A).head?=some a)(ha:1≤a∧a≤L.length):(expd L l A).head?=(expd L l a).head?∧(lvl L a≤(l:Nat)→(expd L l A).head?=some a):=by
 obtain⟨C,e⟩:∃C,expd L m A=a::C:=by
  cases e:expd L m A with
  |nil=>rw[e]at h;cases h
  |cons z D=>rw[e]at h;cases h;exact⟨D,rfl⟩
 have e1:expd L l A=expd L l a++eZ L l C:=by
  rw[←fE (x:=A) (l:=l),←jZ hw hm (by simpa using hA),fE,e];have:a::C=[a]++C:=rfl;rw[this,fT,fE]
 have hne:expd L l a≠[]:=fun e=>by have:=(lG hw (l:=l) a ha.1 ha.2).1;rw[e]at this;simp at this
 have e2:(expd L l A).head?=(expd L l a).head?:=by rw[e1,qOz hne]
 exact⟨e2,fun hl=>by rw[e2,eO ha.1 hl];rfl⟩
def qJy {L:List Rl}(hw:Wf L){n:Nat}{r:Rl}(hr:L[n]?=some r){h:Nat}(hl:lvl L (n+1)=(h:Nat))(h0:1≤h):(expd L (h-1) (n+1)).getLast?=some (nX r)∧(expd L (h-1) (n+1)).head?=some r.left∧1≤nX r∧nX r≤L.length∧1≤r.left∧r.left≤L.length∧0≤lvl L (nX r)∧lvl L (nX r)<(h:Nat)∧0≤lvl L r.left∧lvl L r.left<(h:Nat):=by
 have hk:=hw.ok n r hr;have hn:=(ae.1 hr).1;cases r with
 |letter b=>have:=(fU hr).2;omega
 |pair a b=>
  obtain⟨h1,h2,h3,h4⟩:=hk
  obtain⟨g1,g2,g3,g4,_⟩:=lJ hw (x:=n+1) oO hr oO
  have gp:=(jY hr (hw.ok _ _ hr)).2
  rw[hl]at gp
  split at gp
  ·rename_i hc
   simp only[nX,Rl.left]
   have ea:=(qBd hw (A:=b) (a:=b) (m:=h-1) (l:=h-1) oO (ai _) (by rw[eO h3 oO];rfl) ⟨h3,oO⟩).2 oO
   have eb:=(qBc hw (A:=a) (a:=a) (m:=h-1) (l:=h-1) oO (ai _) (by rw[eO h1 oO];rfl) ⟨h1,oO⟩).2 oO
   rw[fZ hw hr oO]
   refine⟨by rw[qb,ea];rfl,?_,h3,oO,h1,oO,hc.2.2,oO,hc.2.1,oO⟩
   rw[eO h1 oO]
   rfl
  omega
 |power y t=>
  obtain⟨h1,h2,h3⟩:=hk
  obtain⟨g1,g2⟩:=nZ hw (x:=n+1) oO hr oO
  have gp:=(jS hr (hw.ok _ _ hr)).2
  rw[hl]at gp
  split at gp
  ·rename_i hc
   simp only[nX,Rl.left]
   rw[gB hw hr oO,eO h1 oO]
   refine⟨qKn O t oO,?_,h1,oO,h1,oO,hc.1,oO,hc.1,oO⟩
   obtain⟨t,rfl⟩:∃s,t=s+1:=⟨t-1,oO⟩
   rw[bn,jo]
   rfl
  omega
end Go.Proofs.YtlmpojkmeglepaaGreatDoor
namespace Sl
open Go Go.RowKit
variable {E:Env}{n:Nat}{L:Fr}{S:List HP}{ty:TypeId}{pos:String}{af:Array Edge}{d:Option Nat}{gd:Option (Nat×Bool)}
def y_shl {x y:Operand}{xt yt:TypeId}{i j:Nat}(hx:ev L x=some (.int .u64 (i:Nat)))(hy:ev L y=some (.int .i64 (j:Nat)))(hj:j≤64)(hb:i*2^j<18446744073709551616):
  Yl E n L S ⟨d,.binOp .shl xt x y yt,ty,pos,af,gd⟩ (.int .u64 ((i*2^j:Nat):Int)):=fun a w g _=>by
 have e:IntKind.u64.wrap ((i:Int)*2^min ((j:Nat):Int).toNat IntKind.u64.bits)=((i*2^j:Nat):Int):=by
  rw[mf,show min j IntKind.u64.bits=j from kz hj];have e2:(i:Int)*2^j=((i*2^j:Nat):Int):=by rw[ny,qf];rfl
  rw[e2,IntKind.wrap_u64];omega
 have h:=shift_shl_any .u64 .i64 (i:Int) ((j:Nat):Int) (oF j);rw[e]at h;simp[execOp,eqGuard,binOp,g.ev hx,g.ev hy,h];have e2:(i:Int)*2^j=((i*2^j:Nat):Int):=by rw[ny,qf];rfl
 rw[e2,IntKind.wrap_u64];omega
def y_or64 {x y:Operand}{xt yt:TypeId}{i j:Nat}(hx:ev L x=some (.int .u64 (i:Nat)))(hy:ev L y=some (.int .u64 (j:Nat)))(hi:i<18446744073709551616)(hj:j<18446744073709551616):
  Yl E n L S ⟨d,.binOp .or xt x y yt,ty,pos,af,gd⟩ (.int .u64 ((i|||j:Nat):Int)):=fun a w g _=>by
 have h:=bits_or_u64_nat i j hi hj;simp[execOp,eqGuard,binOp,Op.intBits,g.ev hx,g.ev hy];exact h
set_option maxRecDepth 100000 in
def and_127:∀m:Fin 256,IntKind.u8.wrap (((BitVec.ofInt IntKind.u8.bits (m.val:Int)&&&BitVec.ofInt IntKind.u8.bits 127).toNat:Nat):Int)=((m.val%128:Nat):Int):=by decide
def y_and127 {x y:Operand}{xt yt:TypeId}{i:Nat}(hi:i<256)(hx:ev L x=some (.int .u8 (i:Nat)))(hy:ev L y=some (.int .u8 127)):
  Yl E n L S ⟨d,.binOp .and xt x y yt,ty,pos,af,gd⟩ (.int .u8 ((i%128:Nat):Int)):=fun a w g q=>by
 have:=y_and (xt:=xt) (yt:=yt) (ty:=ty) (pos:=pos) (af:=af) (d:=d) (gd:=gd) (S:=S) hx hy a w g q;have e:=and_127 ⟨i,hi⟩;simp only at e;rw[e]at this;exact this
end Sl
namespace Go.Proofs.YtlmpojkmeglepaaGreatDoor
open Go Go.RowKit Sl Eg
set_option maxRecDepth 10000
section
variable {E:Env}
def or_sum {a d j:Nat}(h:a<2^j):a|||d*2^j=a+d*2^j:=by
 rw[Nat.or_comm,nu,←Nat.two_pow_add_eq_or_of_lt h,zw]
structure TkI (n:Nat)(i acc m:Nat):Prop where
 sum:acc+m*2^(7*i)=n
 low:acc<2^(7*i)
 pos:1≤m∨i=0
 few:i≤9
def TkI.small {n i acc m:Nat}(h:TkI n i acc m)(hn:n<18446744073709551616):m*2^(7*i)<18446744073709551616∧(i=9→m≤1):=by
 have:=h.sum;refine⟨oO,fun e=>?_⟩;subst e;have e2:(2:Nat)^(7*9)=9223372036854775808:=rfl;rw[e2]at this;omega
def TkI.next {n i acc m:Nat}(h:TkI n i acc m)(hn:n<18446744073709551616)(hm:¬m<128):TkI n (i+1) (acc+m%128*2^(7*i)) (m/128)∧m%128*2^(7*i)<18446744073709551616:=by
 obtain⟨h1,h2,h3,h4⟩:=h;have e:(2:Nat)^(7*(i+1))=128*2^(7*i):=by rw[zo,zn,nu]
 have h9:i≠9:=fun e=>by
  subst e;have e2:(2:Nat)^(7*9)=9223372036854775808:=rfl;rw[e2]at h1;omega
 have hdm:m=128*(m/128)+m%128:=oO;generalize hP:2^(7*i)=P at*
 have e3:m*P=m/128*(128*P)+m%128*P:=by
  conv=>lhs;rw[hdm]
  rw[om,nu 128 (m/128),rq]
 have hlt:m%128<128:=rf _ oO;have hle:m%128*P≤127*P:=jw _ oO;refine⟨⟨by rw[e];omega,by rw[e];omega,.inl oO,oO⟩,oO⟩
def qOb {Bs:List UInt8}{i:Nat}{b:UInt8}(h:Bs[i]?=some b)(o:Nat)(ho:o=i):(byC Bs)[o]?=some (.int .u8 (b.toNat:Nat)):=by subst ho;unfold byC;rw[bi,h];rfl
def qKu {i:Nat}(h:i<256):(UInt8.ofNat i).toNat=i:=by rw[UInt8.toNat_ofNat'];simp;omega
structure TkG where
 i:Nat
 acc:Nat
 m:Nat
def vG (hE:Seat E){n:Nat}{t Bs:List UInt8}(hn:n<18446744073709551616)(hBs:Bs=vput n++t){a:Option Addr}{c:Nat}{q:HP}(hq:Rdb E.w0 a (byC Bs) q):Ct E 59 [.slice a Bs.length c] [q] (fun v Q=>v= .tuple #[.int .u64 (n:Nat),.int .i64 ((vput n).length:Nat),.nilIface]∧Q=[q]):=by
 have hpos:=kK n;have hBl:Bs.length=(vput n).length+t.length:=by rw[hBs,aa]
 have hten:=fG hn;obtain⟨g,o,rfl,hq'⟩:=hq (qJi (by intro e;rw[e]at hBl;simp at hBl;omega));refine bO (hE.fn Tryz.func59) O O O (fun R=>?_);simp only[dR,uV,uW];refine gg16 ?_;refine dW (fun x:TkG=>[(2,.int .u64 (x.acc:Nat)),(7,.slice (some ⟨g,o,none⟩) Bs.length c),(8,.int .i64 (Bs.length:Nat)),(9,.int .i64 (x.i:Nat))]) (fun x=>[q,R]) (fun x=>10-x.i) (fun x=>TkI n x.i x.acc x.m∧Bs.drop x.i=vput x.m++t∧x.i+(vput x.m).length=(vput n).length) ⟨0,0,n⟩ ⟨⟨by simp,by simp,.inr rfl,av _⟩,hBs,by simp⟩ ⟨rfl,rfl,rfl,rfl,trivial⟩ uI ?_;rintro⟨i,acc,m⟩⟨hI,hdr,hil⟩;simp only at hI hdr hil ⊢;have hmp:=kK m;have hi9:=hI.few;obtain⟨hsm,h91⟩:=hI.small hn;have hlow:=hI.low;have hsum:=hI.sum
 have hmn:m<18446744073709551616:=by
  have:m*1≤m*2^(7*i):=mh _ (Nat.one_le_two_pow);omega
 have hBi:i<Bs.length:=oO;refine gg6 ?_;refine bE O (fun h=>?_) (fun h=>?_)
 ·obtain⟨bv,f0,hb1,hb2,hb3,hb4⟩:∃bv:Nat,(byC Bs)[i]?=some (.int .u8 (bv:Nat))∧bv<256∧bv%128=m%128∧(bv<128↔m<128)∧(m<128→bv=m):=by
   have hh:(Bs.drop i).head?=Bs[i]?:=zh;by_cases hm:m<128
   ·rw[hdr,iF hm]at hh;exact⟨m,by have:=qOb hh.symm i rfl;rwa [qKu oO]at this,oO,rfl,oO,fun _=>rfl⟩
   rw[hdr,lU hm]at hh;exact⟨m%128+128,by have:=qOb hh.symm i rfl;rwa [qKu oO]at this,oO,oO,oO,fun h=>absurd h hm⟩
  have f1:(byC Bs)[((i:Nat):Int).toNat]?=some (.int .u8 (bv:Nat)):=by rw[mf];exact f0
  have hdm:bv%128*2^(7*i)<18446744073709551616:=by
   rw[hb2];by_cases hm:m<128
   ·rw[ql hm];exact hsm
   exact(hI.next hn hm).2
  have hacc:acc<18446744073709551616:=oO;refine gg13 ?_;refine kZ (fun _:Unit=>[(2,.int .u64 (acc:Nat)),(5,.int .i64 (i:Nat)),(6,.int .u8 (bv:Nat)),(7,.slice (some ⟨g,o,none⟩) Bs.length c),(8,.int .i64 (Bs.length:Nat)),(9,.int .i64 (i:Nat))]) (fun _=>[q,R]) (fun _=>True) ?_ ?_
  ·refine gg5 ?_;refine dS 16 O (fun h9=>?_) (fun h9=>?_)
   ·have h1:=h91 oO;refine gg7 ?_;refine bE O (fun h2=>?_) (fun h2=>?_)
    ·exfalso;omega
    refine gg1 ?_;refine fC (ι:=Unit) () trivial ⟨O,O,O,O,O,O,trivial⟩ ?_;exact uI
   refine gg7 ?_;refine fC (ι:=Unit) () trivial ⟨O,O,O,O,O,O,trivial⟩ ?_;exact uI
  rintro⟨⟩ -;refine gg4 ?_;refine uB (y_and127 hb1 O O) ?_;refine gg3 ?_;refine l_eq 26 (.int .i64 ((7*i:Nat):Int)) O (bW oO) ?_;refine uB (y_shl O O oO hdm) ?_;refine uB (y_or64 O O hacc hdm) ?_;refine l_eq 28 (.int .u64 ((acc+bv%128*2^(7*i):Nat):Int)) O (by rw[or_sum hlow]) ?_;refine gg9 ?_;refine bE O (fun h3=>?_) (fun h3=>?_)
  ·have hm:m<128:=hb3.1 oO;have hbm:=hb4 hm;subst hbm;rw[iF hm]at hil;have hil':i+1=(vput n).length:=by simpa using hil
   have hres:acc+bv%128*2^(7*i)=n:=by rw[ql hm];exact hsum
   refine gg6 ?_;refine dS 33 O (fun z=>?_) (fun z=>?_)
   ·have hi0:i=0:=by
     rcases hI.pos with h| h
     ·omega
     exact h
    refine gg7 ?_;refine bE O (fun z2=>?_) (fun z2=>?_)
    ·exfalso;omega
    refine gg18 ?_;apply cB
    ·rfl
    ·(apply Rs.tmp rfl;apply Rs.tmp rfl;apply Rs.tmp rfl;exact Rs.nil)
    ·rw[hres];exact⟨by rw[←hil'];rfl,rfl⟩
    exact uI
   refine gg24 ?_;apply cB
   ·rfl
   ·(apply Rs.tmp rfl;apply Rs.tmp rfl;apply Rs.tmp rfl;exact Rs.nil)
   ·rw[hres];exact⟨by rw[←hil'];rfl,rfl⟩
   exact uI
  have hm:¬m<128:=fun h=>h3 (by have:=hb3.2 h;omega)
  have hnx:=(hI.next hn hm).1;rw[lU hm]at hil hdr;refine gg7 ?_;refine bS (ι:=TkG) (j:=⟨i+1,acc+bv%128*2^(7*i),m/128⟩) ⟨by rw[hb2];exact hnx,?_,by simp only;simp at hil;omega⟩ (by simp only;omega) ⟨rfl,rfl,rfl,bg some (bW (by simp only;omega)),trivial⟩ uI;simp only;rw[←uf,hdr];rfl
 exact absurd (show((i:Nat):Int)<(Bs.length:Nat) by omega) h
end
section
variable {E:Env}
def vwA (a:Option Addr)(c k:Nat):Option Addr:=if c=k then a else a.map (·.add (k*1))
def byC_drop (Bs:List UInt8)(k:Nat):byC (Bs.drop k)=(byC Bs).drop k:=by unfold byC;rw[pu]
def pW {w0:World}{a:Option Addr}{Bs:List UInt8}{q:HP}{c k:Nat}(h:Rdb w0 a (byC Bs) q)(hc:Bs.length≤c):Rdb w0 (vwA a c k) (byC (Bs.drop k)) q:=fun hne=>by
 have hk:k<Bs.length:=by
  apply Classical.byContradiction;intro hn;rw[rz oO]at hne;exact hne O
 obtain⟨g,o,rfl,hr⟩:=h (qJi (by intro e;rw[e]at hk;simp at hk));unfold vwA;rw[if_neg oO];refine⟨g,o+k,by simp[Addr.add],fun u hu i v hv=>?_⟩;rw[byC_drop,oM]at hv;have:=hr u hu (k+i) v hv;rw[oq];exact this
def ct_two (hE:Seat E){x y:Nat}{b0:UInt8}{t Bs:List UInt8}(hx:x<9223372036854775808)(hy:y<9223372036854775808)(hBs:Bs=b0::(vput x++(vput y++t))){a:Option Addr}{c:Nat}{q:HP}(hq:Rdb E.w0 a (byC Bs) q)(hc:Bs.length≤c):Ct E 88 [.slice a Bs.length c] [q] (fun v Q=>v= .tuple #[.int .i64 (x:Nat),.int .i64 (y:Nat),.int .i64 ((1+(vput x).length+(vput y).length:Nat):Int),.bool true]∧Q=[q]):=by
 have h1:=fG (n:=x) oO;have h2:=fG (n:=y) oO;have hBl:Bs.length=1+(vput x).length+(vput y).length+t.length:=by rw[hBs];simp;omega
 have d1:Bs.drop 1=vput x++(vput y++t):=by rw[hBs];rfl
 have d2:Bs.drop (1+(vput x).length)=vput y++t:=by rw[←uf,d1];simp
 refine bO (hE.fn Tryz.func88) O O O (fun R=>?_);simp only[dR,uV,uW];refine gg11 ?_;refine uB (mZ (l:=1) (h:=Bs.length) O (hE.t O) ⟨_,O⟩ O oO oO) ?_;refine l_eq 12 (.slice (vwA a c (1)) (Bs.drop 1).length (c-(1))) O (bg (fun z=>Value.slice _ z _) (by rw[iw])) ?_;refine uX (vG (n:=x) hE oO d1 (pW hq hc)) O ?_;rintro _ _⟨rfl,rfl⟩;simp only[uV,uW];refine gg22 ?_;refine bE O (fun g1=>?_) (fun g1=>?_)
 ·exfalso;omega
 refine gg6 ?_;refine l_eq 24 (.int .i64 ((1+(vput x).length:Nat):Int)) O (bW oO) ?_;refine gg7 ?_;refine uB (mZ (l:=1+(vput x).length) (h:=Bs.length) O (hE.t O) ⟨_,O⟩ O oO oO) ?_;refine l_eq 28 (.slice (vwA a c (1+(vput x).length)) (Bs.drop (1+(vput x).length)).length (c-(1+(vput x).length))) O (bg (fun z=>Value.slice _ z _) (by rw[iw])) ?_;refine uX (vG (n:=y) hE oO d2 (pW hq hc)) O ?_;rintro _ _⟨rfl,rfl⟩;simp only[uV,uW];refine gg22 ?_;refine bE O (fun g2=>?_) (fun g2=>?_)
 ·exfalso;omega
 refine gg11 ?_;refine l_eq 45 (.int .i64 ((1+(vput x).length+(vput y).length:Nat):Int)) O (bW oO) ?_;refine gg7 ?_;exact uZ O (.tmp O (.tmp O (.tmp O (.tmp O .nil)))) ⟨O,O⟩
def ct_rTake (hE:Seat E){r:Rl}{n:Nat}(ho:r.ok n)(h1:1≤n)(hn:n≤1099511627776)(ht:r.times≤1152921504606846976){t Bs:List UInt8}(hBs:Bs=rulB n r++t){a:Option Addr}{c:Nat}{q:HP}(hq:Rdb E.w0 a (byC Bs) q)(hc:Bs.length≤c)(hcl:Bs.length≤1099511627776):Ct E 60 [.slice a Bs.length c,.int .i64 (n:Nat)] [q] (fun v Q=>v= .tuple #[.agg #[.int .i64 (Rl.kind (r):Nat),.int .u8 (Rl.byte (r):Nat),.int .i64 (Rl.left (r):Nat),.int .i64 (Rl.right (r):Nat),.int .i64 (Rl.times (r):Nat)],.int .i64 ((rulB n r).length:Nat),.nilIface]∧Q=[q]):=by
 have hrl:=yE n hn r ht;have hBl:Bs.length=(rulB n r).length+t.length:=by rw[hBs,aa]
 cases r with
 |letter b=>
  have hl2:(rulB n (.letter b)).length=2:=rfl
  obtain⟨g,o,rfl,hq'⟩:=hq (qJi (by intro e;rw[e]at hBl;simp at hBl;omega))
  have f0:(byC Bs)[0]?=some (.int .u8 1):=by rw[hBs];rfl
  have f1:(byC Bs)[1]?=some (.int .u8 (b.toNat:Nat)):=by rw[hBs];rfl
  have hb:=b.toNat_lt
  refine bO (hE.fn Tryz.func60) O O O (fun R=>?_)
  simp only[dR,uV,uW]
  refine gg2 ?_
  refine uU (dA (hE.t O) (fun b4=>?_))
  refine gg12 ?_
  refine bE O (fun e0=>?_) (fun e0=>?_)
  ·exfalso;omega
  refine gg9 ?_
  refine uU (dA (hE.t O) (fun b7=>?_))
  refine gg31 ?_
  refine bE O (fun e1=>?_) (fun e1=>?_)
  ·exfalso;omega
  refine gg12 ?_
  refine iB (cO (p:=cells b7 [.int .i64 ((1:Nat):Int),.int .u8 (b.toNat:Nat),.int .i64 ((0:Nat):Int),.int .i64 ((0:Nat):Int),.int .i64 ((0:Nat):Int)] 86) (p':=cells b7 [.int .i64 (Rl.kind ((Rl.letter b)):Nat),.int .u8 (Rl.byte ((Rl.letter b)):Nat),.int .i64 (Rl.left ((Rl.letter b)):Nat),.int .i64 (Rl.right ((Rl.letter b)):Nat),.int .i64 (Rl.times ((Rl.letter b)):Nat)] 86) uK (fun _ h=>h)) ?_
  refine gg5 ?_
  refine uX (vF (r:=(Rl.letter b)) hE ho h1 hn) O ?_
  rintro _ _⟨rfl,rfl⟩
  simp only[uV,uW]
  refine gg22 ?_
  apply cB
  ·rfl
  ·((apply Rs.cell rfl (hE.t rfl) rfl;(focus((repeat(first |rfl|assumption|constructor));done)));apply Rs.tmp rfl;apply Rs.tmp rfl;exact Rs.nil)
  ·exact⟨by rw[hl2];rfl,rfl⟩
  exact uI
 |pair x y=>
  have ho':=ho
  simp only[Rl.ok]at ho'
  have hBs2:Bs=2::(vput (n-x)++(vput (n-y)++t)):=by rw[hBs];simp[rulB]
  have hl2:(rulB n (.pair x y)).length=1+(vput (n-x)).length+(vput (n-y)).length:=by simp[rulB];omega
  have hqq:=hq
  obtain⟨g,o,rfl,hq'⟩:=hq (qJi (by intro e;rw[e]at hBl;simp at hBl;omega))
  have f0:(byC Bs)[0]?=some (.int .u8 2):=by rw[hBs];rfl
  refine bO (hE.fn Tryz.func60) O O O (fun R=>?_)
  simp only[dR,uV,uW]
  refine gg2 ?_
  refine uU (dA (hE.t O) (fun b4=>?_))
  refine gg12 ?_
  refine bE O (fun e0=>?_) (fun e0=>?_)
  ·exfalso;omega
  refine gg9 ?_
  refine uU (dA (hE.t O) (fun b7=>?_))
  refine gg37 ?_
  refine uX (ct_two (x:=n-x) (y:=n-y) hE oO oO hBs2 hqq hc) O ?_
  rintro _ _⟨rfl,rfl⟩
  simp only[uV,uW]
  refine gg48 ?_
  refine bE O (fun e2=>?_) (fun e2=>?_)
  ·exfalso;omega
  refine gg7 ?_
  refine l_eq 69 (.int .i64 (x:Nat)) O (bW oO) ?_
  refine gg16 ?_
  refine l_eq 76 (.int .i64 (y:Nat)) O (bW oO) ?_
  refine gg5 ?_
  refine iB (cO (p:=cells b7 [.int .i64 ((2:Nat):Int),.int .u8 ((0:Nat):Int),.int .i64 (x:Nat),.int .i64 (y:Nat),.int .i64 ((0:Nat):Int)] 86) (p':=cells b7 [.int .i64 (Rl.kind ((Rl.pair x y)):Nat),.int .u8 (Rl.byte ((Rl.pair x y)):Nat),.int .i64 (Rl.left ((Rl.pair x y)):Nat),.int .i64 (Rl.right ((Rl.pair x y)):Nat),.int .i64 (Rl.times ((Rl.pair x y)):Nat)] 86) uK (fun _ h=>h)) ?_
  refine gg5 ?_
  refine uX (vF (r:=(Rl.pair x y)) hE ho h1 hn) O ?_
  rintro _ _⟨rfl,rfl⟩
  simp only[uV,uW]
  refine gg22 ?_
  apply cB
  ·rfl
  ·((apply Rs.cell rfl (hE.t rfl) rfl;(focus((repeat(first |rfl|assumption|constructor));done)));apply Rs.tmp rfl;apply Rs.tmp rfl;exact Rs.nil)
  ·exact⟨by rw[hl2];rfl,rfl⟩
  exact uI
 |power x k=>
  have ho':=ho
  simp only[Rl.ok]at ho'
  simp only[Rl.times]at ht
  have hBs2:Bs=3::(vput (n-x)++(vput (k-2)++t)):=by rw[hBs];simp[rulB]
  have hl2:(rulB n (.power x k)).length=1+(vput (n-x)).length+(vput (k-2)).length:=by simp[rulB];omega
  have hqq:=hq
  obtain⟨g,o,rfl,hq'⟩:=hq (qJi (by intro e;rw[e]at hBl;simp at hBl;omega))
  have f0:(byC Bs)[0]?=some (.int .u8 3):=by rw[hBs];rfl
  refine bO (hE.fn Tryz.func60) O O O (fun R=>?_)
  simp only[dR,uV,uW]
  refine gg2 ?_
  refine uU (dA (hE.t O) (fun b4=>?_))
  refine gg12 ?_
  refine bE O (fun e0=>?_) (fun e0=>?_)
  ·exfalso;omega
  refine gg9 ?_
  refine uU (dA (hE.t O) (fun b7=>?_))
  refine gg40 ?_
  refine uX (ct_two (x:=n-x) (y:=k-2) hE oO oO hBs2 hqq hc) O ?_
  rintro _ _⟨rfl,rfl⟩
  simp only[uV,uW]
  refine gg34 ?_
  refine bE O (fun e3=>?_) (fun e3=>?_)
  ·exfalso;omega
  refine gg15 ?_
  refine bE O (fun e2=>?_) (fun e2=>?_)
  ·exfalso;omega
  refine gg7 ?_
  refine l_eq 69 (.int .i64 (x:Nat)) O (bW oO) ?_
  refine gg15 ?_
  refine l_eq 79 (.int .i64 (k:Nat)) O (bW oO) ?_
  refine gg5 ?_
  refine iB (cO (p:=cells b7 [.int .i64 ((3:Nat):Int),.int .u8 ((0:Nat):Int),.int .i64 (x:Nat),.int .i64 ((0:Nat):Int),.int .i64 (k:Nat)] 86) (p':=cells b7 [.int .i64 (Rl.kind ((Rl.power x k)):Nat),.int .u8 (Rl.byte ((Rl.power x k)):Nat),.int .i64 (Rl.left ((Rl.power x k)):Nat),.int .i64 (Rl.right ((Rl.power x k)):Nat),.int .i64 (Rl.times ((Rl.power x k)):Nat)] 86) uK (fun _ h=>h)) ?_
  refine gg5 ?_
  refine uX (vF (r:=(Rl.power x k)) hE ho h1 hn) O ?_
  rintro _ _⟨rfl,rfl⟩
  simp only[uV,uW]
  refine gg22 ?_
  apply cB
  ·rfl
  ·((apply Rs.cell rfl (hE.t rfl) rfl;(focus((repeat(first |rfl|assumption|constructor));done)));apply Rs.tmp rfl;apply Rs.tmp rfl;exact Rs.nil)
  ·exact⟨by rw[hl2];rfl,rfl⟩
  exact uI
end
end Go.Proofs.YtlmpojkmeglepaaGreatDoor
namespace Sl
open Go Go.RowKit
variable {E:Env}{n:Nat}{L:Fr}{S H H':List HP}{ty:TypeId}{pos:String}{af:Array Edge}{d:Option Nat}{gd:Option (Nat×Bool)}{K:Value→List HP→Prop}{Q:Exit→Act→World→Prop}
def qUv {x y:Operand}{t e:TypeId}{b o c dl dc k cc N m g go by_ sz sz':Nat}{xs us zs zs':List Value}{kk:TK}{q:HP}{H'':List HP}(ht:E.tab t=some ⟨.slice e 1 by_,sz,zs⟩)(he:E.tab e=some ⟨kk,sz',zs'⟩)
  (hx:ev L x=some (.slice (some ⟨b,o,none⟩) dl dc)) (hy:ev L y=some (.slice (some ⟨g,go,none⟩) k cc)) (hq:∀z,q z→RdAt E.w0 g go us z) (hm:Take q H H') (hm2:Take (sl (some ⟨b,0,none⟩) c e 1 N xs) H' H'') (hp:iV us=true) (hl:us.length=m) (hmm:m=Nat.min k dl) (hN:o+m≤N)
  (hk:K (.int .i64 (m:Nat)) (q::sl (some ⟨b,0,none⟩) c e 1 N (bX xs o us)::H'')):Ld E n L H ⟨d,.call {callee:= .builtin .copy,args:= #[x,y],argTypes:= #[t,t]},ty,pos,af,gd⟩ K:=fun Q next a w G hn=>by
 obtain⟨hu,j,hj,hs,hby⟩:=fF ht;obtain⟨i,z,hi,hi2,hiz,hzc,_⟩:=fB he;obtain rfl:i=j:=by rw[hi]at hj;simpa using hj
 have s1:=G.hp.take hm;have s2:Sat E.w0 w (sl (some ⟨b,0,none⟩) c e i.size N xs::q::H''):=by rw[hs];exact(s1.imp fun _ h=>iE (fV (fun _=>hm2.out) h))
 have hnews:∀j u,us[j]?=some u→w.cell? ((⟨g,go,none⟩:Addr).add j)=some u:=fun j u hu=>by rw[addr_add];exact qDm hq s1 hu
 obtain⟨w',hr,ho⟩:=qBl hu hi ty (dc:=dc) (cc:=cc) s2 hmm (by rw[hs,oC];exact hl) hnews hp (by rw[hs,oC,oC];exact hN);rw[hs]at ho
 have hrun:(execOp a.eval ⟨d,.call {callee:= .builtin .copy,args:= #[x,y],argTypes:= #[t,t]},ty,pos,af,gd⟩).run E.P w= .ok (.value (.int .i64 (m:Nat))) w':=by
  simp[execOp,resolve,invoke,builtin,G.f.ev hx,G.f.ev hy,hr]
 unfold Oper.wp;rw[hrun,Oper.upon_value];exact hn _ _ _ hk (ho.imp fun _ h=>iE h)
def ld_makeU {x:Operand}{t e:TypeId}{c es by_ sz sz':Nat}{zs zs':List Value}{kk:TK}(ht:E.tab t=some ⟨.slice e es by_,sz,zs⟩)(he:E.tab e=some ⟨kk,sz',zs'⟩)
  (hx:ev L x=some (.int .u64 (c:Nat))) (hb:by_*c≤281474976710656) (hc:c≤maxLen)
  (hk:∀b us,us.length=c*es→K (.slice (some ⟨b,0,none⟩) c c) (sl (some ⟨b,0,none⟩) c e es c us::H)):Ld E n L H ⟨d,.makeSlice t x x,ty,pos,af,gd⟩ K:=fun Q next a w G hn=>by
 obtain⟨hu,j,hj,hs,hby⟩:=fF ht;obtain⟨i,z,hi,hi2,hiz,hzc,_⟩:=fB he;obtain rfl:i=j:=by rw[hi]at hj;simpa using hj
 subst hs hby;have h63:(c:Int)≤9223372036854775807:=by have h:=hc;simp[maxLen]at h;omega
 have hr:=run_make (P:=E.P) w t e i z hu hi hiz .u64 .u64 (c:Int) (c:Int) (oF c) (vg _) (by rw[←ny];omega) h63
 have hrun:(execOp a.eval ⟨d,.makeSlice t x x,ty,pos,af,gd⟩).run E.P w= .ok (.value (.slice (some ⟨w.heap.size,0,none⟩) c c)) (w.alloc (.cells (madeCells z.cells (c*i.size)) e)):=by
  simp[execOp,G.f.ev hx,hr]
 unfold Oper.wp;rw[hrun,Oper.upon_value];have hz:=size_madeCells z.cells (c*i.size);generalize madeCells z.cells (c*i.size)=M at*;refine hn _ _ _ (hk _ M.toList (by simpa using hz)) ?_;have:=G.hp.new (.cells M e);exact this.imp fun _=>gN fun _ h=>eG (by simpa using hz) hc _ h
end Sl
namespace Go.Proofs.YtlmpojkmeglepaaGreatDoor
open Go Go.RowKit Sl Eg
set_option maxRecDepth 10000
section
variable {E:Env}
def qSu (bs:List UInt8):iV (byC bs)=true:=by
 induction bs with
 |nil=>rfl
 |cons b bs ih=>exact ih
def qHd (hE:Seat E){nm:List UInt8}{mx:Nat}{t Bs:List UInt8}(h1:1≤nm.length)(hmx:nm.length≤mx)(hmx2:mx≤1099511627776)(hBs:Bs=gH nm++t){a:Option Addr}{c:Nat}{q:HP}(hq:Rdb E.w0 a (byC Bs) q)(hc:Bs.length≤c)(hcl:Bs.length≤1099511627776):Ct E 61 [.slice a Bs.length c,.int .i64 (mx:Nat)] [q]
  (fun v Q=>∃g,v= .tuple #[.slice (some ⟨g,0,none⟩) nm.length nm.length,.int .i64 ((gH nm).length:Nat),.nilIface]∧Q=[q,sl (some ⟨g,0,none⟩) nm.length 5 1 nm.length (byC nm)]):=by
 have h10:=fG (n:=nm.length) oO;have hbb:(gH nm).length=(vput nm.length).length+nm.length:=aa;have hBl:Bs.length=(gH nm).length+t.length:=by rw[hBs,aa]
 have hBs2:Bs=vput nm.length++(nm++t):=by rw[hBs,gH,ah]
 have hdr:Bs.drop (vput nm.length).length=nm++t:=by rw[hBs2];simp
 have hbl:=qBp nm;have hml:nm.length≤maxLen:=by unfold maxLen;omega
 have hmk:1*nm.length≤281474976710656:=oO;refine bO (hE.fn Tryz.func61) O O O (fun R=>?_);simp only[dR,uV,uW];refine gg10 ?_;refine uX (vG (n:=nm.length) hE oO hBs2 hq) O ?_;rintro _ _⟨rfl,rfl⟩;simp only[uV,uW];refine gg25 ?_;refine l_eq 22 (.int .i64 (mx:Nat)) O (bW (by first |omega |simp)) ?_;refine gg4 ?_;refine bE O (fun e1=>?_) (fun e1=>?_)
 ·exfalso;omega
 refine gg14 ?_;refine bE O (fun e2=>?_) (fun e2=>?_)
 ·exfalso;omega
 refine gg5 ?_;refine uU ?_;refine ld_makeU (hE.t O) (hE.t O) O hmk hml (fun b35 us35 hu35=>?_);refine gg8 ?_;refine uB (mZ (l:=(vput nm.length).length) (h:=Bs.length) O (hE.t O) ⟨_,O⟩ O oO oO) ?_;refine l_eq 39 (.slice (vwA a c ((vput nm.length).length)) (Bs.drop (vput nm.length).length).length (c-((vput nm.length).length))) O (bg (fun z=>Value.slice _ z _) (by rw[iw])) ?_;have hqr:=pW (k:=(vput nm.length).length) hq hc;rw[hdr]at hqr ⊢;have hnt:(byC (nm++t))=byC nm++byC t:=gM nm t;obtain⟨g,o,hga,hqr'⟩:=hqr (by rw[hnt];intro e;have:=bg List.length e;rw[aa,hbl,fw]at this;omega);rw[hga];have hqn:∀z,q z→RdAt E.w0 g o (byC nm) z:=fun z hz i v hv=>hqr' z hz i v (by rw[hnt,au (ae.1 hv).1];exact hv)
 have hmin:nm.length=Nat.min (nm++t).length nm.length:=by rw[aa];exact(Nat.min_eq_right oO).symm
 refine uU ?_;refine qUv (m:=nm.length) (hE.t O) (hE.t O) O O hqn uK uK (qSu nm) hbl hmin oO ?_
 have hst:bX us35 0 (byC nm)=byC nm:=by
  rw[jV _ _ _ oO,nz,fu,ko,rz oO,aj]
 rw[hst];refine gg15 ?_;exact uZ O (.tmp O (.tmp O (.tmp O .nil))) ⟨b35,by rw[hbb];rfl,rfl⟩
end
section
variable {E:Env}
structure RdG where
 k:Nat
 a:Option Addr
 c:Nat
 Bs:List UInt8
 pg:Option Addr
 cg:Nat
structure RmG where
 k:Nat
 a:Option Addr
 c:Nat
 Bs:List UInt8
 pl:Option Addr
 cl:Nat
 prev:List UInt8
def nmI (A:List (List UInt8×Nat)):List (List UInt8×Int):=A.map fun p=>(p.1,(p.2:Int))
def nmI_take {A:List (List UInt8×Nat)}{k:Nat}{p:List UInt8×Nat}(h:A[k]?=some p):nlC (nmI (A.take (k+1)))=nlC (nmI (A.take k))++[.string ⟨⟨p.1⟩⟩,.int .i64 (p.2:Nat)]:=by
 rw[ed,h];unfold nmI;rw[kg,nI];rfl
def qKa (p:List UInt8×Nat)(A:List (List UInt8×Nat)):encM (p::A)=gH p.1++(vput p.2++encM A):=by
 unfold encM;rw[qd,ah]
def less_nil {a:List UInt8}(h:1≤a.length):Op.bytesLess [] a=true:=by
 cases a with
 |nil=>simp at h
 |cons x a=>rfl
def Prv (A:List (List UInt8×Nat))(k:Nat)(prev:List UInt8):Prop:=(k=0∧prev=[])∨∃p,1≤k∧A[k-1]?=some p∧prev=p.1
def ct_read (hE:Seat E){G:List Rl}{A:List (List UInt8×Nat)}(hG:GOk 0 G)(hGl:G.length≤100000)(ht:∀r∈G,r.times≤1152921504606846976) (hA1:∀p∈A,ValidN p.1∧p.2≤G.length) (hA2:∀(i:Nat)(p q:List UInt8×Nat),A[i]?=some p→A[i+1]?=some q→Op.bytesLess p.1 q.1=true) (hAl:A.length≤1000)
  {Bs:List UInt8} (hBs:Bs=encA G A) {a:Option Addr} {c:Nat} {q:HP} (hq:Rdb E.w0 a (byC Bs) q) (hc:Bs.length≤c) (hcl:Bs.length≤1099511627776):
  Ct E 38 [.slice a Bs.length c] [q]
   (fun v Q=>∃pg cg pl cl,v= .tuple #[.slice pg G.length cg,.slice pl A.length cl,.bool true]∧Q=[q,sl pg cg 86 5 G.length (rusC G),sl pl cl 53 2 A.length (nlC (nmI A))]):=by
 have hBs1:Bs=vput G.length++(encG 0 G++(vput A.length++encM A)):=by rw[hBs];simp only[encA,ah]
 have hv1:=fG (n:=G.length) oO;have hl1:Bs.length=(vput G.length).length+(encG 0 G++(vput A.length++encM A)).length:=by rw[hBs1,aa]
 have hd1:Bs.drop (vput G.length).length=encG 0 G++(vput A.length++encM A):=by rw[hBs1];simp
 refine bO (hE.fn Tryz.func38) O O O (fun R=>?_);simp only[dR,uV,uW];refine gg10 ?_;refine uX (vG (n:=G.length) hE oO hBs1 hq) O ?_;rintro _ _⟨rfl,rfl⟩;simp only[uV,uW];refine gg22 ?_;refine bE O (fun e1=>?_) (fun e1=>?_)
 ·exfalso;omega
 refine gg6 ?_;refine uB (mZ (l:=(vput G.length).length) (h:=Bs.length) O (hE.t O) ⟨_,O⟩ O oO oO) ?_;refine l_eq 33 (.slice (vwA a c ((vput G.length).length)) (Bs.drop (vput G.length).length).length (c-((vput G.length).length))) O (bg (fun z=>Value.slice _ z _) (by rw[iw])) ?_;have hq1:=pW (k:=(vput G.length).length) hq hc;have hc1:(Bs.drop (vput G.length).length).length≤c-(vput G.length).length:=by rw[iw];omega
 have hcl1:(Bs.drop (vput G.length).length).length≤1099511627776:=by rw[iw];omega
 generalize vwA a c (vput G.length).length=a1 at hq1 ⊢;generalize c-(vput G.length).length=c1 at hc1 ⊢;generalize Bs.drop (vput G.length).length=Bs1 at hq1 hc1 hcl1 hd1 ⊢;refine gg16 ?_;refine dW (fun x:RdG=>[(0,.slice x.a x.Bs.length x.c),(5,.int .u64 (G.length:Nat)),(8,.slice x.pg x.k x.cg),(34,.int .u64 (G.length:Nat)),(35,.int .u64 (x.k:Nat))]) (fun x=>[q,sl x.pg x.cg 86 5 x.k (rusC (G.take x.k)),R]) (fun x=>G.length-x.k) (fun x=>x.k≤G.length∧Rdb E.w0 x.a (byC x.Bs) q∧x.Bs.length≤x.c∧x.Bs.length≤1099511627776∧x.Bs=encG x.k (G.drop x.k)++(vput A.length++encM A)) ⟨0,a1,c1,Bs1,none,0⟩ ⟨av _,hq1,hc1,hcl1,hd1⟩ ⟨O,O,O,O,O,trivial⟩ ?_ ?_
 ·apply cZ (gW (t:=86) (sz:=5));exact uI
 clear hq1 hc1 hcl1 hd1 a1 c1 Bs1 hl1 hBs1 hBs hcl hc hq Bs;rintro⟨k,a1,c1,B1,pg,cg⟩⟨hk,hq1,hc1,hcl1,hd1⟩;simp only at hk hq1 hc1 hcl1 hd1 ⊢;refine gg6 ?_;refine bE O (fun h1=>?_) (fun h1=>?_)
 ·have hkl:k<G.length:=oO;obtain⟨r,hr⟩:∃x,G[k]?=some x:=⟨_,ag hkl⟩;have hro:=hG k r hr;rw[ko]at hro;have hrt:=ht r (ak hr);have hrl:=yE (k+1) oO r hrt
  have hd2:B1=rulB (k+1) r++(encG (k+1) (G.drop (k+1))++(vput A.length++encM A)):=by
   rw[hd1,rG hr,encG,ah]
  have hl2:B1.length=(rulB (k+1) r).length+(encG (k+1) (G.drop (k+1))++(vput A.length++encM A)).length:=by
   conv=>lhs;rw[hd2,aa]
  have hd3:B1.drop (rulB (k+1) r).length=encG (k+1) (G.drop (k+1))++(vput A.length++encM A):=by rw[hd2];simp
  have hq2:=pW (k:=(rulB (k+1) r).length) hq1 hc1;have hdl:(B1.drop (rulB (k+1) r).length).length=B1.length-(rulB (k+1) r).length:=iw;refine gg10 ?_;refine l_eq 41 (.int .i64 ((k+1:Nat):Int)) O (bW oO) ?_;refine uX (ct_rTake (r:=r) (n:=k+1) hE hro oO oO hrt hd2 hq1 hc1 hcl1) O ?_;rintro _ _⟨rfl,rfl⟩;simp only[uV,uW];refine gg4 ?_;refine uU (dA (hE.t O) (fun b9=>?_));refine gg19 ?_;refine uB (mZ (l:=(rulB (k+1) r).length) (h:=B1.length) O (hE.t O) ⟨_,O⟩ O oO oO) ?_;refine l_eq 50 (.slice (vwA a1 c1 ((rulB (k+1) r).length)) (B1.drop (rulB (k+1) r).length).length (c1-((rulB (k+1) r).length))) O (bg (fun z=>Value.slice _ z _) (by rw[iw])) ?_;refine gg6 ?_;refine uU ?_;refine aU (hE.t O) (hE.t O) O O O (fun b53=>?_);refine uU ?_;apply bU (hE.t O) (hE.t O) O O O
  ·exact uK
  ·exact uK
  ·rfl
  ·rfl
  ·omega
  ·omega
  ·(unfold maxLen;omega)
  intro g54 c54 n54 x54 hn54 hx54;refine gg5 ?_;refine uB (y_add_u O O oO oO) ?_;refine gg2 ?_;obtain rfl:n54=k+1:=hn54
  obtain rfl:x54=rusC (G.take (k+1)):=by
   rw[hx54,ed,hr];show _=rusC (G.take k++[r]);rw[qWf];rfl
  refine bS (ι:=RdG) (j:=⟨k+1,vwA a1 c1 (rulB (k+1) r).length,c1-(rulB (k+1) r).length,B1.drop (rulB (k+1) r).length,some ⟨g54,0,none⟩,c54⟩) ⟨by simp only;omega,hq2,by simp only;omega,by simp only;omega,hd3⟩ (by simp only;omega) ⟨rfl,rfl,rfl,rfl,bg some (bg (Value.int .u64) (by simp only;omega)),trivial⟩ uI
 obtain rfl:k=G.length:=by omega
 have hd2:B1=vput A.length++encM A:=by rw[hd1,oo];rfl
 rw[oU];have hv2:=fG (n:=A.length) oO;have hl2:B1.length=(vput A.length).length+(encM A).length:=by rw[hd2,aa]
 have hd3:B1.drop (vput A.length).length=encM A:=by rw[hd2];simp
 have hq2:=pW (k:=(vput A.length).length) hq1 hc1;have hc2:(B1.drop (vput A.length).length).length≤c1-(vput A.length).length:=by rw[iw];omega
 have hcl2:(B1.drop (vput A.length).length).length≤1099511627776:=by rw[iw];omega
 refine gg8 ?_;refine uX (vG (n:=A.length) hE oO hd2 hq1) O ?_;rintro _ _⟨rfl,rfl⟩;simp only[uV,uW];refine gg23 ?_;refine uB (mZ (l:=(vput A.length).length) (h:=B1.length) O (hE.t O) ⟨_,O⟩ O oO oO) ?_;refine l_eq 66 (.slice (vwA a1 c1 ((vput A.length).length)) (B1.drop (vput A.length).length).length (c1-((vput A.length).length))) O (bg (fun z=>Value.slice _ z _) (by rw[iw])) ?_;generalize vwA a1 c1 (vput A.length).length=a2 at hq2 ⊢;generalize c1-(vput A.length).length=c2 at hc2 ⊢;generalize B1.drop (vput A.length).length=B2 at hq2 hc2 hcl2 hd3 ⊢;refine gg15 ?_;refine dW (fun x:RmG=>[(0,.slice x.a x.Bs.length x.c),(5,.int .u64 (G.length:Nat)),(8,.slice pg G.length cg),(12,.int .u64 ((A.length-x.k:Nat):Int)),(13,.slice x.pl x.k x.cl),(14,.string ⟨⟨x.prev⟩⟩)]) (fun x=>[q,sl pg cg 86 5 G.length (rusC G),sl x.pl x.cl 53 2 x.k (nlC (nmI (A.take x.k))),R]) (fun x=>A.length-x.k) (fun x=>x.k≤A.length∧Rdb E.w0 x.a (byC x.Bs) q∧x.Bs.length≤x.c∧x.Bs.length≤1099511627776∧x.Bs=encM (A.drop x.k)∧Prv A x.k x.prev) ⟨0,a2,c2,B2,none,0,[]⟩ ⟨av _,hq2,hc2,hcl2,hd3,.inl ⟨O,O⟩⟩ ⟨O,O,O,O,O,O,trivial⟩ ?_ ?_
 ·apply cZ (gW (t:=53) (sz:=2));exact uI
 clear hq2 hc2 hcl2 hd3 a2 c2 B2 hl2 hd2 hd1 hcl1 hc1 hq1 B1;rintro⟨k,a1,c1,B1,pl,cl,prev⟩⟨hk,hq1,hc1,hcl1,hd1,hpv⟩;simp only at hk hq1 hc1 hcl1 hd1 hpv ⊢;refine gg7 ?_;refine bE O (fun h2=>?_) (fun h2=>?_)
 ·have hkl:k<A.length:=oO;obtain⟨p,hp⟩:∃x,A[k]?=some x:=⟨_,ag hkl⟩;obtain⟨hval,hnum⟩:=hA1 p (ak hp);have hp1:=hval.1;have hp2:=hval.2.1;have hdec:decide (ValidN p.1)=true:=mr hval
  have hless:Op.bytesLess prev p.1=true:=by
   rcases hpv with⟨_,rfl⟩|⟨p0,hk1,hp0,rfl⟩
   ·exact less_nil hp1
   exact hA2 (k-1) p0 p hp0 (by rw[show k-1+1=k by omega];exact hp)
  have hv10:=fG (n:=p.1.length) oO;have hv11:=fG (n:=p.2) oO;have hbb:(gH p.1).length=(vput p.1.length).length+p.1.length:=aa;have hd2:B1=gH p.1++(vput p.2++encM (A.drop (k+1))):=by rw[hd1,rG hp,qKa]
  have hl2:B1.length=(gH p.1).length+(vput p.2++encM (A.drop (k+1))).length:=by
   conv=>lhs;rw[hd2,aa]
  have hl3:(vput p.2++encM (A.drop (k+1))).length=(vput p.2).length+(encM (A.drop (k+1))).length:=aa;have hd3:B1.drop (gH p.1).length=vput p.2++encM (A.drop (k+1)):=by rw[hd2];simp
  have hdl:(B1.drop (gH p.1).length).length=B1.length-(gH p.1).length:=iw;have hq2:=pW (k:=(gH p.1).length) hq1 hc1;have hc2:(B1.drop (gH p.1).length).length≤c1-(gH p.1).length:=oO;refine gg7 ?_;refine uX (qHd (nm:=p.1) (mx:=32) hE hp1 hp2 oO hd2 hq1 hc1 hcl1) O ?_;rintro _ _⟨gn,rfl,rfl⟩;simp only[uV,uW];have hqn:Rdb E.w0 (some ⟨gn,0,none⟩) (byC p.1) (sl (some ⟨gn,0,none⟩) p.1.length 5 1 p.1.length (byC p.1)):=fun _=>⟨gn,0,O,qV (fun _ _ h=>h)⟩
  refine gg18 ?_;refine uB (vB (q:=sl (some ⟨gn,0,none⟩) p.1.length 5 1 p.1.length (byC p.1)) (src:=29) (dst:=9) (e:=5) O (hE.t O) (hE.t O) (hE.t O) (by assumption) uK) ?_;refine gg1 ?_;refine uX (sJ (bs:=p.1) hE) O ?_;rintro _ _⟨rfl,rfl⟩;simp only[uV,uW];rw[hdec];refine gg7 ?_;refine uB (vB (q:=sl (some ⟨gn,0,none⟩) p.1.length 5 1 p.1.length (byC p.1)) (src:=29) (dst:=9) (e:=5) O (hE.t O) (hE.t O) (hE.t O) (by assumption) uK) ?_;refine gg3 ?_;refine uB (qJc O O) ?_;refine gg3 ?_;refine w_eq 90 (.bool false) O (bg Value.bool (by rw[qHp,hless];rfl)) ?_;refine gg6 ?_;refine uB (vB (q:=sl (some ⟨gn,0,none⟩) p.1.length 5 1 p.1.length (byC p.1)) (src:=29) (dst:=9) (e:=5) O (hE.t O) (hE.t O) (hE.t O) (by assumption) uK) ?_;refine gg7 ?_;refine uB (mZ (l:=(gH p.1).length) (h:=B1.length) O (hE.t O) ⟨_,O⟩ O oO oO) ?_;refine l_eq 95 (.slice (vwA a1 c1 ((gH p.1).length)) (B1.drop (gH p.1).length).length (c1-((gH p.1).length))) O (bg (fun z=>Value.slice _ z _) (by rw[iw])) ?_;have hcl2:(B1.drop (gH p.1).length).length≤1099511627776:=oO;have hB2l:(B1.drop (gH p.1).length).length≤B1.length:=oO;generalize vwA a1 c1 (gH p.1).length=a2 at hq2 ⊢;generalize c1-(gH p.1).length=c2 at hc2 ⊢
  generalize B1.drop (gH p.1).length=B2 at hq2 hc2 hcl2 hd3 hdl hB2l ⊢;have hl4:B2.length=(vput p.2).length+(encM (A.drop (k+1))).length:=by rw[hd3,hl3]
  have hd5:B2.drop (vput p.2).length=encM (A.drop (k+1)):=by rw[hd3];simp
  have hq3:=pW (k:=(vput p.2).length) hq2 hc2;have hdl3:(B2.drop (vput p.2).length).length=B2.length-(vput p.2).length:=iw;refine gg6 ?_;refine uX (vG (n:=p.2) hE oO hd3 hq2) O ?_;rintro _ _⟨rfl,rfl⟩;simp only[uV,uW];refine gg24 ?_;refine bE O (fun e5=>?_) (fun e5=>?_)
  ·exfalso;omega
  refine gg6 ?_;refine uB (mZ (l:=(vput p.2).length) (h:=B2.length) O (hE.t O) ⟨_,O⟩ O oO oO) ?_;refine l_eq 111 (.slice (vwA a2 c2 ((vput p.2).length)) (B2.drop (vput p.2).length).length (c2-((vput p.2).length))) O (bg (fun z=>Value.slice _ z _) (by rw[iw])) ?_;refine gg9 ?_;refine uU ?_;refine aU (hE.t O) (hE.t O) O O O (fun b117=>?_);refine uU ?_;apply bU (hE.t O) (hE.t O) O O O
  ·exact uK
  ·exact uK
  ·rfl
  ·rfl
  ·omega
  ·omega
  ·(unfold maxLen;omega)
  intro g118 c118 n118 x118 hn118 hx118;refine gg6 ?_;refine uB (qXu O O oO oO) ?_;refine gg2 ?_;obtain rfl:n118=k+1:=hn118;obtain rfl:x118=nlC (nmI (A.take (k+1))):=by rw[hx118,nmI_take hp];rfl
  refine bS (ι:=RmG) (j:=⟨k+1,vwA a2 c2 (vput p.2).length,c2-(vput p.2).length,B2.drop (vput p.2).length,some ⟨g118,0,none⟩,c118,p.1⟩) ⟨by simp only;omega,hq3,by simp only;omega,by simp only;omega,hd5,.inr ⟨p,by simp only;omega,by simp only[cu];exact hp,rfl⟩⟩ (by simp only;omega) ⟨rfl,rfl,rfl,bg some (bg (Value.int .u64) (by simp only;omega)),rfl,rfl,trivial⟩ uI
 obtain rfl:k=A.length:=by omega
 have hB0:B1=[]:=by rw[hd1,oo];rfl
 subst hB0;rw[oU];refine gg18 ?_;exact uZ O (.tmp O (.tmp O (.tmp O .nil))) ⟨pg,cg,pl,cl,O,O⟩
end
