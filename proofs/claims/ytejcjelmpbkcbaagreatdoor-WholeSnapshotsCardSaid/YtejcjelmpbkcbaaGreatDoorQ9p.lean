import Derived.Test.YtejcjelmpbkcbaaGreatDoorQ9k
import Derived.Test.YtejcjelmpbkcbaaGreatDoorQ9o
set_option linter.all false
set_option maxHeartbeats 1000000
namespace Sl
open Go Go.RowKit
variable {E:Env}{n:Nat}{L:Fr}{H H':List HP}{d:Option Nat}{ty:TypeId}{pos:String}{af:Array Edge}{gd:Option (Nat×Bool)}{K:Value→List HP→Prop}
def xQ {x y:Operand}{t:TypeId}{b o:Nat}{vs vs':List Value}{bt:TypeId}{k:TK}{sz:Nat}{zs:List Value}{v:Value}(h:ev L x=some (.pointer (some ⟨b,o,none⟩)))(hy:ev L y=some v)(ht:E.tab t=some ⟨k,sz,zs⟩)
  (hsz:(bP v).length=sz) (hm:Take (cells b vs bt) H H') (hp:iR (bP v)=true) (hl:o+sz≤vs.length) (he:bX vs o (bP v)=vs') (hk:K undef (cells b vs' bt::H')):Ld E n L H ⟨d,.store t x y,ty,pos,af,gd⟩ K:=by
 subst he;exact bL h hy ht hsz hm hp hl hk
def qRa {vs vs':List Value}{o i:Nat}{u:Value}(h:vs.set i u=vs')(ho:o=i):bX vs o [u]=vs':=by
 subst ho;exact h
end Sl
namespace Go.Proofs.YtejcjelmpbkcbaaGreatDoor
set_option maxRecDepth 10000
section
open Go Go.RowKit Sl Eg Pm
variable {E:Env}
--F23
structure SqG where
 i:Nat
 p:Option Addr
 c:Nat
def qHl (hE:Seat E){A:Ar}{T:Tre}{F:Ky→Option Nat}{b n mb m nn gi ci cl cw:Nat}{pl pw:Option Addr}{q:Option Nat}{ids:List Nat}{ws:List (Int×Int)}{wq:HP}(hat:At A T q)(hrep:Pm.Rep T F)(hF:F=ruW ids (lsFW ids m) ws)(hin:ids.length=nn)(hn1:1≤nn)(hm:m≤nn)(hm26:m≤26)(hqw:Rdb E.w0 pw (wpC ws) wq)(hws:ws.length≤12)(hz:∀w∈ws, -9223372036854775808≤w.2∧w.2≤9223372036854775807):
  Ct E 25 [uPt b,.slice pl m cl,.slice (some ⟨gi,0,none⟩) nn ci,.slice pw ws.length cw] [cells b [.int .i32 0,.int .u32 0,.int .i64 (n:Nat),pv q,.map (some mb)] 132,ar A,wq,sl (some ⟨gi,0,none⟩) ci 56 1 nn (idC ids),sl pl cl 105 2 m (nlC (lsW ids m))]
   (fun v Q=>v= .bool true∧Q=[cells b [.int .i32 0,.int .u32 0,.int .i64 (n:Nat),pv q,.map (some mb)] 132,ar A,wq,sl (some ⟨gi,0,none⟩) ci 56 1 nn (idC ids),sl pl cl 105 2 m (nlC (lsW ids m))]):=by
 refine eU (p:=sl pl cl 105 2 m (nlC (lsW ids m))) uK (fun _ h=>fun hpos=>fA h hpos) (fun hpl=>?_)
 have hok:Fok ids F:=by
  rw[hF];exact Fok.ru oO ws (Fok.ls oO hm26)
 have hio:=qWm hrep hok.dom;have hsz:=szW hrep hok;refine bO (hE.fn Tryz.func25) O O O (fun R=>?_);simp only[dX,uV,uW];refine gg7 ?_;refine uU (cZ (hE.t O) (fun b9=>?_));refine gg9 ?_;refine eQ (fun i:Nat=>[(0,uPt b),(1,.slice pl m cl),(2,.slice (some ⟨gi,0,none⟩) nn ci),(3,.slice pw ws.length cw),(9,uPt b9),(10,.int .i64 (i:Nat))]) (fun i=>[cells b [.int .i32 0,.int .u32 0,.int .i64 (n:Nat),pv q,.map (some mb)] 132,ar A,wq,sl (some ⟨gi,0,none⟩) ci 56 1 nn (idC ids),sl pl cl 105 2 m (nlC (lsW ids m)),cells b9 (List.replicate i (Value.int .i64 (-1))++List.replicate (26-i) (Value.int .i64 0)) 159,R]) (fun i=>26-i) (fun i=>i≤26) 0 (au _) ⟨O,O,O,O,O,O,trivial⟩ uI ?_;rintro i hi;refine gg7 ?_;refine bE O (fun h1=>?_) (fun h1=>?_)
 ·have hi26:i<26:=oO;have hfill:=now_fill hi26;refine gg7 ?_;refine uU ?_;apply xQ O O (hE.t O) O;focus((repeat constructor);done)
  focus rfl
  focus(show _+1≤_;(try simp only[mQ,aa,ng])<;>omega)
  focus exact qRa hfill oO
  refine gg8 ?_;refine bS (ι:=Nat) (j:=i+1) oO oO ⟨O,O,O,O,O,bf some (bW oO),trivial⟩ uI
 obtain rfl:i=26:=by omega
 have hz26:List.replicate 26 (Value.int .i64 (-1))++List.replicate (26-26) (Value.int .i64 0)=nowC (lsFW ids 0):=by
  rw[oW,List.replicate_zero,aj];exact now_none
 rw[hz26];clear hz26;refine gg12 ?_;refine eQ (fun i:Nat=>[(0,uPt b),(1,.slice pl m cl),(2,.slice (some ⟨gi,0,none⟩) nn ci),(3,.slice pw ws.length cw),(9,uPt b9),(11,.int .i64 (i:Nat))]) (fun i=>[cells b [.int .i32 0,.int .u32 0,.int .i64 (n:Nat),pv q,.map (some mb)] 132,ar A,wq,sl (some ⟨gi,0,none⟩) ci 56 1 nn (idC ids),sl pl cl 105 2 m (nlC (lsW ids m)),cells b9 (nowC (lsFW ids i)) 159,R]) (fun i=>m-i) (fun i=>i≤m) 0 (au _) ⟨O,O,O,O,O,O,trivial⟩ uI ?_;rintro i hi;refine gg9 ?_;refine bE O (fun h2=>?_) (fun h2=>?_)
 ·have him:i<m:=oO;obtain⟨gl,rfl⟩:=hpl oO;have hlat:(nmI (lsN ids m))[i]?=some (nmW i,((idW ids i:Nat):Int)):=by rw[lsN_I];exact qWy him
  have hlat2:(lsN ids m)[i]?=some (nmW i,idW ids i):=by unfold lsN;rw[bq,mh him];rfl
  obtain⟨f0,f1⟩:=qXh hlat2 (0+((i:Nat):Int).toNat*2) oO;rw[lsN_I]at f0 f1;have hset:(nowC (lsFW ids i)).set i (.int .i64 ((idW ids i:Nat):Int))=nowC (lsFW ids (i+1)):=qQk (lsFW ids i) (i:=i) (v:=idW ids i) oO;refine gg10 ?_;apply aA
  ·(first |(apply aO rfl (hE.t rfl) rfl;(repeat(first |rfl|assumption|constructor));done)|exact aY rfl (hE.t rfl) rfl (by assumption)|(apply bB rfl (hE.t rfl) rfl;(focus((repeat constructor);done));(focus assumption))|(apply bJ rfl (hE.t rfl) rfl (by assumption);(focus((repeat constructor);done));(first |((focus exact f0);(focus omega))|((focus exact f1);(focus omega))|((focus exact f2);(focus omega))|((focus exact f3);(focus omega))|((focus assumption);(focus omega)))))
  ·rfl
  refine gg1 ?_;refine uU ?_;apply xQ O O (hE.t O) O;focus((repeat constructor);done)
  focus rfl
  focus(show _+1≤_;(try simp only[mQ,aa,ng])<;>omega)
  focus exact qRa hset oO
  refine gg8 ?_;refine bS (ι:=Nat) (j:=i+1) oO oO ⟨O,O,O,O,O,bf some (bW oO),trivial⟩ uI
 obtain rfl:m=i:=by omega
 rw[←qQx ids (lsFW ids m) ws];refine gg12 ?_;refine eQ (fun k:Nat=>[(0,uPt b),(1,.slice pl m cl),(2,.slice (some ⟨gi,0,none⟩) nn ci),(3,.slice pw ws.length cw),(9,uPt b9),(12,.int .i64 (k:Nat))]) (fun k=>[cells b [.int .i32 0,.int .u32 0,.int .i64 (n:Nat),pv q,.map (some mb)] 132,ar A,wq,sl (some ⟨gi,0,none⟩) ci 56 1 nn (idC ids),sl pl cl 105 2 m (nlC (lsW ids m)),cells b9 (nowC (ruW ids (lsFW ids m) (ws.take k))) 159,R]) (fun k=>ws.length-k) (fun k=>k≤ws.length) 0 (au _) ⟨O,O,O,O,O,O,trivial⟩ uI ?_;rintro k hk;refine gg9 ?_;refine bE O (fun h3=>?_) (fun h3=>?_)
 ·have hkl:k<ws.length:=oO;obtain⟨⟨z1,z2⟩,hzk⟩:∃p,ws[k]?=some p:=⟨_,ag hkl⟩;obtain⟨gw,ow,rfl,hqw'⟩:=hqw (wpC_ne oO);obtain⟨f0,f1⟩:=qZr hzk (((k:Nat):Int).toNat*2) oO;have hzz:=hz _ (ay hzk);simp only at hzz f0 f1;have hst:=qQw (ids:=ids) (F:=lsFW ids m) hzk;have hp26:=qXr z1;refine gg10 ?_;apply aA
  ·(first |(apply aO rfl (hE.t rfl) rfl;(repeat(first |rfl|assumption|constructor));done)|exact aY rfl (hE.t rfl) rfl (by assumption)|(apply bB rfl (hE.t rfl) rfl;(focus((repeat constructor);done));(focus assumption))|(apply bJ rfl (hE.t rfl) rfl (by assumption);(focus((repeat constructor);done));(first |((focus exact f0);(focus omega))|((focus exact f1);(focus omega))|((focus exact f2);(focus omega))|((focus exact f3);(focus omega))|((focus assumption);(focus omega)))))
  ·rfl
  refine uX (mU (k:=z1) (n:=26) hE oO oO) O ?_;rintro _ _⟨rfl,rfl⟩;simp only[uV,uW];refine gg9 ?_;apply aA
  ·(first |(apply aO rfl (hE.t rfl) rfl;(repeat(first |rfl|assumption|constructor));done)|exact aY rfl (hE.t rfl) rfl (by assumption)|(apply bB rfl (hE.t rfl) rfl;(focus((repeat constructor);done));(focus assumption))|(apply bJ rfl (hE.t rfl) rfl (by assumption);(focus((repeat constructor);done));(first |((focus exact f0);(focus omega))|((focus exact f1);(focus omega))|((focus exact f2);(focus omega))|((focus exact f3);(focus omega))|((focus assumption);(focus omega)))))
  ·rfl
  refine gg3 ?_;refine bE O (fun h4=>?_) (fun h4=>?_)
  ·have hset:(nowC (ruW ids (lsFW ids m) (ws.take k))).set (pick z1 26) (.int .i64 (-1))=nowC (ruW ids (lsFW ids m) (ws.take (k+1))):=by
    rw[qXk _ hp26,hst];unfold stW;rw[if_pos (show z2<0 by omega)]
   refine gg3 ?_;refine uU ?_;apply xQ O O (hE.t O) O;focus((repeat constructor);done)
   focus rfl
   focus(show _+1≤_;(try simp only[mQ,aa,ng])<;>omega)
   focus exact qRa hset oO
   refine gg8 ?_;refine bS (ι:=Nat) (j:=k+1) oO oO ⟨O,O,O,O,O,bf some (bW oO),trivial⟩ uI
  obtain⟨w,rfl⟩:∃w:Nat,z2=(w:Nat):=⟨z2.toNat,oO⟩;have hmod:w%nn<nn:=pm _ oO;obtain⟨id,hid⟩:∃x,ids[w%nn]?=some x:=⟨_,ag oO⟩;have hidw:=qAg hid;have f2:=gL hid ((((w:Nat):Int)%((nn:Nat):Int)).toNat) (by rw[←wm];omega)
  have hset:(nowC (ruW ids (lsFW ids m) (ws.take k))).set (pick z1 26) (.int .i64 ((id:Nat):Int))=nowC (ruW ids (lsFW ids m) (ws.take (k+1))):=by
   rw[qQk _ hp26,hst];unfold stW;rw[if_neg (by omega:¬((w:Nat):Int)<0),←hidw,←hin];rfl
  refine gg7 ?_;apply aA
  ·(first |(apply aO rfl (hE.t rfl) rfl;(repeat(first |rfl|assumption|constructor));done)|exact aY rfl (hE.t rfl) rfl (by assumption)|(apply bB rfl (hE.t rfl) rfl;(focus((repeat constructor);done));(focus assumption))|(apply bJ rfl (hE.t rfl) rfl (by assumption);(focus((repeat constructor);done));(first |((focus exact f0);(focus omega))|((focus exact f1);(focus omega))|((focus exact f2);(focus omega))|((focus exact f3);(focus omega))|((focus assumption);(focus omega)))))
  ·rfl
  refine gg4 ?_;apply aA
  ·(first |(apply aO rfl (hE.t rfl) rfl;(repeat(first |rfl|assumption|constructor));done)|exact aY rfl (hE.t rfl) rfl (by assumption)|(apply bB rfl (hE.t rfl) rfl;(focus((repeat constructor);done));(focus assumption))|(apply bJ rfl (hE.t rfl) rfl (by assumption);(focus((repeat constructor);done));(first |((focus exact f0);(focus omega))|((focus exact f1);(focus omega))|((focus exact f2);(focus omega))|((focus exact f3);(focus omega))|((focus assumption);(focus omega)))))
  ·rfl
  refine gg1 ?_;refine uU ?_;apply xQ O O (hE.t O) O;focus((repeat constructor);done)
  focus rfl
  focus(show _+1≤_;(try simp only[mQ,aa,ng])<;>omega)
  focus exact qRa hset oO
  refine gg8 ?_;refine bS (ι:=Nat) (j:=k+1) oO oO ⟨O,O,O,O,O,bf some (bW oO),trivial⟩ uI
 obtain rfl:k=ws.length:=by omega
 rw[qa,←hF];refine gg17 ?_;refine iY (gU (t:=105) (sz:=2)) ?_;refine eQ (fun x:SqG=>[(0,uPt b),(9,uPt b9),(14,.slice x.p (nmI (seL F x.i)).length x.c),(15,.int .i64 (x.i:Nat))]) (fun x=>[cells b [.int .i32 0,.int .u32 0,.int .i64 (n:Nat),pv q,.map (some mb)] 132,ar A,wq,sl (some ⟨gi,0,none⟩) ci 56 1 nn (idC ids),sl pl cl 105 2 m (nlC (lsW ids m)),cells b9 (nowC F) 159,sl x.p x.c 105 2 (nmI (seL F x.i)).length (nlC (nmI (seL F x.i))),R]) (fun x=>26-x.i) (fun x=>x.i≤26) ⟨0,none,0⟩ (au _) ⟨O,O,O,O,trivial⟩ uI ?_;rintro⟨j,p',c'⟩hj;simp only at hj ⊢;refine gg7 ?_;refine bE O (fun h5=>?_) (fun h5=>?_)
 ·have hj26:j<26:=oO;have hsl:=zM F j;have hnl:=jO (seL F j);have f0:=qDm F hj26;cases hw:F (nmW j)with
  |none=>
   rw[hw]at f0
   have hse:seL F (j+1)=seL F j:=by rw[rZ,hw];simp
   have f1:(nowC F)[0+((j:Nat):Int).toNat*1]?=some (.int .i64 (-1)):=by rw[show 0+((j:Nat):Int).toNat*1=j by omega];exact f0
   refine gg8 ?_
   apply aA
   ·(first |(apply aO rfl (hE.t rfl) rfl;(repeat(first |rfl|assumption|constructor));done)|exact aY rfl (hE.t rfl) rfl (by assumption)|(apply bB rfl (hE.t rfl) rfl;(focus((repeat constructor);done));(focus assumption))|(apply bJ rfl (hE.t rfl) rfl (by assumption);(focus((repeat constructor);done));(first |((focus exact f0);(focus omega))|((focus exact f1);(focus omega))|((focus exact f2);(focus omega))|((focus exact f3);(focus omega))|((focus assumption);(focus omega)))))
   ·rfl
   refine gg12 ?_
   refine bS (ι:=SqG) (j:=⟨j+1,p',c'⟩) (by simp only;omega) (by simp only;omega) ⟨O,O,by rw[hse];rfl,bf some (bW (by simp only;omega)),trivial⟩ (by
    simp only;rw[hse];(apply ent;(repeat constructor);done))
  |some w=>
   rw[hw]at f0
   have hse:nlC (nmI (seL F (j+1)))=nlC (nmI (seL F j))++[.string ⟨⟨nmW j⟩⟩,.int .i64 (w:Nat)]:=by
    rw[rZ,hw];unfold nmI;rw[fw,qW];rfl
   have hsn:(nmI (seL F (j+1))).length=(nmI (seL F j)).length+1:=by rw[jO,jO,rZ,hw,aa];rfl
   have f1:(nowC F)[0+((j:Nat):Int).toNat*1]?=some (.int .i64 (w:Nat)):=by rw[show 0+((j:Nat):Int).toNat*1=j by omega];exact f0
   refine gg8 ?_
   apply aA
   ·(first |(apply aO rfl (hE.t rfl) rfl;(repeat(first |rfl|assumption|constructor));done)|exact aY rfl (hE.t rfl) rfl (by assumption)|(apply bB rfl (hE.t rfl) rfl;(focus((repeat constructor);done));(focus assumption))|(apply bJ rfl (hE.t rfl) rfl (by assumption);(focus((repeat constructor);done));(first |((focus exact f0);(focus omega))|((focus exact f1);(focus omega))|((focus exact f2);(focus omega))|((focus exact f3);(focus omega))|((focus assumption);(focus omega)))))
   ·rfl
   refine gg4 ?_
   refine uH ([cells b9 (nowC F) 159]) ?_
   refine gg2 ?_
   refine uD 3 O (aB O) ?_
   refine gg1 ?_
   apply bG 5 O
   ·(first |(apply aO rfl (hE.t rfl) rfl;(repeat(first |rfl|assumption|constructor));done)|exact aY rfl (hE.t rfl) rfl (by assumption)|(apply bB rfl (hE.t rfl) rfl;(focus((repeat constructor);done));(focus assumption))|(apply bJ rfl (hE.t rfl) rfl (by assumption);(focus((repeat constructor);done));(first |((focus exact f0);(focus omega))|((focus exact f1);(focus omega))|((focus exact f2);(focus omega))|((focus exact f3);(focus omega))|((focus assumption);(focus omega)))))
   ·with_reducible (repeat(first |exact aF|apply aG|apply aH))
   ·kernel_rfl
   ·rfl
   apply dH 2 O oK O
   refine uC (xB hE hj26) O ?_
   rintro _ _⟨rfl,rfl⟩
   simp only[uV,uW]
   refine uE ?_
   refine uD 6 O (gY) ?_
   apply dH 7 O oK O
   refine aU (hE.t O) (hE.t O) O O O (fun b85=>?_)
   refine uE ?_
   apply dH 8 O oK O
   apply bU (hE.t O) (hE.t O) O O O
   ·exact uK
   ·exact uK
   ·rfl
   ·rfl
   ·omega
   ·omega
   ·(unfold maxLen;omega)
   intro g86 c86 n86 x86 hn86 hx86
   refine uE ?_
   refine gg9 ?_
   obtain rfl:n86=(nmI (seL F (j+1))).length:=by rw[hn86,hsn]
   obtain rfl:x86=nlC (nmI (seL F (j+1))):=by rw[hx86,hse];rfl
   refine bS (ι:=SqG) (j:=⟨j+1,some ⟨g86,0,none⟩,c86⟩) (by simp only;omega) (by simp only;omega) ⟨O,O,O,bf some (bW (by simp only;omega)),trivial⟩ (by
    simp only;(apply ent;(repeat constructor);done))
 obtain rfl:j=26:=by omega
 refine gg8 ?_;refine uX (qPq hE hat oO) O ?_;rintro _ _⟨pg,cg,rfl,rfl⟩;rw[hio,←jO (seL F 26)];obtain⟨S,hS⟩:∃S,seL F 26=S:=⟨_,rfl⟩;have hsl:=zM F 26;have hnl:=jO (seL F 26);rw[hS]at hsl hnl ⊢;simp only[uV,uW];refine gg13 ?_;refine w_eq 93 (.bool false) O (by simp) ?_;refine gg1 ?_;refine jG (p:=sl p' c' 105 2 (nmI S).length (nlC (nmI S))) uK (fun _ h=>fun hpos=>fA h hpos) ?_;intro hp1;refine jG (p:=sl pg cg 105 2 (nmI S).length (nlC (nmI S))) uK (fun _ h=>fun hpos=>fA h hpos) ?_;intro hp2;refine gg9 ?_;refine eQ (fun k:Nat=>[(14,.slice p' (nmI S).length c'),(16,.slice pg (nmI S).length cg),(17,.int .i64 (k:Nat))]) (fun k=>[cells b [.int .i32 0,.int .u32 0,.int .i64 (n:Nat),pv q,.map (some mb)] 132,ar A,wq,sl (some ⟨gi,0,none⟩) ci 56 1 nn (idC ids),sl pl cl 105 2 m (nlC (lsW ids m)),sl p' c' 105 2 (nmI S).length (nlC (nmI S)),sl pg cg 105 2 (nmI S).length (nlC (nmI S)),R]) (fun k=>(nmI S).length-k) (fun k=>k≤(nmI S).length) 0 (au _) ⟨O,O,O,trivial⟩ uI ?_;rintro k hk;refine gg9 ?_;refine bE O (fun h6=>?_) (fun h6=>?_)
 ·have hkl:k<S.length:=oO;obtain⟨⟨x,w⟩,hxw⟩:∃p,S[k]?=some p:=⟨_,ag hkl⟩;obtain⟨f0,f1⟩:=qXh hxw (0+((k:Nat):Int).toNat*2) oO;obtain⟨g1,rfl⟩:=hp1 oO;obtain⟨g2,rfl⟩:=hp2 oO;refine gg9 ?_;apply aA
  ·(first |(apply bV rfl (hE.t rfl) rfl;(repeat(first |rfl|assumption|constructor));done)|(apply y_load_agg_old rfl (hE.t rfl) rfl;assumption))
  ·rfl
  refine gg3 ?_;apply aA
  ·(first |(apply bV rfl (hE.t rfl) rfl;(repeat(first |rfl|assumption|constructor));done)|(apply y_load_agg_old rfl (hE.t rfl) rfl;assumption))
  ·rfl
  refine uB (y_ne_nm hE (p:=(x,w)) O O) ?_;refine gg11 ?_;refine bS (ι:=Nat) (j:=k+1) oO oO ⟨O,O,bf some (bW oO),trivial⟩ uI
 refine gg11 ?_;exact uZ O (.tmp O .nil) ⟨O,O⟩
end
section
open Go Go.RowKit Sl Eg Pm
variable {E:Env}
structure LsQ where
 i:Nat
 p:Option Addr
 c:Nat
def qSd (hE:Seat E){ids:List Nat}{gi cq m:Nat}{q:HP}(hq:∀k,q k→RdAt E.w0 gi 0 (idC ids) k) (hm:m≤ids.length):Ct E 11 [.slice (some ⟨gi,0,none⟩) m cq] [q]
  (fun v Q=>∃p c,v= .slice p (lsW ids (min m 26)).length c∧Q=[q,sl p c 105 2 (lsW ids (min m 26)).length (nlC (lsW ids (min m 26)))]):=by
 refine bO (hE.fn Tryz.func11) O O O (fun R=>?_);simp only[dX,uV,uW];refine gg17 ?_;refine iY (gU (t:=105) (sz:=2)) ?_;refine eQ (fun x:LsQ=>[(0,.slice (some ⟨gi,0,none⟩) m cq),(3,.slice x.p (lsW ids x.i).length x.c),(4,.int .i64 (x.i:Nat))]) (fun x=>[q,sl x.p x.c 105 2 (lsW ids x.i).length (nlC (lsW ids x.i)),R]) (fun x=>26-x.i) (fun x=>x.i≤m∧x.i≤26) ⟨0,none,0⟩ ⟨au _,au _⟩ ⟨O,O,O,trivial⟩ uI ?_;rintro⟨i,p,c⟩⟨hi,hi2⟩;simp only at hi hi2 ⊢;have hll:=qDg ids i;refine gg8 ?_;refine eF 9 O (fun h1=>?_) (fun h1=>?_)
 ·refine gg7 ?_;refine bE O (fun h2=>?_) (fun h2=>?_)
  ·obtain⟨id,hid⟩:∃x,ids[i]?=some x:=⟨_,ag oO⟩;have hidw:=qAg hid;have f0:=gL hid (0+((i:Nat):Int).toNat) oO;have f1:=gL hid (((i:Nat):Int).toNat) oO;refine gg4 ?_;refine uH ([q]) ?_;refine gg2 ?_;refine uD 3 O (aB O) ?_;refine gg3 ?_;apply dH 2 O oK O;refine uC (xB hE oO) O ?_;rintro _ _⟨rfl,rfl⟩;simp only[uV,uW];refine uE ?_;refine uD 7 O (gY) ?_;apply dH 8 O oK O;refine aU (hE.t O) (hE.t O) O O O (fun b23=>?_);refine uE ?_;apply dH 9 O oK O;apply bU (hE.t O) (hE.t O) O O O
   ·exact uK
   ·exact uK
   ·rfl
   ·rfl
   ·omega
   ·omega
   ·(unfold maxLen;omega)
   intro g24 c24 n24 x24 hn24 hx24;refine uE ?_;refine gg9 ?_
   have e1:nlC (lsW ids (i+1))=nlC (lsW ids i)++[.string ⟨⟨nmW i⟩⟩,.int .i64 ((id:Nat):Int)]:=by
    rw[lsW_snoc,qW,hidw];rfl
   obtain rfl:n24=(lsW ids (i+1)).length:=by have:=qDg ids (i+1);omega
   obtain rfl:x24=nlC (lsW ids (i+1)):=by rw[hx24,e1];rfl
   refine bS (ι:=LsQ) (j:=⟨i+1,some ⟨g24,0,none⟩,c24⟩) ⟨by simp only;omega,by simp only;omega⟩ (by simp only;omega) ⟨rfl,rfl,bf some (bW (by simp only;omega)),trivial⟩ uI
  have e:i=min m 26:=oO;rw[e];refine gg12 ?_;exact uZ O (.tmp O .nil) ⟨p,c,O,O⟩
 have e:i=min m 26:=oO;rw[e];refine gg18 ?_;exact uZ O (.tmp O .nil) ⟨p,c,O,O⟩
structure Rdr where
 t:Nat
 mr:Nat
 mc:Nat
 n:Nat
 q:Option Nat
 T:Tre
 F:Ky→Option Nat
 g:Nat
 d:Nat
 B:List UInt8
def rdH (b:Nat)(r:Rdr):HP:=fun h=>dU [cells r.t [uPt b,.int .i64 (r.n:Nat),pv r.q,.map (some r.mr),.map (some r.mc),.bool false] 156,fJ r.mr (fun _=>none),fJ r.mc (fun _=>none),sl (some ⟨r.g,0,none⟩) r.d 5 1 r.B.length (byC r.B)] h
def rdH_pull {b:Nat}{r:Rdr}{l:List Rdr}:∀k,dU ((r::l).map (rdH b)) k→dU [cells r.t [uPt b,.int .i64 (r.n:Nat),pv r.q,.map (some r.mr),.map (some r.mc),.bool false] 156,fJ r.mr (fun _=>none),fJ r.mc (fun _=>none),sl (some ⟨r.g,0,none⟩) r.d 5 1 r.B.length (byC r.B),dU (l.map (rdH b))] k:=fun k h=>kD (l:=[cells r.t [uPt b,.int .i64 (r.n:Nat),pv r.q,.map (some r.mr),.map (some r.mc),.bool false] 156,fJ r.mr (fun _=>none),fJ r.mc (fun _=>none),sl (some ⟨r.g,0,none⟩) r.d 5 1 r.B.length (byC r.B)]) (kE (ps:=[cells r.t [uPt b,.int .i64 (r.n:Nat),pv r.q,.map (some r.mr),.map (some r.mc),.bool false] 156,fJ r.mr (fun _=>none),fJ r.mc (fun _=>none),sl (some ⟨r.g,0,none⟩) r.d 5 1 r.B.length (byC r.B)]) (p:=rdH b r) (fun _ h=>h) h)
def qIi {b:Nat}{r:Rdr}{l:List Rdr}:∀k,dU [dU (l.map (rdH b)),rdH b r] k→dU ((l++[r]).map (rdH b)) k:=fun k h=>by
 obtain⟨h1,h2,d,e,hl,hx⟩:=h;rw[fw,e];exact lK hl hx d
def rpC (rs:List Rdr):List Value:=rs.map fun r=> .pointer (some ⟨r.t,0,none⟩)
def fsC (rs:List Rdr):List Value:=rs.map fun r=> .slice (some ⟨r.g,0,none⟩) r.B.length r.d
def qIs (rs:List Rdr)(r:Rdr):rpC (rs++[r])=rpC rs++[.pointer (some ⟨r.t,0,none⟩)]:=by
 unfold rpC;rw[fw];rfl
def qHp (rs:List Rdr)(r:Rdr):fsC (rs++[r])=fsC rs++[.slice (some ⟨r.g,0,none⟩) r.B.length r.d]:=by
 unfold fsC;rw[fw];rfl
def rpC_at {rs:List Rdr}{i:Nat}{r:Rdr}(h:rs[i]?=some r)(o:Nat)(ho:o=i):(rpC rs)[o]?=some (.pointer (some ⟨r.t,0,none⟩)):=by
 subst ho;unfold rpC;rw[bq,h];rfl
def fsC_at {rs:List Rdr}{i:Nat}{r:Rdr}(h:rs[i]?=some r)(o:Nat)(ho:o=i):(fsC rs)[o]?=some (.slice (some ⟨r.g,0,none⟩) r.B.length r.d):=by
 subst ho;unfold fsC;rw[bq,h];rfl
structure RdOk (ids:List Nat)(tf:Nat→List UInt8)(A:Ar)(r:Rdr):Prop where
 at_:At A r.T r.q
 rep:Pm.Rep r.T r.F
 ok:Fok ids r.F
 en:EncP ((seL r.F 26).map fun z=>(z.1,tf z.2)) r.B
def RdOk.more {ids:List Nat}{tf:Nat→List UInt8}{A:Ar}{r:Rdr}(h:RdOk ids tf A r)(B:Ar):RdOk ids tf (A++B) r:=⟨h.at_.more B,h.rep,h.ok,h.en⟩
def nms_snoc (i:Nat):nmC ((List.range (i+1)).map nmW)=nmC ((List.range i).map nmW)++[.string ⟨⟨nmW i⟩⟩]:=by
 unfold nmC;rw[wy,fw,fw];rfl
end
section
open Go Go.RowKit Sl Eg Pm
variable {E:Env}
--F23
def pu_le {L:Ky→Option Nat}{n:Nat}{k:Ky}(h:∀key u,L key=some u→u≤n):∀key u,pu L k (n+1) key=some u→u≤n+1:=fun key u e=>by
 unfold pu at e;split at e
 ·cases e
  exact ai _
 exact Nat.le_succ_of_le (h key u e)
def qIk {P:Rdr→Prop}{rs:List Rdr}{r:Rdr}(h:∀x∈rs,P x) (hr:P r):∀x∈rs++[r],P x:=fun x hx=>by
 rcases bn.1 hx with h1|h1
 ·exact h x h1
 rw[bg.1 h1];exact hr
structure NmH where
 i:Nat
 p:Option Addr
 c:Nat
structure WsG where
 k:Nat
 N:List Ent
 f:Int→Option Value
 A:Ar
 T:Tre
 v:Nat
 q:Option Nat
 L:Ky→Option Nat
 rs:List Rdr
 p1:Option Addr
 c1:Nat
 p2:Option Addr
 c2:Nat
structure RsG where
 k:Nat
 N:List Ent
 f:Int→Option Value
def wX (hE:Seat E)(hB:Base E.w0){l:List TMk}{a pw:Option Addr}{c cw:Nat}{ws:List (Int×Int)}{wq:HP}(hq:Rdb E.w0 a (mkVs l) wq)(hl:l.length≤9223372036854775807)(hx:∀x∈l,x.ok)
  (hqw:Rdb E.w0 pw (wpC ws) wq) (hwl:ws.length≤9223372036854775807) (hz:∀w∈ws, -9223372036854775808≤w.2∧w.2≤9223372036854775807):
  Ct E 3 [.slice a l.length c,.slice pw ws.length cw] [wq] (fun v Q=>v= .bool true∧Q=[wq]):=by
 refine bO (hE.fn Tryz.func3) O O O (fun R=>?_);simp only[dX,uV,uW];refine gg8 ?_;refine uX (qVj hE) O ?_;rintro _ _⟨rfl,rfl⟩;simp only[uV,uW];refine gg3 ?_;refine uX (qRz hE hB) O ?_;rintro _ _⟨rfl,rfl⟩;simp only[uV,uW];refine gg5 ?_;refine uX (ct_boxes hE) O ?_;rintro _ _⟨rfl,rfl⟩;simp only[uV,uW];refine gg11 ?_;refine uX (qPj hE hq hl hx) O ?_;rintro _ _⟨s,M,ids,p1,p2,ci,k2,rfl,hM,hbes,rfl⟩
 have hn30:(plns [] (l.take 30)).length≤30:=by
  have:=qBd (l.take 30) [];rw[jv,di]at this;omega
 have hsh:∀t∈plns [] (l.take 30),t.length≤400:=vM _ _ (fun t h=>by cases h);generalize plns [] (l.take 30)=ts at*;obtain⟨n,hn⟩:∃n,ts.length=n:=⟨_,rfl⟩;rw[hn]at hn30 ⊢;have hil:ids.length=n:=by rw[hbes.1,hn]
 simp only[uV,uW];refine sZ (p:=bR s 1048576 M) uK (fun _ h=>(dS h).1) (fun hw=>?_);refine gg25 ?_;refine eF 54 O (fun h0=>?_) (fun h0=>?_)
 ·refine gg15 ?_;exact uZ O (.tmp O .nil) ⟨O,O⟩
 refine gg9 ?_;refine bE O (fun h6=>?_) (fun h6=>?_)
 ·refine gg8 ?_;exact uZ O (.tmp O .nil) ⟨O,O⟩
 have hn1:1≤n:=by
  rcases jr n with e| e
  ·exact absurd (by subst e;rfl) h0
  exact e
 have hw12:ws.length≤12:=oO;clear h0 h6;refine jG (p:=sl p1 ci 56 1 n (idC ids)) uK (fun _ h=>(⟨fun hpos=>fA h hpos,(pM h).1⟩:(0<n→∃g,p1=some ⟨g,0,none⟩)∧n≤ci)) ?_;rintro⟨hp1,hnc⟩;obtain⟨gi,rfl⟩:=hp1 oO;clear hp1;obtain⟨m,hm⟩:∃m,(n+1)/2=m:=⟨_,rfl⟩;have hmn:m≤n:=oO;have hm26:m≤26:=oO;have hLl:=bQ M;obtain⟨tf,htf⟩:∃tf:Nat→List UInt8,tf=fun u=>txt (rls M) u:=⟨_,rfl⟩
 have hbe:∀u∈ids,Be (rls M) u (tf u):=fun u hu=>by
  obtain⟨i,hi⟩:=kg hu;obtain⟨t,ht⟩:∃t,ts[i]?=some t:=⟨_,ag (by have:=(ae.1 hi).1;omega)⟩;have hb:=hbes.2 i u t hi ht;exact⟨hb.ev,by rw[htf]⟩
 have hU:∀u∈ids,Ev (rls M) u∧len (rls M) u≤400:=fun u hu=>by
  obtain⟨i,hi⟩:=kg hu;obtain⟨t,ht⟩:∃t,ts[i]?=some t:=⟨_,ag (by have:=(ae.1 hi).1;omega)⟩;have hb:=hbes.2 i u t hi ht;exact⟨hb.ev,by unfold len;rw[hb.tx];exact hsh t (ay ht)⟩
 have hM0:MemS ids M (fun _=>none):=MemS.start hw hU (by rw[hil];omega);have hidn:∀u∈ids,u≤M.length:=fun u hu=>(hbe u hu).le
 clear hbes hsh hw hU;refine gg5 ?_;refine uX (qFo hE) O ?_;rintro _ _⟨pp,tb,rfl,rfl⟩;simp only[uV,uW];refine uX (qKh hE) O ?_;rintro _ _⟨mm,bm,rfl,rfl⟩;simp only[uV,uW];refine gg10 ?_;refine uB (fU m O O (hE.t O) oO oO) ?_;refine uX (qSd (q:=sl (some ⟨gi,0,none⟩) ci 56 1 n (idC ids)) hE (rd_slzG (fun _ _ h=>h)) oO) O ?_;rintro _ _⟨pl,cl,rfl,rfl⟩;rw[show min m 26=m by omega,qDg];simp only[uV,uW];refine gg15 ?_;refine iY (gU (t:=9) (sz:=1)) ?_;refine eQ (fun x:NmH=>[(1,.slice pw ws.length cw),(6,.slice (some ⟨gi,0,none⟩) n ci),(9,uPt mm),(10,.slice pl m cl),(11,.slice x.p x.i x.c),(12,.int .i64 (x.i:Nat))]) (fun x=>[cells pp [uPt s,uPt tb] 117,tabP tb s (rls M),bR s 1048576 M,cells mm [uPt pp,.map (some bm)] 113,mapF bm .i64 (fun _=>none),wq,sl (some ⟨gi,0,none⟩) ci 56 1 n (idC ids),sl pl cl 105 2 m (nlC (lsW ids m)),sl x.p x.c 9 1 x.i (nmC ((List.range x.i).map nmW)),R]) (fun x=>26-x.i) (fun x=>x.i≤26) ⟨0,none,0⟩ (au _) ⟨O,O,O,O,O,O,trivial⟩ uI ?_;rintro⟨i,pn,cn⟩hi;simp only at hi ⊢;refine gg7 ?_;refine bE O (fun h1=>?_) (fun h1=>?_)
 ·have hi26:i<26:=oO;refine gg7 ?_;refine uX (xB hE hi26) O ?_;rintro _ _⟨rfl,rfl⟩;simp only[uV,uW];refine uU ?_;refine aU (hE.t O) (hE.t O) O O O (fun b77=>?_);refine uU ?_;apply bU (hE.t O) (hE.t O) O O O
  ·exact uK
  ·exact uK
  ·rfl
  ·rfl
  ·omega
  ·omega
  ·(unfold maxLen;omega)
  intro g78 c78 n78 x78 hn78 hx78;refine gg9 ?_;obtain rfl:n78=i+1:=hn78;obtain rfl:x78=nmC ((List.range (i+1)).map nmW):=by rw[hx78,nms_snoc];rfl
  refine bS (ι:=NmH) (j:=⟨i+1,some ⟨g78,0,none⟩,c78⟩) (by simp only;omega) (by simp only;omega) ⟨O,O,O,O,O,bf some (bW (by simp only;omega)),trivial⟩ uI
 obtain rfl:i=26:=by omega
 refine jG (p:=sl pn cn 9 1 26 (nmC ((List.range 26).map nmW))) uK (fun _ h=>fA h oO) ?_;rintro⟨gn,rfl⟩;refine gg8 ?_;have hnI:=lsN_I ids m;have hnl:=lsN_len ids m;have hnew:=qVe (E:=E) (l:=lsN ids m) (a:=pl) (c:=cl) hE oO (qWx hm26) (qLk ids hm26);rw[hnI,hnl]at hnew;refine uX (hnew) O ?_;rintro _ _⟨b,mb,A0,q0,rfl,hat0,rfl⟩;rw[vs0];have hrep0:=qWw ids m;obtain⟨T0,hT0⟩:∃T0,mkT (lsN ids m)=T0:=⟨_,rfl⟩;rw[hT0]at hat0 hrep0;clear hT0;simp only[uV,uW];refine gg34 ?_;refine iY (gU (t:=48) (sz:=1)) ?_;refine iY (gU (t:=44) (sz:=1)) ?_;refine iY qTm ?_;have hls0:Fok ids (lsFW ids m):=Fok.ls oO hm26
 refine eQ (fun x:WsG=>[(1,.slice pw ws.length cw),(6,.slice (some ⟨gi,0,none⟩) n ci),(9,uPt mm),(10,.slice pl m cl),(11,.slice (some ⟨gn,0,none⟩) 26 cn),(13,uPt b),(15,.slice x.p1 x.rs.length x.c1),(16,.slice x.p2 x.rs.length x.c2),(17,.int .i64 (x.k:Nat))])
  (fun x=>[cells pp [uPt s,uPt tb] 117,tabP tb s (rls (M++x.N)),bR s 1048576 (M++x.N),cells mm [uPt pp,.map (some bm)] 113,mapF bm .i64 x.f,wq,sl (some ⟨gi,0,none⟩) ci 56 1 n (idC ids),sl pl cl 105 2 m (nlC (lsW ids m)),sl (some ⟨gn,0,none⟩) cn 9 1 26 (nmC ((List.range 26).map nmW)),cells b [.int .i32 0,.int .u32 0,.int .i64 (x.v:Nat),pv x.q,.map (some mb)] 132,fJ mb (vsF x.L),ar x.A,sl x.p1 x.c1 48 1 x.rs.length (rpC x.rs),sl x.p2 x.c2 44 1 x.rs.length (fsC x.rs),dU (x.rs.map (rdH b)),R])
  (fun x=>ws.length-x.k)
  (fun x=>x.k≤ws.length∧At x.A x.T x.q∧Pm.Rep x.T (ruW ids (lsFW ids m) (ws.take x.k))∧x.v≤x.k∧(∀key u,x.L key=some u→u≤x.v)∧MemS ids (M++x.N) x.f∧x.rs.length=x.k∧∀r∈x.rs,RdOk ids tf x.A r)
  ⟨0,[],fun _=>none,A0,T0,0,q0,fun _=>none,[],none,0,none,0⟩
  ⟨au _,hat0,by rw[qQx];exact hrep0,ai _,fun _ _ h=>(by cases h),by rw[aj];exact hM0,rfl,fun _ h=>(by cases h)⟩
  ⟨rfl,rfl,rfl,rfl,rfl,rfl,rfl,rfl,rfl,trivial⟩ (by
   simp only[aj];(apply ent;(repeat constructor);done)) ?_
 rintro⟨k,N,f,A,T,v,q,Lv,rs,p3,c3,p4,c4⟩⟨hk,hat,hrep,hvk,hLv,hMS,hrl,hrs⟩;simp only at hk hat hrep hvk hLv hMS hrl hrs ⊢;obtain⟨F,hF⟩:∃F,ruW ids (lsFW ids m) (ws.take k)=F:=⟨_,rfl⟩;rw[hF]at hrep;have hok:Fok ids F:=by rw[←hF];exact Fok.ru oO _ hls0
 have hio:=qWm hrep hok.dom;have hsz:=szW hrep hok;refine gg9 ?_;refine bE O (fun h2=>?_) (fun h2=>?_)
 ·have hkl:k<ws.length:=oO;obtain⟨⟨z1,z2⟩,hzk⟩:∃p,ws[k]?=some p:=⟨_,ag hkl⟩;obtain⟨gw,ow,rfl,hqw'⟩:=hqw (wpC_ne oO);obtain⟨f0,f1⟩:=qZr hzk (((k:Nat):Int).toNat*2) oO;have hzz:=hz _ (ay hzk);simp only at hzz f0 f1;have hst:=qQw (ids:=ids) (F:=lsFW ids m) hzk;rw[hF]at hst;have hp26:=qXr z1;obtain⟨nm,hnm⟩:∃nm,nmW (pick z1 26)=nm:=⟨_,rfl⟩
  obtain⟨hv1,hv2⟩:1≤nm.length∧nm.length≤32:=by
   have:=xV ⟨pick z1 26,hp26⟩;rw[←hnm];exact⟨this.1,this.2.1⟩
  refine gg8 ?_;refine uX (qPq hE hat oO) O ?_;rintro _ _⟨pg,cg,rfl,rfl⟩;rw[hio,←jO (seL F 26)];simp only[uV,uW];have hMl:(M++N).length=M.length+N.length:=aa;have hsok:SgO (M++N).length (nmI (seL F 26)):=seL_ok hok (fun u hu=>by have:=hidn u hu;omega);have hsU:∀z∈seL F 26,z.2∈ids:=fun z hz=>(hok z.1 z.2 (qDz.1 hz).choose_spec.2.2).2
  have hsbe:∀z∈seL F 26,Be (rls (M++N)) z.2 (tf z.2):=fun z hz=>(hbe z.2 (hsU z hz)).more N
  refine uX (qFh (U:=ids) (tf:=tf) (A:=seL F 26) (p:=pg) (c:=cg) (Es:=M++N) (s:=s) (pp:=pp) (tb:=tb) (m:=mm) (bm:=bm) (f:=f) hE hB hMS (zM F 26) hsok hsU hsbe) O ?_;rintro _ _⟨N2,fB,gB,dB,B,rfl,hEP,hM3,rfl⟩;rw[ah]at hM3;simp only[uV,uW];refine gg21 ?_;refine uX (xA hE) O ?_;rintro _ _⟨t1,mr1,mc1,rfl,rfl⟩;simp only[uV,uW];obtain⟨r,hr⟩:∃r:Rdr,r=⟨t1,mr1,mc1,v,q,T,F,gB,dB,B⟩:=⟨_,rfl⟩;have hRd:RdOk ids tf A r:=by rw[hr];exact⟨hat,hrep,hok,hEP⟩
  refine qAh (pW (ps:=[cells t1 [uPt b,.int .i64 (v:Nat),pv q,.map (some mr1),.map (some mc1),.bool false] 156,fJ mr1 (fun _=>none),fJ mc1 (fun _=>none),sl (some ⟨gB,0,none⟩) dB 5 1 B.length (byC B)]) (p:=rdH b r) uK (fun _ h=>by rw[hr];exact h)) ?_;refine uU ?_;refine aU (hE.t O) (hE.t O) O O O (fun b104=>?_);refine uU ?_;apply bU (hE.t O) (hE.t O) O O O
  ·exact uK
  ·exact uK
  ·rfl
  ·rfl
  ·omega
  ·omega
  ·(unfold maxLen;omega)
  intro g105 c105 n105 x105 hn105 hx105;refine gg2 ?_;refine uU ?_;refine aU (hE.t O) (hE.t O) O O O (fun b108=>?_);refine uU ?_;apply bU (hE.t O) (hE.t O) O O O
  ·exact uK
  ·exact uK
  ·rfl
  ·rfl
  ·omega
  ·omega
  ·(unfold maxLen;omega)
  intro g109 c109 n109 x109 hn109 hx109;refine gg7 ?_;obtain rfl:n105=rs.length+1:=hn105;obtain rfl:n109=rs.length+1:=hn109;obtain rfl:x105=rpC rs++[.pointer (some ⟨r.t,0,none⟩)]:=by rw[hx105,hr];rfl
  obtain rfl:x109=fsC rs++[.slice (some ⟨r.g,0,none⟩) r.B.length r.d]:=by rw[hx109,hr];rfl
  refine uX (xA hE) O ?_;rintro _ _⟨t2,mr2,mc2,rfl,rfl⟩;simp only[uV,uW];refine gg9 ?_;apply aA
  ·(first |(apply aO rfl (hE.t rfl) rfl;(repeat(first |rfl|assumption|constructor));done)|exact aY rfl (hE.t rfl) rfl (by assumption)|(apply bB rfl (hE.t rfl) rfl;(focus((repeat constructor);done));(focus assumption))|(apply bJ rfl (hE.t rfl) rfl (by assumption);(focus((repeat constructor);done));(first |((focus exact f0);(focus omega))|((focus exact f1);(focus omega))|((focus exact f2);(focus omega))|((focus exact f3);(focus omega))|((focus assumption);(focus omega)))))
  ·rfl
  refine uX (mU (k:=z1) (n:=26) hE oO oO) O ?_;rintro _ _⟨rfl,rfl⟩;simp only[uV,uW];refine gg10 ?_;apply aA
  ·(first |(apply aO rfl (hE.t rfl) rfl;(repeat(first |rfl|assumption|constructor));done)|exact aY rfl (hE.t rfl) rfl (by assumption)|(apply bB rfl (hE.t rfl) rfl;(focus((repeat constructor);done));(focus assumption))|(apply bJ rfl (hE.t rfl) rfl (by assumption);(focus((repeat constructor);done));(first |((focus exact f0);(focus omega))|((focus exact f1);(focus omega))|((focus exact f2);(focus omega))|((focus exact f3);(focus omega))|((focus assumption);(focus omega)))))
  ·rfl
  refine gg3 ?_;refine bE O (fun h4=>?_) (fun h4=>?_)
  ·have hst':ruW ids (lsFW ids m) (ws.take (k+1))=dr F nm:=by
    rw[hst];unfold stW;rw[if_pos (show z2<0 by omega),hnm]
   refine gg4 ?_;refine uX (xB hE hp26) O ?_;rintro _ _⟨rfl,rfl⟩;simp only[uV,uW];rw[hnm];refine uX (ct_sDrop (t:=t2) (mr:=mr2) (mc:=mc2) (x:=nm) (Fc:=fun _=>none) (Fr:=fun _=>none) hE hat O hv1 hv2) O ?_;rintro _ _(⟨hfn,rfl,rfl⟩|⟨hfn,rfl,rfl⟩)
   ·simp only[uV,uW];refine gg20 ?_
    have hFr:∀y,kV (fun _=>none) nm (.bool true) y≠none→y=nm:=fun y hy=>by
     unfold kV at hy;split at hy
     ·assumption
     exact absurd O hy
    refine uX (yV (t:=t2) (mr:=mr2) (mc:=mc2) (x:=nm) (id:=0) (dp:=true) (n:=v) (Fr:=kV (fun _=>none) nm (.bool true)) (L:=Lv) hE hat oO oO hLv hFr (fun _ h=>absurd h hfn)) O ?_;rintro _ _⟨A2,q2,rfl,hq2,rfl⟩;simp only[uV,uW];refine gg22 ?_
    refine bS (ι:=WsG) (j:=⟨k+1,N++N2,fB,A++A2,chT T nm 0 true,v+1,q2,pu Lv nm (v+1),rs++[r],some ⟨g105,0,none⟩,c105,some ⟨g109,0,none⟩,c109⟩) ⟨by simp only;omega,hq2,hst'.symm▸qUd hrep nm 0 true,by simp only;omega,pu_le hLv,hM3,by simp only[aa,az];omega,qIk (fun x h=>(hrs x h).more A2) (hRd.more A2)⟩ (by simp only;omega) ⟨rfl,rfl,rfl,rfl,rfl,rfl,by simp only;rw[aa];rfl,by simp only;rw[aa];rfl,bf some (bW (by simp only;omega)),trivial⟩ (by
     simp only;refine cO (pW (ps:=[dU (rs.map (rdH b)),rdH b r]) (p:=dU ((rs++[r]).map (rdH b))) uK qIi) ?_;rw[qIs,qHp,aa,az,←ah,hrl];(apply ent;(repeat constructor);done))
   have hFn:F nm=none:=by rw[←hrep.fnd];exact hfn
   simp only[uV,uW];refine gg11 ?_;refine uX (ct_Is hE (by decide)) O ?_;rintro _ _⟨rfl,rfl⟩;simp only[uV,uW];refine gg11 ?_;refine uX (qCa (t:=t2) (mr:=mr2) (mc:=mc2) hE) O ?_;rintro _ _⟨rfl,rfl⟩;simp only[uV,uW];refine gg22 ?_
   refine bS (ι:=WsG) (j:=⟨k+1,N++N2,fB,A,T,v,q,Lv,rs++[r],some ⟨g105,0,none⟩,c105,some ⟨g109,0,none⟩,c109⟩) ⟨by simp only;omega,hat,hst'.symm▸(dr_none hFn).symm▸hrep,by simp only;omega,hLv,hM3,by simp only[aa,az];omega,qIk hrs hRd⟩ (by simp only;omega) ⟨rfl,rfl,rfl,rfl,rfl,rfl,by simp only;rw[aa];rfl,by simp only;rw[aa];rfl,bf some (bW (by simp only;omega)),trivial⟩ (by
    simp only;refine cO (pW (ps:=[dU (rs.map (rdH b)),rdH b r]) (p:=dU ((rs++[r]).map (rdH b))) uK qIi) ?_;rw[qIs,qHp,aa,az,←ah,hrl];(apply ent;(repeat constructor);done))
  obtain⟨w,rfl⟩:∃w:Nat,z2=(w:Nat):=⟨z2.toNat,oO⟩;have hmod:w%n<n:=pm _ oO;obtain⟨id,hid⟩:∃x,ids[w%n]?=some x:=⟨_,ag oO⟩;have hidw:=qAg hid;have f2:=gL hid ((((w:Nat):Int)%((n:Nat):Int)).toNat) (by rw[←wm];omega)
  have hst':ruW ids (lsFW ids m) (ws.take (k+1))=pu F nm id:=by
   rw[hst];unfold stW;rw[if_neg (show ¬((w:Nat):Int)<0 by omega),hnm,←hidw,←hil];rfl
  refine gg1 ?_;refine uH ([wq,sl (some ⟨gi,0,none⟩) ci 56 1 n (idC ids)]) ?_;refine gg2 ?_;refine uD 3 O (aB O) ?_;refine gg4 ?_;apply bG 8 O
  ·(first |(apply aO rfl (hE.t rfl) rfl;(repeat(first |rfl|assumption|constructor));done)|exact aY rfl (hE.t rfl) rfl (by assumption)|(apply bB rfl (hE.t rfl) rfl;(focus((repeat constructor);done));(focus assumption))|(apply bJ rfl (hE.t rfl) rfl (by assumption);(focus((repeat constructor);done));(first |((focus exact f0);(focus omega))|((focus exact f1);(focus omega))|((focus exact f2);(focus omega))|((focus exact f3);(focus omega))|((focus assumption);(focus omega)))))
  ·with_reducible (repeat(first |exact aF|apply aG|apply aH))
  ·kernel_rfl
  ·rfl
  refine gg4 ?_;apply bG 13 O
  ·(first |(apply aO rfl (hE.t rfl) rfl;(repeat(first |rfl|assumption|constructor));done)|exact aY rfl (hE.t rfl) rfl (by assumption)|(apply bB rfl (hE.t rfl) rfl;(focus((repeat constructor);done));(focus assumption))|(apply bJ rfl (hE.t rfl) rfl (by assumption);(focus((repeat constructor);done));(first |((focus exact f0);(focus omega))|((focus exact f1);(focus omega))|((focus exact f2);(focus omega))|((focus exact f3);(focus omega))|((focus assumption);(focus omega)))))
  ·with_reducible (repeat(first |exact aF|apply aG|apply aH))
  ·kernel_rfl
  ·rfl
  apply dH 2 O oK O;refine uC (xB hE hp26) O ?_;rintro _ _⟨rfl,rfl⟩;simp only[uV,uW];rw[hnm];refine uE ?_;apply dH 14 O oK O;refine uC (qVf (t:=t2) (mc:=mc2) (x:=nm) (id:=id) (Fc:=fun _=>none) hE hv1 hv2) O ?_;rintro _ _⟨rfl,rfl⟩;simp only[uV,uW];refine uE ?_;refine gg9 ?_;refine uX (yV (t:=t2) (mr:=mr2) (mc:=mc2) (x:=nm) (id:=id) (dp:=false) (n:=v) (Fr:=fun _=>none) (L:=Lv) hE hat oO oO hLv (fun y hy=>absurd O hy) (fun h=>by cases h)) rfl ?_;rintro _ _⟨A2,q2,rfl,hq2,rfl⟩;simp only[uV,uW];refine gg22 ?_
  refine bS (ι:=WsG) (j:=⟨k+1,N++N2,fB,A++A2,chT T nm id false,v+1,q2,pu Lv nm (v+1),rs++[r],some ⟨g105,0,none⟩,c105,some ⟨g109,0,none⟩,c109⟩) ⟨by simp only;omega,hq2,hst'.symm▸qUd hrep nm id false,by simp only;omega,pu_le hLv,hM3,by simp only[aa,az];omega,qIk (fun x h=>(hrs x h).more A2) (hRd.more A2)⟩ (by simp only;omega) ⟨rfl,rfl,rfl,rfl,rfl,rfl,by simp only;rw[aa];rfl,by simp only;rw[aa];rfl,bf some (bW (by simp only;omega)),trivial⟩ (by
   simp only;refine cO (pW (ps:=[dU (rs.map (rdH b)),rdH b r]) (p:=dU ((rs++[r]).map (rdH b))) uK qIi) ?_;rw[qIs,qHp,aa,az,←ah,hrl];(apply ent;(repeat constructor);done))
 obtain rfl:k=ws.length:=by omega
 rw[qa]at hF;refine gg12 ?_;refine jG (p:=sl p3 c3 48 1 rs.length (rpC rs)) uK (fun _ h=>fun hpos=>fA h hpos) ?_;intro hp3;refine jG (p:=sl p4 c4 44 1 rs.length (fsC rs)) uK (fun _ h=>fun hpos=>fA h hpos) ?_;intro hp4;have hrd0:dU (rs.map (rdH b))=dU ((rs.drop 0).map (rdH b)):=rfl;rw[hrd0];clear hrd0
 refine eQ (fun x:RsG=>[(1,.slice pw ws.length cw),(6,.slice (some ⟨gi,0,none⟩) n ci),(9,uPt mm),(10,.slice pl m cl),(11,.slice (some ⟨gn,0,none⟩) 26 cn),(13,uPt b),(15,.slice p3 rs.length c3),(16,.slice p4 rs.length c4),(25,.int .i64 (x.k:Nat))])
  (fun x=>[cells pp [uPt s,uPt tb] 117,tabP tb s (rls (M++x.N)),bR s 1048576 (M++x.N),cells mm [uPt pp,.map (some bm)] 113,mapF bm .i64 x.f,wq,sl (some ⟨gi,0,none⟩) ci 56 1 n (idC ids),sl pl cl 105 2 m (nlC (lsW ids m)),sl (some ⟨gn,0,none⟩) cn 9 1 26 (nmC ((List.range 26).map nmW)),cells b [.int .i32 0,.int .u32 0,.int .i64 (v:Nat),pv q,.map (some mb)] 132,ar A,sl p3 c3 48 1 rs.length (rpC rs),sl p4 c4 44 1 rs.length (fsC rs),dU ((rs.drop x.k).map (rdH b)),R])
  (fun x=>rs.length-x.k) (fun x=>x.k≤rs.length∧MemS ids (M++x.N) x.f) ⟨0,N,f⟩ ⟨au _,hMS⟩ ⟨rfl,rfl,rfl,rfl,rfl,rfl,rfl,rfl,rfl,trivial⟩ uI ?_
 clear hMS;rintro⟨k,N,f⟩⟨hk2,hMS⟩;simp only at hk2 hMS ⊢;refine gg9 ?_;refine bE O (fun h5=>?_) (fun h5=>?_)
 ·have hkl:k<rs.length:=oO;obtain⟨r,hr⟩:∃r,rs[k]?=some r:=⟨_,ag hkl⟩;have hRd:=hrs r (ay hr);obtain⟨g3,rfl⟩:=hp3 oO;obtain⟨g4,rfl⟩:=hp4 oO;have f0:=rpC_at hr (((k:Nat):Int).toNat) oO;have f1:=fsC_at hr (((k:Nat):Int).toNat) oO
  have hdr:rs.drop k=r::rs.drop (k+1):=by
   obtain⟨h1,e1⟩:=ae.1 hr;rw[kz h1,e1]
  rw[hdr];refine w_open (ι:=Unit) (p:=dU ((r::rs.drop (k+1)).map (rdH b))) (ps:=fun _=>[cells r.t [uPt b,.int .i64 (r.n:Nat),pv r.q,.map (some r.mr),.map (some r.mc),.bool false] 156,fJ r.mr (fun _=>none),fJ r.mc (fun _=>none),sl (some ⟨r.g,0,none⟩) r.d 5 1 r.B.length (byC r.B),dU ((rs.drop (k+1)).map (rdH b))]) uK (fun k h=>⟨(),rdH_pull k h⟩) ?_;rintro⟨⟩;simp only[uV,uW];have hMl:(M++N).length=M.length+N.length:=aa;have hsok:SgO (M++N).length (nmI (seL r.F 26)):=seL_ok hRd.ok (fun u hu=>by have:=hidn u hu;omega);have hsU:∀z∈seL r.F 26,z.2∈ids:=fun z hz=>(hRd.ok z.1 z.2 (qDz.1 hz).choose_spec.2.2).2
  have hsbe:∀z∈seL r.F 26,Be (rls (M++N)) z.2 (tf z.2):=fun z hz=>(hbe z.2 (hsU z hz)).more N
  refine gg10 ?_;apply aA
  ·(first |(apply aO rfl (hE.t rfl) rfl;(repeat(first |rfl|assumption|constructor));done)|exact aY rfl (hE.t rfl) rfl (by assumption)|(apply bB rfl (hE.t rfl) rfl;(focus((repeat constructor);done));(focus assumption))|(apply bJ rfl (hE.t rfl) rfl (by assumption);(focus((repeat constructor);done));(first |((focus exact f0);(focus omega))|((focus exact f1);(focus omega))|((focus exact f2);(focus omega))|((focus exact f3);(focus omega))|((focus assumption);(focus omega)))))
  ·rfl
  refine gg1 ?_;refine uX (ct_seen (U:=ids) (tf:=tf) (F:=r.F) (T:=r.T) (q:=r.q) (Es:=M++N) (s:=s) (pp:=pp) (tb:=tb) (m:=mm) (bm:=bm) (f:=f) (b:=b) (t:=r.t) (n:=r.n) (mr:=r.mr) (mc:=r.mc) (gn:=gn) (cn:=cn) hE hB hRd.at_ hRd.rep hMS hsok hsU hsbe) O ?_;rintro _ _⟨N2,fB,gB,dB,B,Fr,rfl,hEP,hM3,rfl⟩;obtain rfl:B=r.B:=hEP.fn hRd.en;rw[ah]at hM3;simp only[uV,uW];refine gg13 ?_;have hqa:Rdb E.w0 (some ⟨gB,0,none⟩) (byC r.B) (sl (some ⟨gB,0,none⟩) dB 5 1 r.B.length (byC r.B)):=fun _=>⟨gB,0,O,qGj (fun _ _ h=>h)⟩
  have hqb:Rdb E.w0 (some ⟨r.g,0,none⟩) (byC r.B) (sl (some ⟨r.g,0,none⟩) r.d 5 1 r.B.length (byC r.B)):=fun _=>⟨r.g,0,O,qGj (fun _ _ h=>h)⟩
  refine gg9 ?_;apply aA
  ·(first |(apply aO rfl (hE.t rfl) rfl;(repeat(first |rfl|assumption|constructor));done)|exact aY rfl (hE.t rfl) rfl (by assumption)|(apply bB rfl (hE.t rfl) rfl;(focus((repeat constructor);done));(focus assumption))|(apply bJ rfl (hE.t rfl) rfl (by assumption);(focus((repeat constructor);done));(first |((focus exact f0);(focus omega))|((focus exact f1);(focus omega))|((focus exact f2);(focus omega))|((focus exact f3);(focus omega))|((focus assumption);(focus omega)))))
  ·rfl
  refine gg1 ?_;refine uX (qPh (c:=dB) (d:=r.d) hE hqa hqb) O ?_;rintro _ _⟨rfl,rfl⟩;rw[ma (show r.B=r.B from rfl)];simp only[uV,uW];refine gg13 ?_;apply aA
  ·(first |(apply aO rfl (hE.t rfl) rfl;(repeat(first |rfl|assumption|constructor));done)|exact aY rfl (hE.t rfl) rfl (by assumption)|(apply bB rfl (hE.t rfl) rfl;(focus((repeat constructor);done));(focus assumption))|(apply bJ rfl (hE.t rfl) rfl (by assumption);(focus((repeat constructor);done));(first |((focus exact f0);(focus omega))|((focus exact f1);(focus omega))|((focus exact f2);(focus omega))|((focus exact f3);(focus omega))|((focus assumption);(focus omega)))))
  ·rfl
  refine uX (qCa (t:=r.t) (mr:=r.mr) (mc:=r.mc) hE) O ?_;rintro _ _⟨rfl,rfl⟩;simp only[uV,uW];refine gg21 ?_;apply aA
  ·(first |(apply aO rfl (hE.t rfl) rfl;(repeat(first |rfl|assumption|constructor));done)|exact aY rfl (hE.t rfl) rfl (by assumption)|(apply bB rfl (hE.t rfl) rfl;(focus((repeat constructor);done));(focus assumption))|(apply bJ rfl (hE.t rfl) rfl (by assumption);(focus((repeat constructor);done));(first |((focus exact f0);(focus omega))|((focus exact f1);(focus omega))|((focus exact f2);(focus omega))|((focus exact f3);(focus omega))|((focus assumption);(focus omega)))))
  ·rfl
  refine gg1 ?_;refine uX (qNo (t:=r.t) (mr:=r.mr) (mc:=r.mc) hE) O ?_;rintro _ _⟨rfl,rfl⟩;simp only[uV,uW];refine gg5 ?_;refine w_eq 203 (.bool false) O (by simp) ?_;refine gg9 ?_
  refine bS (ι:=RsG) (j:=⟨k+1,N++N2,fB⟩) ⟨by simp only;omega,hM3⟩ (by simp only;omega) ⟨rfl,rfl,rfl,rfl,rfl,rfl,rfl,rfl,bf some (bW (by simp only;omega)),trivial⟩ (by
   simp only;rw[←ah];(apply ent;(repeat constructor);done))
 have hns:(List.range 26).map nmW=qSz:=rfl;refine gg11 ?_;refine uX (qHl (m:=m) (nn:=n) (gi:=gi) (ci:=ci) (pl:=pl) (cl:=cl) hE hat hrep hF.symm hil hn1 hmn hm26 hqw hw12 hz) O ?_;rintro _ _⟨rfl,rfl⟩;simp only[uV,uW];refine gg4 ?_;exact uZ O (.tmp O .nil) ⟨O,O⟩
end
section
open Go Go.ChangeShapes Go.WideShapes Go.ChangeAt Go.WideMaps Go.WideElems Go.RowKit Go.ChangeMaps Sl Eg
instance:Inhabited TMk:=⟨⟨0,0,0,0,0,[]⟩⟩
def fldT {fs:Array Field}{i o:Nat}{t:TypeId}(h:fs[i]?.map (fun f=>(f.offset,f.type))=some (o,t)):∃f,fs[i]?=some f∧f.offset=o∧f.type=t:=by
 cases e:fs[i]? with
 |none=>rw[e]at h;cases h
 |some f=>rw[e]at h;simp at h;exact⟨f,rfl,h.1,h.2⟩
def xY {H:Type}{enc:TypeId×Value→H}{P:Program}{w:World}{base n o:Nat}{spare:Nat→Bool}{held:Bool}{t:TypeId}{k:IntKind}{cs:List Value}{f:Field}{x:Option (DataW H×List MemPlace)}(hx:x≠none)(ho:f.offset=o)(ht:f.type=t)(hi:P.underlying t=some (.int k))(hc:P.cellsOf t=1)
  (h:DataW.trod enc P w base spare held n f.type ((cs.drop f.offset).take (P.cellsOf f.type))=x):∃z,cs[o]?=some (.int k z)∧(Lit.int k z).wf=true:=by
 cases x with
 |none=>exact absurd rfl hx
 |some x=>
  rw[ho,ht,hc]at h
  obtain⟨z,e,_,hw⟩:=DataW.trod_int hi h
  exact⟨z,qBc e,hw⟩
def tF {z:Int}(h:(Lit.int .i64 z).wf=true): -9223372036854775808≤z∧z≤9223372036854775807:=by
 simp only[Lit.wf,dz,decide_eq_true_eq]at h;have h1:(IntKind.i64.min:Int)= -9223372036854775808:=by rfl
 have h2:(IntKind.i64.max:Int)=9223372036854775807:=by rfl
 omega
def one_strT {H:Type}{enc:TypeId×Value→H}{P:Program}{w:World}{base n o:Nat}{spare:Nat→Bool}{held:Bool}{t:TypeId}{cs:List Value}{f:Field}{x:Option (DataW H×List MemPlace)}(hx:x≠none)(ho:f.offset=o)(ht:f.type=t)(hi:P.underlying t=some .string)(hc:P.cellsOf t=1)
  (h:DataW.trod enc P w base spare held n f.type ((cs.drop f.offset).take (P.cellsOf f.type))=x):∃u:List UInt8,cs[o]?=some (.string ⟨⟨u⟩⟩):=by
 cases x with
 |none=>exact absurd rfl hx
 |some x=>
  rw[ho,ht,hc]at h
  obtain⟨⟨⟨u⟩⟩,e,_⟩:=DataW.trod_string hi h
  exact⟨u,qBc e⟩
set_option maxRecDepth 100000 in
def qXn {H:Type}{enc:TypeId×Value→H}{w:World}{base fuel:Nat}{spare:Nat→Bool}{held:Bool}{cs:List Value}{x:DataW H×List MemPlace}(h:DataW.trod enc Tryz.prog w base spare held fuel 90 cs=some x):∃m:TMk,cs=mkV m∧m.ok:=by
 obtain⟨xs,n,_,_,hcl,hxl,hall⟩:=DataW.trod_struct (fs:=Tryz.prog.fieldsOf 90) oK h;have hsz:(Tryz.prog.fieldsOf 90).size=6:=by kernel_rfl
 have hc:Tryz.prog.cellsOf 90=6:=by kernel_rfl
 have ui:Tryz.prog.underlying 3=some (.int .i64):=by kernel_rfl
 have us:Tryz.prog.underlying 9=some .string:=by kernel_rfl
 have ci:Tryz.prog.cellsOf 3=1:=by kernel_rfl
 have cs':Tryz.prog.cellsOf 9=1:=by kernel_rfl
 obtain⟨f0,a0,o0,t0⟩:=fldT (fs:=Tryz.prog.fieldsOf 90) (i:=0) (o:=0) (t:=3) oK;obtain⟨f1,a1,o1,t1⟩:=fldT (fs:=Tryz.prog.fieldsOf 90) (i:=1) (o:=1) (t:=3) oK;obtain⟨f2,a2,o2,t2⟩:=fldT (fs:=Tryz.prog.fieldsOf 90) (i:=2) (o:=2) (t:=3) oK;obtain⟨f3,a3,o3,t3⟩:=fldT (fs:=Tryz.prog.fieldsOf 90) (i:=3) (o:=3) (t:=3) oK;obtain⟨f4,a4,o4,t4⟩:=fldT (fs:=Tryz.prog.fieldsOf 90) (i:=4) (o:=4) (t:=3) oK;obtain⟨f5,a5,o5,t5⟩:=fldT (fs:=Tryz.prog.fieldsOf 90) (i:=5) (o:=5) (t:=9) oK;rw[hsz]at hxl;have hne:∀i,i<6→xs[i]?≠none:=fun i hi=>by rw[ag oO];simp
 obtain⟨z0,e0,w0⟩:=xY (hne 0 oO) o0 t0 ui ci (hall 0 f0 a0);obtain⟨z1,e1,w1⟩:=xY (hne 1 oO) o1 t1 ui ci (hall 1 f1 a1);obtain⟨z2,e2,w2⟩:=xY (hne 2 oO) o2 t2 ui ci (hall 2 f2 a2);obtain⟨z3,e3,w3⟩:=xY (hne 3 oO) o3 t3 ui ci (hall 3 f3 a3);obtain⟨z4,e4,w4⟩:=xY (hne 4 oO) o4 t4 ui ci (hall 4 f4 a4);obtain⟨u,e5⟩:=one_strT (hne 5 oO) o5 t5 us cs' (hall 5 f5 a5);rw[hc]at hcl;refine⟨⟨z0,z1,z2,z3,z4,u⟩,?_,⟨tF w0,tF w1,tF w2,tF w3,tF w4⟩⟩;match cs,hcl with
 |[c0,c1,c2,c3,c4,c5],_=>
  simp at e0 e1 e2 e3 e4 e5
  subst e0 e1 e2 e3 e4 e5
  rfl
set_option maxRecDepth 100000 in
def qTd {H:Type}{enc:TypeId×Value→H}{w:World}{base b0:Nat}{r:Reach}{held:Bool}{v:Value}{d:DataW H}{ps:List MemPlace}
  (hv:Value.okWide Tryz.prog w r b0 22 v) (hd:DataW.Trod enc Tryz.prog w base (fun _=>true) held 22 v d ps):
  ∃(A:Option Addr)(ms:List TMk)(C:Nat),v= .slice A ms.length C∧Rdb w A (mkVs ms) old∧(∀m∈ms,m.ok)∧ms.length≤maxLen:=by
 have hc:Tryz.prog.cellsOf 90=6:=by kernel_rfl
 have hu:Tryz.prog.underlying 22=some (.slice 90):=by kernel_rfl
 obtain⟨a,len,cap,rfl⟩:=okWide_slice hu hv;obtain⟨fuel,hf⟩:=hd;simp only[Value.cells]at hf;rcases Go.Deep.open_slice hu hf with⟨h1,h2⟩|⟨a',len',cap',m,n,D,Pl,h1,hb,hl,hm,hmm,hx,hcell⟩
 ·simp at h1;obtain⟨rfl,rfl,rfl⟩:=h1;exact⟨none,[],0,O,fun h=>absurd O h,(by simp),au _⟩
 simp at h1;obtain⟨rfl,rfl,rfl⟩:=h1;have hml:len≤m:=by rw[hmm];split <;>omega
 obtain⟨M,hM⟩:=Go.Deep.choose_lt (n:=len) (p:=fun i(k:TMk)=>k.ok∧∀j u,(mkV k)[j]?=some u→w.cell? (a'.add (i*6+j))=some u) (fun i hi=>by
  obtain⟨cs',g1,g2⟩:=hcell i oO;obtain⟨k,rfl,hk⟩:=qXn g2;rw[hc]at g1;obtain⟨_,_,g3⟩:=World.cells?_some g1;refine⟨k,hk,fun j u hj=>?_⟩;have hj6:j<6:=(ae.1 hj).1;rw[←Go.Deep.add_add,g3 j hj6,hj])
 have hlen:((List.range len).map M).length=len:=by simp
 have hget:∀i,i<len→((List.range len).map M)[i]?=some (M i):=fun i hi=>by simp[hi]
 refine⟨some a',(List.range len).map M,cap,by rw[hlen],fun hne=>?_,fun t ht=>?_,by rw[hlen];omega⟩
 ·have h0:0<len:=by
   rcases jr len with h| h
   ·subst h;simp[mkVs]at hne
   exact h
  have hc0:=(hM 0 h0).2 0 _ O;rw[show a'.add (0*6+0)=a' by simp[Addr.add]]at hc0;have e:=qMm hc0;refine⟨a'.block,a'.off,by rw[←e],rd_old fun i v hv=>?_⟩
  have hi:i<len*6:=by
   have:=(ae.1 hv).1;rwa [wH,hlen]at this
  have hk:i/6<len:=oO;have hj:i%6<6:=oO;have hu:(mkV (M (i/6)))[i%6]?=some ((mkV (M (i/6)))[i%6]'hj):=ag hj;have hat:=qXf (hget _ hk) _ _ hu;have hci:=(hM _ hk).2 _ _ hu;rw[show i/6*6+i%6=i by omega]at hat hci;rw[hat]at hv;rw[e,Sl.addr_add]at hci;rw[hci,hv]
 obtain⟨i,hi,rfl⟩:=fq.1 ht;exact(hM i (oQ.1 hi)).1
def qVl {E:Env}{f:FuncId}{args:List Value}{u:Value}(h:Ct E f args [old] (fun v Q=>v=u∧Q=[old])):Ct E f args [] (fun v Q=>v=u∧Q=[]):=fun R w s=>(h R w (s.imp fun _ x=>ent_old _ x)).mono fun e w'⟨v,Qs,h1,⟨h2,h3⟩,h4⟩=>⟨v,[],h1,⟨h2,rfl⟩,by
 subst h3;exact h4.imp (by show ∀k,dU [old,R] k→dU [R] k;(apply ent;(repeat constructor);done))⟩
def rdb_of {W:World}{a:Option Addr}{vs:List Value}(h:∀i v,vs[i]?=some v→∃a',a=some a'∧W.cell? (a'.add i)=some v):Rdb W a vs old:=fun hne=>by
 cases vs with
 |nil=>exact absurd rfl hne
 |cons v vs=>
  obtain⟨a',rfl,h0⟩:=h 0 v rfl
  rw[show a'.add 0=a' by simp[Addr.add]]at h0
  have e:=qMm h0
  refine⟨a'.block,a'.off,by rw[←e],rd_old fun i u hu=>?_⟩
  obtain⟨a2,h1,h2⟩:=h i u hu
  cases h1
  rw[e,Sl.addr_add]at h2
  exact h2
def qMx:Tryz.prog.underlying 3=some (.int .i64):=by kernel_rfl
def qUc:Tryz.prog.cellsOf 3=1:=by kernel_rfl
def i64_wf {z:Int}(h:(Lit.int .i64 z).wf=true): -9223372036854775808≤z∧z≤9223372036854775807:=by
 simp only[Lit.wf,dz,decide_eq_true_eq]at h;have h1:(IntKind.i64.min:Int)= -9223372036854775808:=by rfl
 have h2:(IntKind.i64.max:Int)=9223372036854775807:=by rfl
 omega
set_option maxRecDepth 100000 in
def qTc {H:Type}{enc:TypeId×Value→H}{w:World}{base fuel:Nat}{spare:Nat→Bool}{held:Bool}{cs:List Value}{x:DataW H×List MemPlace}(h:DataW.trod enc Tryz.prog w base spare held fuel 51 cs=some x):
  ∃p:Int×Int,cs=[.int .i64 p.1,.int .i64 p.2]∧ -9223372036854775808≤p.2∧p.2≤9223372036854775807:=by
 obtain⟨xs,n,hl,hx,hall⟩:=qTr (m:=2) (e:=3) oK h;have hn:Tryz.prog.cellsOf 51=2:=by kernel_rfl
 have g0:=hall 0 oO;have g1:=hall 1 oO;rw[ag oO,qUc]at g0 g1;obtain⟨a,e0,_,_⟩:=DataW.trod_int qMx g0;obtain⟨b,e1,_,hb⟩:=DataW.trod_int qMx g1;have c0:=qBc e0;have c1:=qBc e1;rw[hn]at hl;refine⟨(a,b),?_,i64_wf hb⟩;match cs,hl with
 |[u,v],_=>
  simp at c0 c1
  subst c0 c1
  rfl
def wpC_of {w:World}{a:Addr}{len:Nat}{M:Nat→Int×Int}(hM:∀i,i<len→w.cell? (a.add (i*2))=some (.int .i64 (M i).1)∧w.cell? (a.add (i*2+1))=some (.int .i64 (M i).2)):Rdb w (some a) (wpC ((List.range len).map M)) old:=rdb_of fun i v hv=>by
 have hl:(wpC ((List.range len).map M)).length=len*2:=by rw[zY];simp
 have hi:i<len*2:=by
  have:=(ae.1 hv).1;omega
 have hk:i/2<len:=oO;have hg:((List.range len).map M)[i/2]?=some (M (i/2)):=by simp[hk]
 obtain⟨h0,h1⟩:=qZr hg (i/2*2) rfl;obtain⟨k0,k1⟩:=hM _ hk;refine⟨a,O,?_⟩;rcases rf i with e| e
 ·rw[show i/2*2=i by omega]at h0 k0;rw[h0]at hv;rw[k0,hv]
 rw[show i/2*2+1=i by omega]at h1 k1;rw[h1]at hv;rw[k1,hv]
set_option maxRecDepth 100000 in
def qOg {H:Type}{enc:TypeId×Value→H}{w:World}{base b0:Nat}{r:Reach}{held:Bool}{v:Value}{d:DataW H}{ps:List MemPlace}
  (hv:Value.okWide Tryz.prog w r b0 23 v) (hd:DataW.Trod enc Tryz.prog w base (fun _=>true) held 23 v d ps):
  ∃(A:Option Addr)(zs:List (Int×Int))(C:Nat),v= .slice A zs.length C∧Rdb w A (wpC zs) old∧(∀z∈zs, -9223372036854775808≤z.2∧z.2≤9223372036854775807)∧zs.length≤maxLen:=by
 have hc:Tryz.prog.cellsOf 51=2:=by kernel_rfl
 have hu:Tryz.prog.underlying 23=some (.slice 51):=by kernel_rfl
 obtain⟨a,len,cap,rfl⟩:=okWide_slice hu hv;obtain⟨fuel,hf⟩:=hd;simp only[Value.cells]at hf;rcases Go.Deep.open_slice hu hf with⟨h1,h2⟩|⟨a',len',cap',m,n,D,Pl,h1,hb,hl,hm,hmm,hx,hcell⟩
 ·simp at h1;obtain⟨rfl,rfl,rfl⟩:=h1;exact⟨none,[],0,O,fun h=>absurd O h,(by simp),au _⟩
 simp at h1;obtain⟨rfl,rfl,rfl⟩:=h1;have hml:len≤m:=by rw[hmm];split <;>omega
 obtain⟨M,hM⟩:=Go.Deep.choose_lt (n:=len) (p:=fun i(k:Int×Int)=>(w.cell? (a'.add (i*2))=some (.int .i64 k.1)∧w.cell? (a'.add (i*2+1))=some (.int .i64 k.2))∧ -9223372036854775808≤k.2∧k.2≤9223372036854775807) (fun i hi=>by
  obtain⟨cs',g1,g2⟩:=hcell i oO;obtain⟨k,rfl,hk⟩:=qTc g2;rw[hc]at g1;obtain⟨_,_,g3⟩:=World.cells?_some g1;have q0:=g3 0 oO;have q1:=g3 1 oO;rw[Go.Deep.add_add]at q0 q1;exact⟨k,⟨q0,q1⟩,hk⟩)
 have hlen:((List.range len).map M).length=len:=by simp
 refine⟨some a',(List.range len).map M,cap,by rw[hlen],wpC_of fun i hi=>(hM i hi).1,fun z hz=>?_,by rw[hlen];omega⟩;obtain⟨i,hi,rfl⟩:=fq.1 hz;exact(hM i (oQ.1 hi)).2
def yP {E:Env}(hE:Seat E)(hB:Base E.w0){l:List TMk}{ws:List (Int×Int)}{a a1:Option Addr}{c c1:Nat}(hq:Rdb E.w0 a (mkVs l) old)(hl:l.length≤maxLen)(hx:∀x∈l,x.ok)
  (hq1:Rdb E.w0 a1 (wpC ws) old) (hz:∀w∈ws, -9223372036854775808≤w.2∧w.2≤9223372036854775807) (hw:ws.length≤maxLen):
  Ct E 3 [.slice a l.length c,.slice a1 ws.length c1] [] (fun v Q=>v= .bool true∧Q=[]):=qVl (wX hE hB hq (by unfold maxLen at hl;omega) hx hq1 (by unfold maxLen at hw;omega) hz)
end
