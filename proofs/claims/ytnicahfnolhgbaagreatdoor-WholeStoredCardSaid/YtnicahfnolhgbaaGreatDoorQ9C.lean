import Derived.Test.YtnicahfnolhgbaaGreatDoorQ9B
set_option linter.all false
set_option maxHeartbeats 1000000
namespace Sl
open Go Go.RowKit
variable {E:Bp}{n:Nat}{L:Fr}{H H' H'':List HP}{ty:TypeId}{pos:String}{af:Array Edge}{d:Option Nat}{gd:Option (Nat×Bool)}{K:Value->List HP->Prop}
def qMp {x y}{t e bt:TypeId}{g b m cc by_ sz sz' xs zs zs' v kk}(ht:E.tab t=some ⟨.slice e 1 by_,sz,zs⟩)(he:E.tab e=some ⟨kk,sz',zs'⟩)(hz:Nat.beq zs'.length 1=true)
  (hx:ev L x=some (.slice (BM g) m m)) (hy:ev L y=some (.slice (BM b) 1 cc)) (hC:xs.length=m) (hm:CO (ro g xs) H H') (hG:CO (cells b [v] bt) H' H'') (hb:(m+1)*by_<=140737488355328) (hF:m+1<=maxLen)
  (hk:∀g' c',K (.slice (BM g') (m+1) c') (sl (BM g') c' e 1 (m+1) (xs++[v])::H'')):Ld E n L H ⟨d,.call {callee:= .builtin .append,args:= #[x,y],argTypes:= #[t,t]},ty,pos,af,gd⟩ K:=fun Q next a w G hn=>by
 obtain⟨hu,j,hj,hs,hH⟩:=fD ht;obtain⟨i,z,hi,hN,hI,hJ,_⟩:=fC he;obtain rfl:i=j:=by rw[hi]at hj;simpa using hj
 have z1:z.cells.size=1:=by rw[<-mo,hJ];exact mg hz
 have s1:=G.hp.take hm;have s2:CR E.w0 w (cells b [v] bt::ro g xs::H''):=(s1.imp fun _ h=>gK (fG (fun _=>hG.out) h));have hA:∀j u,xs[j]?=some u->w.cell? ((⟨g,0,none⟩:Addr).add j)=some u:=fun j u hu=>by rw[addr_add,jh];exact Oz s1 hu
 have hB:∀j u,[v][j]?=some u->w.cell? ((⟨b,0,none⟩:Addr).add j)=some u:=fun j u hu=>by rw[addr_add,jh];exact s2.cell j hu
 have hK:((m+1:Nat):Int)<=9223372036854775807:=by have h:=hF;simp[maxLen]at h;omega
 have hD:Builtin.nextslicecap (m+1) m*i.bytes<=281474976710656:=growslice_fits oO (by rw[hH];exact hb);have hr:=run_append_grow (P:=E.P) w t ty e i z hu hi hI ⟨g,0,none⟩ m m xs (by rw[hs,oV];exact hC) hA ⟨b,0,none⟩ 1 cc [v] (by rw[hs];rfl) hB oO hK hD;have hL:=grownCap_ge w (m+1) m e;have hM:=grownCap_le_maxLen w (m+1) m e hF
 have hE:(execOp a.eval ⟨d,.call {callee:= .builtin .append,args:= #[x,y],argTypes:= #[t,t]},ty,pos,af,gd⟩).run E.P w= .ok (.value (.slice (BM w.heap.size) (m+1) (grownCap w (m+1) m e))) (w.drew.alloc (.cells (xs.toArray++[v].toArray++Builtin.zeroCells z.cells (grownCap w (m+1) m e-(m+1))) e)):=by
  simp[execOp,resolve,invoke,builtin,G.f.ev hx,G.f.ev hy,hr]
 unfold Oper.wp;rw[hE,Oper.upon_value];have s3:=(s2.tail.tail.drew).new (.cells (xs.toArray++[v].toArray++Builtin.zeroCells z.cells (grownCap w (m+1) m e-(m+1))) e);refine hn _ _ _ (hk w.heap.size (grownCap w (m+1) m e)) (s3.imp fun k h=>eU (fun k' h'=>⟨?_,.inr ⟨w.heap.size,_,O,h',hL,hM,?_,?_⟩⟩) h)
 ·simp[hC]
 ·simp[size_zeroCells,z1,hC];omega
 have e1:∀Z:List Value,(xs++v::Z).take (m+1)=xs++[v]:=fun Z=>by
  rw[show xs++v::Z=(xs++[v])++Z by simp];exact xq (by simp[hC])
 simp[e1]
def UU {x y}{xt yt:TypeId}{i j kd S}(hx:ev L x=some (.int kd i))(hy:ev L y=some (.int kd j)):
  Yl E n L S ⟨d,.binOp .or xt x y yt,ty,pos,af,gd⟩ (.int kd (kd.wrap (BitVec.ofInt kd.bits i|||BitVec.ofInt kd.bits j).toNat)):=fun a w g _=>by
 simp[execOp,eqGuard,binOp,Op.intBits,g.ev hx,g.ev hy]
def zBw {x y}{xt yt:TypeId}{i j kd S}(hx:ev L x=some (.int kd i))(hy:ev L y=some (.int kd j)):
  Yl E n L S ⟨d,.binOp .andNot xt x y yt,ty,pos,af,gd⟩ (.int kd (kd.wrap (BitVec.ofInt kd.bits i&&& ~~~ BitVec.ofInt kd.bits j).toNat)):=fun a w g _=>by
 simp[execOp,eqGuard,binOp,Op.intBits,g.ev hx,g.ev hy]
end Sl
namespace Go.Proofs.YtnicahfnolhgbaaGreatDoor
open Go Go.RowKit Sl Eg
set_option maxRecDepth 10000
variable {E:Bp}
def Fz (b:List UInt8):List UInt8:=69::71::3::b
def LZ (b:List UInt8):(Fz b).length=b.length+3:=rfl
def qWm (hE:BP E){p a l ct sz c n0 n1 bs x0 x1 e q}(hp:p.up)(hC:p.fin.up)(hn:FM n0)(hq:Cv E.w0 e (Bd bs) q)(hc:bs.length<=c)(h2:bs.length<=1048573)(hl:Ht x0+bs.length+11<=16777216)(hD:ct<=1000000000)(hF:sz<=1000000000):
  Ct E 43 [uPt l,.slice e bs.length c] [cells l [uPt a,BN n0,BK ct,BK sz,.bool false] 139,Dt a n0 n1 x0 x1 p,q] (fun v Q=>v= .nilIface/\Q=[cells l [uPt a,BN n0,BK ((ct+1)),BK ((sz+(Et (Fz bs)).length)),.bool false] 139,Dt a n0 n1 (some ⟨(JO x0 (Et (Fz bs))).data,(JO x0 (Et (Fz bs))).data.length⟩) x1 p.fin.fin,q]):=by
 have hG:=LZ bs;refine bO (hE.fn Tryz.func43) O O O (fun R=>?_);simp only[dS,uV,uW];refine Bq ?_;refine mV 2 ?_;refine CB ?_;refine BU 10 (.int .u8 0) O (bW (by decide)) ?_;refine CK ?_;refine CW 6 (BK bs.length) O (bW oO) ?_;refine Bu ?_;refine bE O (fun c1=>?_) (fun c1=>?_)
 ·refine CL ?_;refine uB (UU O O) ?_;refine BU 20 (.int .u8 3) O (bW (by decide)) ?_
  have hH:Cv E.w0 (Gq e c 0) (Bd bs) q:=by
   have:=kP (k:=0) hq hc;rwa [oU]at this
  have hA:2+1<=maxLen:=by unfold maxLen;omega
  have hI:(2+1+(Bd bs).length)*1<=140737488355328:=by
   rw[fK];omega
  have hJ:2+1+(Bd bs).length<=maxLen:=by
   rw[fK];unfold maxLen;omega
  refine Bw ?_;refine uU (aU (hE.t O) (hE.t O) O O O (fun hN=>?_));refine uU (qYu O (hE.t O) (hE.t O) uK ?_);refine Bv ?_;refine uU (aU (hE.t O) (hE.t O) O O O (fun hO=>?_));refine uU (qMp (xs:=[.int .u8 69,.int .u8 71]) (hE.t O) (hE.t O) O O O O uK uK oO hA (fun hP hQ=>?_));refine Bc ?_;refine uB (jZ (l:=0) (h:=bs.length) O (hE.t O) O ⟨_,O⟩ (av _) hc) ?_;refine BU 30 (.slice (Gq e c 0) bs.length (c-0)) O (au (fun z=>Value.slice _ z _) oO) ?_;refine uU (jF (us:=Bd bs) (q:=q) (hE.t O) (hE.t O) O O O (fK _).symm hH uK uK (gG _) hI hJ (fun pt ct' m1 y1 hK hL=>?_));obtain rfl:m1=(Fz bs).length:=by rw[hK,fK,hG];omega
  obtain rfl:y1=Bd (Fz bs):=hL;refine lQ (p:=sl pt ct' 5 1 (Fz bs).length (Bd (Fz bs))) uK (fun _ h=>eG h oO) ?_;rintro⟨hB,rfl⟩;have hM:Cv E.w0 (BM hB) (Bd (Fz bs)) (sl (BM hB) ct' 5 1 (Fz bs).length (Bd (Fz bs))):=sK (fK _) (fun _=>⟨hB,O⟩);refine BH (qLu (bs:=Fz bs) (a:=a) (n0:=n0) (n1:=n1) (x0:=x0) (x1:=x1) (ct:=ct) (sz:=sz) hE hp hn hM oO oO oO hD hF) O ?_;refine CX ?_;refine uB (jZ (l:=bs.length) (h:=bs.length) O (hE.t O) ⟨_,O⟩ O (ai _) hc) ?_;refine Bw ?_;refine uB (zBw O O) ?_;refine BU 40 (.int .u8 2) O (bW (by decide)) ?_;refine Bc ?_;refine BU 10 (.int .u8 2) O (bW (by decide)) ?_;refine Bq ?_;refine BH (qTu (ct:=ct+1) hE hC hn oO) O ?_;refine Bz ?_;exact uZ O (.tmp O .nil) ⟨O,O⟩
 exfalso;exact c1 O
end Go.Proofs.YtnicahfnolhgbaaGreatDoor
namespace Sl
open Go Go.RowKit
variable {E:Bp}{n:Nat}{L:Fr}{S H H':List HP}{ty:TypeId}{pos:String}{af:Array Edge}{d:Option Nat}{gd:Option (Nat×Bool)}{K:Value->List HP->Prop}
def xM {f fst vs}(hc:evs L fst=some vs):Yl E n L S ⟨d,.makeFunc (.func f) fst.toArray #[],ty,pos,af,gd⟩ (.func (.func f) ⟨vs⟩ #[]):=fun a w g _=>by
 have h1:=g.evs hc;simp[execOp,Instr.makeFunc,h1]
def qYr {x f fst args}{ts:Array TypeId}{vs Pre}{Φ:Value->List HP->Prop}(hc:Ct E f (fst++vs) Pre Φ)(hx:ev L x=some (.func (.func f) ⟨fst⟩ #[]))(ha:evs L args=some vs)(hf:Fy E.P f=true)(hs:IW Pre H H')(hk:∀v Qs,Φ v Qs->K v (Qs++H')):
  Ld E n L H ⟨d,.call {callee:= .value x,args:=args.toArray,argTypes:=ts},ty,pos,af,gd⟩ K:=fun Q next a w g hn=>by
 have hA:(execOp a.eval ⟨d,.call {callee:= .value x,args:=args.toArray,argTypes:=ts},ty,pos,af,gd⟩).run E.P w= .ok (.enter f ⟨fst++vs⟩) w:=by
  have h1:=g.f.evs ha;have h2:=g.f.ev hx;have h3:(⟨fst⟩:Array Value)++(⟨vs⟩:Array Value)=⟨fst++vs⟩:=by simp
  simp[execOp,resolve,Deferred.ofValue,invoke,h2,tY hf,h1,h3]
 unfold Oper.wp;rw[hA,Oper.upon_enter];refine(hc (dW H') w ((g.hp.sub hs).imp fun _=>lD)).mono ?_;rintro e w'⟨v,Qs,rfl,hΦ,hB⟩;exact hn v _ w' (hk v Qs hΦ) (hB.imp fun _=>qX)
end Sl
namespace Go.Proofs.YtnicahfnolhgbaaGreatDoor
open Go Go.RowKit Sl Eg
set_option maxRecDepth 10000
section
variable {E:Bp}
structure ZK where
 i:Nat
 a:Option Addr
 c:Nat
def zO (hE:BP E){fc:FuncId}{recv:Value}(hf:Fy E.P fc=true){Bs t:List UInt8}{items:List (List UInt8)}(hD:Bs=BS items.length++(items.flatten++t)){J:Nat->HP}{q:HP}{a:Option Addr}{c:Nat}(hq:Cv E.w0 a (Bd Bs) q)(hc:Bs.length<=c)(hK:Bs.length<=1099511627776)(hn:items.length<=1099511627776)(hH:∀x∈items,1<=x.length)
  (hC:∀i x r a' c',items[i]?=some x->r=((items.drop (i+1)).flatten++t)->Cv E.w0 a' (Bd (x++r)) q->(x++r).length<=c'->Ct E fc [recv,.slice a' (x++r).length c'] [J i,q] (fun v Q=>v= .int .i64 (x.length:Nat)/\Q=[J (i+1),q])):
  Ct E 86 [.slice a Bs.length c,.func (.func fc) #[recv] #[]] [J 0,q] (fun v Q=>∃a' c',v= .tuple #[.slice a' t.length c',.bool true]/\Cv E.w0 a' (Bd t) q/\t.length<=c'/\Q=[J items.length,q]):=by
 have hL:=jG items.length;have hM:Bs.length=(BS items.length).length+(items.flatten++t).length:=by rw[hD,aa]
 have hI:Bs.drop (BS items.length).length=items.flatten++t:=by rw[hD];exact Aq
 have hF:=kP (k:=(BS items.length).length) hq hc;rw[hI]at hF;refine bO (hE.fn Tryz.func86) O O O (fun R=>?_);simp only[dS,uV,uW];refine Bu ?_;refine BH (yB (n:=items.length) hE oO hD hq) O ?_;refine DL ?_;refine uB (jZ (l:=(BS items.length).length) (h:=Bs.length) O (hE.t O) ⟨_,O⟩ O oO oO) ?_;refine BU 20 (.slice (Gq a c (BS items.length).length) (items.flatten++t).length (c-(BS items.length).length)) O (au (fun z=>Value.slice _ z _) oO) ?_;refine Bw ?_;refine dX (fun x:ZK=>[(0,.slice x.a ((items.drop x.i).flatten++t).length x.c),(1,.func (.func fc) #[recv] #[]),(6,.int .u64 ((items.length-x.i:Nat):Int))]) (fun x=>[J x.i,q,R]) (fun x=>items.length-x.i) (fun x=>x.i<=items.length/\Cv E.w0 x.a (Bd ((items.drop x.i).flatten++t)) q/\((items.drop x.i).flatten++t).length<=x.c) ⟨0,Gq a c (BS items.length).length,c-(BS items.length).length⟩ ⟨av _,hF,by simp only[oU];omega⟩ BC uI ?_;rintro⟨i,a1,c1⟩⟨hi,hA,hB⟩;simp only at hi hA hB ⊢;refine Bi ?_;refine bE O (fun h1=>?_) (fun h1=>?_)
 ·obtain⟨x,hx⟩:∃x,items[i]?=some x:=BG;have hN:=hH x (ak hx);have e1:((items.drop i).flatten++t)=x++((items.drop (i+1)).flatten++t):=by rw[lK hx,ko,ah]
  obtain⟨r,hr⟩:∃r,r=((items.drop (i+1)).flatten++t):=⟨_,rfl⟩;rw[<-hr]at e1;rw[e1]at hA hB ⊢;have hO:(x++r).length=x.length+r.length:=aa;have hJ:(x++r).drop x.length=r:=Aq;have hG:=kP (k:=x.length) hA hB;rw[hJ]at hG;refine Br ?_;refine uU ?_;apply qYr (hx:=O) (ha:=O) (hf:=hf)
  ·exact hC i x r a1 c1 hx hr hA hB
  ·exact uK
  rintro _ _⟨rfl,rfl⟩;simp only[uV,uW];refine Bc ?_;refine bE O (fun h2=>?_) (fun h2=>?_)
  ·exfalso;omega
  refine Bw ?_;refine uB (jZ (l:=x.length) (h:=(x++r).length) O (hE.t O) ⟨_,O⟩ O oO oO) ?_;refine BU 32 (.slice (Gq a1 c1 x.length) r.length (c1-x.length)) O (au (fun z=>Value.slice _ z _) oO) ?_;refine CB ?_;refine uB (qSr (i:=items.length-i) (j:=1) O O oO oO) ?_;refine CL ?_;refine bS (ι:=ZK) (j:=⟨i+1,Gq a1 c1 x.length,c1-x.length⟩) ⟨BD,by simp only;rw[<-hr];exact hG,by simp only;rw[<-hr];omega⟩ BD ⟨by simp only;rw[<-hr];rfl,rfl,au some (by simp only;rw[Nat.sub_sub]),trivial⟩ uI
 obtain rfl:i=items.length:=by omega
 have e0:((items.drop items.length).flatten++t)=t:=by rw[uj];rfl
 rw[e0]at hA hB ⊢;refine CP ?_;exact uZ O (.tmp O (.tmp O .nil)) ⟨a1,c1,O,hA,hB,O⟩
end
section
variable {E:Bp}
def qWz (hE:BP E){a k}(h:a*k<=dC)(ha:1<=a)(hk:1<=k):Ct E 96 [BK a,BK k] [] (fun v Q=>v= .tuple #[BL ((a*k:Nat):Int),.nilIface]/\Q=[]):=by
 have hA:dC=1152921504606846976:=rfl;have hc:((a*k:Nat):Int)=(a:Int)*(k:Int):=nz a k;have h1:=vw a hk;have h2:=wh k ha
 have h3:k<=1152921504606846976/a:=by
  rw[Ah ha,oN];omega
 have h4:(1152921504606846976:Int)/(a:Int)=((1152921504606846976/a:Nat):Int):=rfl;refine bO (hE.fn Tryz.func96) O O O (fun R=>?_);simp only[dS,uV,uW];refine Bc ?_;refine BH (zR hE oO) O ?_;refine Bu ?_;refine bE O (fun g1=>?_) (fun g1=>?_)
 ·exfalso;omega
 refine Bu ?_;refine bE O (fun g2=>?_) (fun g2=>?_)
 ·exfalso;omega
 refine Bo ?_;refine bE O (fun g3=>?_) (fun g3=>?_)
 ·exfalso;omega
 refine Bq ?_;exact uZ O (.tmp O (.tmp O .nil)) ⟨by rw[hc];rfl,rfl⟩
def DN (G:List Rl):List Nat:=(List.range G.length).map fun i=>len G (i+1)
def YN {G i}(h:i<G.length):(DN G)[i]?=some (len G (i+1)):=by
 unfold DN;rw[bn,lu h];rfl
def XF (G:List Rl)(r:Rl):DN (G++[r])=DN G++[len (G++[r]) (G.length+1)]:=by
 unfold DN;rw[aa,bf,List.range_succ,kv];congr 1;refine qi fun i hi=>?_
 have:=oC.1 hi;exact jB [r] oO
structure IG where
 rq:Option Addr
 rc:Nat
 lq:Option Addr
 lc:Nat
 nb:Nat
def Cf (N:List UInt8->Option Nat):List UInt8->Option Value:=fun x=>(N x).map fun k=> .int .i64 (k:Nat)
def FF (cc:Nat)(c:Cn):HP:=fun h=>∃i:IG,dW [cells cc [.slice i.rq (c).G.length i.rc,.slice i.lq (c).G.length i.lc,.map (some i.nb)] 88,sl i.rq i.rc 111 5 (c).G.length (Cx (c).G),sl i.lq i.lc 3 1 (c).G.length (Bg (DN (c).G)),dY i.nb (Cf (c).N)] h
def qSl {L:List Rl}(hw:Wf L){i:Nat}{r:Rl}(h:L[i]?=some r):r.times<=1152921504606846976:=by
 have hB:=hw.short (i+1);have hC:dC=1152921504606846976:=rfl;have hA:=hw.ok _ _ h;have hn:=(ae.1 h).1;cases r with
 |letter b=>simp[Rl.times]
 |pair a b=>simp[Rl.times]
 |power x t=>
  have e:=pM h hA
  obtain⟨o1,o2,o3⟩:=hA
  have h1:=hw.pos x o1 oO
  have h2:=vw t h1
  simp only[Rl.times]
  omega
def qTc (hE:BP E){cc:Nat}{c:Cn}{r:Rl}{t Bs:List UInt8}{a:Option Addr}{cp:Nat}{q:HP}(hw:Wf (c.G++[r]))(hG:c.G.length<=1048576)(hU:Bs=Co (c.G.length+1) r++t)(hq:Cv E.w0 a (Bd Bs) q)(hc:Bs.length<=cp)(hV:Bs.length<=1099511627776):
  Ct E 87 [uPt cc,.slice a Bs.length cp] [FF cc c,q] (fun v Q=>v= .int .i64 ((Co (c.G.length+1) r).length:Nat)/\Q=[FF cc ⟨c.G++[r],c.N⟩,q]):=by
 have hY:dC=1152921504606846976:=rfl;have hQ:r.ok (c.G.length+1):=hw.ok _ _ BF;refine Sl.ct_open (p:=FF cc c) (ps:=fun i:IG=>[cells cc [.slice i.rq (c).G.length i.rc,.slice i.lq (c).G.length i.lc,.map (some i.nb)] 88,sl i.rq i.rc 111 5 (c).G.length (Cx (c).G),sl i.lq i.lc 3 1 (c).G.length (Bg (DN (c).G)),dY i.nb (Cf (c).N)]) (fun k h=>h) ?_;rintro⟨rq,rc,lq,lc,nb⟩;simp only;have hW:r.times<=1152921504606846976:=qSl hw (i:=c.G.length) BF;refine bO (hE.fn Tryz.func87) O O O (fun R=>?_);simp only[dS,uV,uW];refine CU ?_;refine BH (KD (n:=c.G.length+1) hE hQ oO oO hW hU hq hc hV) O ?_;refine Bz ?_;refine uU (dA (hE.t O) (fun b5=>?_));refine IP ?_;cases r with
 |letter b=>
  have hA:len (c.G++[Rl.letter b]) (c.G.length+1)=1:=qGy (b:=b) BF
  refine Df ?_
  refine uN 10 ([cells cc [.slice rq c.G.length rc,.slice lq c.G.length lc,.map (some nb)] 88,cells b5 [.int .i64 (Rl.kind ((Rl.letter b)):Nat),.int .u8 (Rl.byte ((Rl.letter b)):Nat),.int .i64 (Rl.left ((Rl.letter b)):Nat),.int .i64 (Rl.right ((Rl.letter b)):Nat),.int .i64 (Rl.times ((Rl.letter b)):Nat)] 111]) ?_
  refine Bw ?_
  apply dG 5 O oK
  ·(apply bV rfl (hE.t rfl) rfl;(repeat(first |rfl|assumption|constructor));done)
  ·rfl
  apply fE 6 O oK O
  refine aU (hE.t O) (hE.t O) O O O (fun hS=>?_)
  refine uE ?_
  apply fE 7 O oK O
  refine BJ (fun hB hC hL hM hD hF=>?_)
  refine uE ?_
  apply dG 8 O oK
  ·exact bA O
  ·rfl
  apply dG 9 O oK
  ·exact EC O
  ·rfl
  apply gW O oK oK O
  refine uS ?_
  refine Bv ?_
  obtain rfl:hM=Cx (c.G++[(Rl.letter b)]):=by rw[hF,XN];rfl
  obtain rfl:hL=(c.G++[(Rl.letter b)]).length:=by rw[hD,aa];rfl
  refine Br ?_
  refine uU (aU (hE.t O) (hE.t O) O O O (fun hT=>?_))
  refine uU (BJ (fun hH hI hN hO hJ hK=>?_))
  refine Bw ?_
  obtain rfl:hO=Bg (DN (c.G++[(Rl.letter b)])):=by rw[hK,XF,iF,hA];rfl
  obtain rfl:hN=(c.G++[(Rl.letter b)]).length:=by rw[hJ,aa];rfl
  refine fF (fZ (ps:=[cells cc [.slice (some ⟨hB,0,none⟩) (c.G++[(Rl.letter b)]).length hC,.slice (some ⟨hH,0,none⟩) (c.G++[(Rl.letter b)]).length hI,.map (some nb)] 88,sl (some ⟨hB,0,none⟩) hC 111 5 (c.G++[(Rl.letter b)]).length (Cx (c.G++[(Rl.letter b)])),sl (some ⟨hH,0,none⟩) hI 3 1 (c.G++[(Rl.letter b)]).length (Bg (DN (c.G++[(Rl.letter b)]))),dY nb (Cf c.N)]) (p:=FF cc ⟨c.G++[(Rl.letter b)],c.N⟩) uK (fun k h=>⟨⟨some ⟨hB,0,none⟩,hC,some ⟨hH,0,none⟩,hI,nb⟩,h⟩)) ?_
  refine Bi ?_
  exact uZ O (.tmp O .nil) ⟨O,O⟩
 |pair x y=>
  obtain⟨o1,o2,o3,o4⟩:=hQ
  have e1:(Rl.pair x y).left=x:=rfl
  have e2:(Rl.pair x y).right=y:=rfl
  have hA:len (c.G++[Rl.pair x y]) (c.G.length+1)=len c.G x+len c.G y:=by
   rw[Xg (l:=x) (r:=y) BF ⟨o1,o2,o3,o4⟩,jB _ oO,jB _ oO]
  have hP:=hw.short (c.G.length+1)
  rw[hA]at hP
  have q1:(DN c.G)[x-1]?=some (len c.G x):=by
   have:=YN (G:=c.G) (i:=x-1) oO;rwa [xu o1]at this
  have q2:(DN c.G)[y-1]?=some (len c.G y):=by
   have:=YN (G:=c.G) (i:=y-1) oO;rwa [xu oO]at this
  have f0:=fT q1 ((((Rl.pair x y).left:Nat):Int)-1).toNat oO
  have f1:=fT q2 ((((Rl.pair x y).right:Nat):Int)-1).toNat oO
  refine iO (p:=sl lq lc 3 1 c.G.length (Bg (DN c.G))) uK (fun _ h=>eG h oO) ?_
  rintro⟨gl,rfl⟩
  refine Bv ?_
  refine uH ([cells cc [.slice rq c.G.length rc,.slice (some ⟨gl,0,none⟩) c.G.length lc,.map (some nb)] 88,cells b5 [.int .i64 (Rl.kind ((Rl.pair x y)):Nat),.int .u8 (Rl.byte ((Rl.pair x y)):Nat),.int .i64 (Rl.left ((Rl.pair x y)):Nat),.int .i64 (Rl.right ((Rl.pair x y)):Nat),.int .i64 (Rl.times ((Rl.pair x y)):Nat)] 111,sl (some ⟨gl,0,none⟩) lc 3 1 c.G.length (Bg (DN c.G))]) ?_
  refine Cw ?_
  apply dH 18 O oK O
  refine uC (qQz hE hP) O ?_
  rintro _ _⟨rfl,rfl⟩
  simp only[uV,uW]
  refine uE ?_
  refine CX ?_
  obtain⟨lq,hR⟩:∃lq:Option Addr,lq=some ⟨gl,0,none⟩:=⟨_,rfl⟩
  rw[<-hR]
  refine CG ?_
  refine uN 10 ([cells cc [.slice rq c.G.length rc,.slice lq c.G.length lc,.map (some nb)] 88,cells b5 [.int .i64 (Rl.kind ((Rl.pair x y)):Nat),.int .u8 (Rl.byte ((Rl.pair x y)):Nat),.int .i64 (Rl.left ((Rl.pair x y)):Nat),.int .i64 (Rl.right ((Rl.pair x y)):Nat),.int .i64 (Rl.times ((Rl.pair x y)):Nat)] 111]) ?_
  refine Bw ?_
  apply dG 5 O oK
  ·(apply bV rfl (hE.t rfl) rfl;(repeat(first |rfl|assumption|constructor));done)
  ·rfl
  apply fE 6 O oK O
  refine aU (hE.t O) (hE.t O) O O O (fun hS=>?_)
  refine uE ?_
  apply fE 7 O oK O
  refine BJ (fun hB hC hL hM hD hF=>?_)
  refine uE ?_
  apply dG 8 O oK
  ·exact bA O
  ·rfl
  apply dG 9 O oK
  ·exact EC O
  ·rfl
  apply gW O oK oK O
  refine uS ?_
  refine Bv ?_
  obtain rfl:hM=Cx (c.G++[(Rl.pair x y)]):=by rw[hF,XN];rfl
  obtain rfl:hL=(c.G++[(Rl.pair x y)]).length:=by rw[hD,aa];rfl
  refine Br ?_
  refine uU (aU (hE.t O) (hE.t O) O O O (fun hT=>?_))
  refine uU (BJ (fun hH hI hN hO hJ hK=>?_))
  refine Bw ?_
  obtain rfl:hO=Bg (DN (c.G++[(Rl.pair x y)])):=by rw[hK,XF,iF,hA];rfl
  obtain rfl:hN=(c.G++[(Rl.pair x y)]).length:=by rw[hJ,aa];rfl
  refine fF (fZ (ps:=[cells cc [.slice (some ⟨hB,0,none⟩) (c.G++[(Rl.pair x y)]).length hC,.slice (some ⟨hH,0,none⟩) (c.G++[(Rl.pair x y)]).length hI,.map (some nb)] 88,sl (some ⟨hB,0,none⟩) hC 111 5 (c.G++[(Rl.pair x y)]).length (Cx (c.G++[(Rl.pair x y)])),sl (some ⟨hH,0,none⟩) hI 3 1 (c.G++[(Rl.pair x y)]).length (Bg (DN (c.G++[(Rl.pair x y)]))),dY nb (Cf c.N)]) (p:=FF cc ⟨c.G++[(Rl.pair x y)],c.N⟩) uK (fun k h=>⟨⟨some ⟨hB,0,none⟩,hC,some ⟨hH,0,none⟩,hI,nb⟩,h⟩)) ?_
  refine Bi ?_
  exact uZ O (.tmp O .nil) ⟨O,O⟩
 |power x k=>
  obtain⟨o1,o2,o3⟩:=hQ
  have e1:(Rl.power x k).left=x:=rfl
  have e2:(Rl.power x k).times=k:=rfl
  have hA:len (c.G++[Rl.power x k]) (c.G.length+1)=len c.G x*k:=by
   rw[pM (x:=x) (k:=k) BF ⟨o1,o2,o3⟩,jB _ oO,oN]
  have hP:=hw.short (c.G.length+1)
  rw[hA]at hP
  have hX:1<=len c.G x:=by
   have:=hw.pos x o1 (by rw[aa];omega);rwa [jB _ oO]at this
  have q1:(DN c.G)[x-1]?=some (len c.G x):=by
   have:=YN (G:=c.G) (i:=x-1) oO;rwa [xu o1]at this
  have f0:=fT q1 ((((Rl.power x k).left:Nat):Int)-1).toNat oO
  refine iO (p:=sl lq lc 3 1 c.G.length (Bg (DN c.G))) uK (fun _ h=>eG h oO) ?_
  rintro⟨gl,rfl⟩
  refine Br ?_
  refine uH ([cells cc [.slice rq c.G.length rc,.slice (some ⟨gl,0,none⟩) c.G.length lc,.map (some nb)] 88,cells b5 [.int .i64 (Rl.kind ((Rl.power x k)):Nat),.int .u8 (Rl.byte ((Rl.power x k)):Nat),.int .i64 (Rl.left ((Rl.power x k)):Nat),.int .i64 (Rl.right ((Rl.power x k)):Nat),.int .i64 (Rl.times ((Rl.power x k)):Nat)] 111,sl (some ⟨gl,0,none⟩) lc 3 1 c.G.length (Bg (DN c.G))]) ?_
  refine Bo ?_
  apply dH 11 O oK O
  refine uC (qWz hE hP hX oO) O ?_
  rintro _ _⟨rfl,rfl⟩
  simp only[uV,uW]
  refine uE ?_
  refine CX ?_
  obtain⟨lq,hR⟩:∃lq:Option Addr,lq=some ⟨gl,0,none⟩:=⟨_,rfl⟩
  rw[<-hR]
  refine CG ?_
  refine uN 10 ([cells cc [.slice rq c.G.length rc,.slice lq c.G.length lc,.map (some nb)] 88,cells b5 [.int .i64 (Rl.kind ((Rl.power x k)):Nat),.int .u8 (Rl.byte ((Rl.power x k)):Nat),.int .i64 (Rl.left ((Rl.power x k)):Nat),.int .i64 (Rl.right ((Rl.power x k)):Nat),.int .i64 (Rl.times ((Rl.power x k)):Nat)] 111]) ?_
  refine Bw ?_
  apply dG 5 O oK
  ·(apply bV rfl (hE.t rfl) rfl;(repeat(first |rfl|assumption|constructor));done)
  ·rfl
  apply fE 6 O oK O
  refine aU (hE.t O) (hE.t O) O O O (fun hS=>?_)
  refine uE ?_
  apply fE 7 O oK O
  refine BJ (fun hB hC hL hM hD hF=>?_)
  refine uE ?_
  apply dG 8 O oK
  ·exact bA O
  ·rfl
  apply dG 9 O oK
  ·exact EC O
  ·rfl
  apply gW O oK oK O
  refine uS ?_
  refine Bv ?_
  obtain rfl:hM=Cx (c.G++[(Rl.power x k)]):=by rw[hF,XN];rfl
  obtain rfl:hL=(c.G++[(Rl.power x k)]).length:=by rw[hD,aa];rfl
  refine Br ?_
  refine uU (aU (hE.t O) (hE.t O) O O O (fun hT=>?_))
  refine uU (BJ (fun hH hI hN hO hJ hK=>?_))
  refine Bw ?_
  obtain rfl:hO=Bg (DN (c.G++[(Rl.power x k)])):=by rw[hK,XF,iF,hA];rfl
  obtain rfl:hN=(c.G++[(Rl.power x k)]).length:=by rw[hJ,aa];rfl
  refine fF (fZ (ps:=[cells cc [.slice (some ⟨hB,0,none⟩) (c.G++[(Rl.power x k)]).length hC,.slice (some ⟨hH,0,none⟩) (c.G++[(Rl.power x k)]).length hI,.map (some nb)] 88,sl (some ⟨hB,0,none⟩) hC 111 5 (c.G++[(Rl.power x k)]).length (Cx (c.G++[(Rl.power x k)])),sl (some ⟨hH,0,none⟩) hI 3 1 (c.G++[(Rl.power x k)]).length (Bg (DN (c.G++[(Rl.power x k)]))),dY nb (Cf c.N)]) (p:=FF cc ⟨c.G++[(Rl.power x k)],c.N⟩) uK (fun k h=>⟨⟨some ⟨hB,0,none⟩,hC,some ⟨hH,0,none⟩,hI,nb⟩,h⟩)) ?_
  refine Bi ?_
  exact uZ O (.tmp O .nil) ⟨O,O⟩
end
section
variable {E:Bp}
def Oe (N:List UInt8->Option Nat)(nm:List UInt8)(k:Nat):xJ (Cf N) nm (BK k)=Cf (Cq N (nm,k)):=by
 funext x;unfold xJ Cf Cq;by_cases e:x=nm
 ·rw[if_pos e,if_pos e];rfl
 rw[if_neg e,if_neg e]
def Od (N:List UInt8->Option Nat)(nm:List UInt8):TB (Cf N) nm=Cf (FC N nm):=by
 funext x;unfold TB Cf FC;by_cases e:x=nm
 ·rw[if_pos e,if_pos e];rfl
 rw[if_neg e,if_neg e]
def qTs (hE:BP E){cc k c nm t Bs a cp q}(hA:FM nm)(hk:k<=c.G.length)(hG:c.G.length<=1048576)(hB:Bs=eY nm++(BS k++t))(hq:Cv E.w0 a (Bd Bs) q)(hc:Bs.length<=cp)(hD:Bs.length<=1099511627776):
  Ct E 88 [uPt cc,.slice a Bs.length cp] [FF cc c,q] (fun v Q=>v= BK ((eY nm++BS k).length)/\Q=[FF cc ⟨c.G,Cq c.N (nm,k)⟩,q]):=by
 have hI:Bs.length=(eY nm).length+(BS k++t).length:=by rw[hB,aa]
 have hF:Bs.drop (eY nm).length=BS k++t:=by rw[hB];exact Aq
 have hC:=kP (k:=(eY nm).length) hq hc;have hJ:(eY nm++BS k).length=(eY nm).length+(BS k).length:=aa;have hH:(BS k++t).length=(BS k).length+t.length:=aa;rw[hF]at hC;refine Sl.ct_open (p:=FF cc c) (ps:=fun i:IG=>[cells cc [.slice i.rq (c).G.length i.rc,.slice i.lq (c).G.length i.lc,.map (some i.nb)] 88,sl i.rq i.rc 111 5 (c).G.length (Cx (c).G),sl i.lq i.lc 3 1 (c).G.length (Bg (DN (c).G)),dY i.nb (Cf (c).N)]) (fun k h=>h) ?_;rintro⟨rq,rc,lq,lc,nb⟩;simp only;refine bO (hE.fn Tryz.func88) O O O (fun R=>?_);simp only[dS,uV,uW];refine Br ?_;refine uX (yC (mx:=32) hE hA.1 hA.2 oO hB hq hc hD) O ?_;rintro _ _⟨g,rfl,rfl⟩;simp only[uV,uW];refine Dv ?_;refine bE O (fun c1=>?_) (fun c1=>?_)
 ·exfalso;have:=hA.1;omega
 refine CB ?_;refine uB (jZ (l:=(eY nm).length) (h:=Bs.length) O (hE.t O) ⟨_,O⟩ O oO oO) ?_;refine BU 26 (.slice (Gq a cp (eY nm).length) (BS k++t).length (cp-(eY nm).length)) O (au (fun z=>Value.slice _ z _) oO) ?_;refine BH (yB (n:=k) (t:=t) hE oO O hC) O ?_;refine IP ?_;refine bE O (fun c2=>?_) (fun c2=>?_)
 ·exfalso;omega
 have hK:Cv E.w0 (BM g) (Bd nm) (sl (BM g) nm.length 5 1 nm.length (Bd nm)):=sK (fK _) (fun _=>⟨g,O⟩);refine CG ?_;refine uN 8 ([cells cc [.slice rq c.G.length rc,.slice lq c.G.length lc,.map (some nb)] 88,sl (BM g) nm.length 5 1 nm.length (Bd nm)]) ?_;refine Bw ?_;refine uT 5 O (xO (q:=sl (BM g) nm.length 5 1 nm.length (Bd nm)) (src:=44) (dst:=9) (e:=5) O (hE.t O) (hE.t O) (hE.t O) (by assumption) (by((repeat constructor);done))) ?_;apply dG 6 O oK
 ·exact aB O
 ·rfl
 apply dG 7 O oK
 ·exact uAc O
 ·rfl
 apply gW O oK oK O;apply qP (kt:=9) (et:=3) hE.uu hE.uu O O O
 ·exact uK
 refine Bv ?_;rw[Oe];refine fF (fZ (ps:=[cells cc [.slice rq c.G.length rc,.slice lq c.G.length lc,.map (some nb)] 88,sl rq rc 111 5 c.G.length (Cx c.G),sl lq lc 3 1 c.G.length (Bg (DN c.G)),dY nb (Cf (Cq c.N (nm,k)))]) (p:=FF cc ⟨c.G,Cq c.N (nm,k)⟩) uK (fun k h=>⟨⟨rq,rc,lq,lc,nb⟩,h⟩)) ?_;refine Bw ?_;refine BU 53 (BK ((eY nm++BS k).length)) O (bW oO) ?_;refine Bz ?_;exact uZ O (.tmp O .nil) ⟨O,O⟩
def qOk (hE:BP E){cc c nm t Bs a cp q}(hA:FM nm)(hB:Bs=eY nm++t)(hq:Cv E.w0 a (Bd Bs) q)(hc:Bs.length<=cp)(hC:Bs.length<=1099511627776):
  Ct E 89 [uPt cc,.slice a Bs.length cp] [FF cc c,q] (fun v Q=>v= BK ((eY nm).length)/\Q=[FF cc ⟨c.G,FC c.N nm⟩,q]):=by
 refine Sl.ct_open (p:=FF cc c) (ps:=fun i:IG=>[cells cc [.slice i.rq (c).G.length i.rc,.slice i.lq (c).G.length i.lc,.map (some i.nb)] 88,sl i.rq i.rc 111 5 (c).G.length (Cx (c).G),sl i.lq i.lc 3 1 (c).G.length (Bg (DN (c).G)),dY i.nb (Cf (c).N)]) (fun k h=>h) ?_;rintro⟨rq,rc,lq,lc,nb⟩;simp only;refine bO (hE.fn Tryz.func89) O O O (fun R=>?_);simp only[dS,uV,uW];refine Br ?_;refine uX (yC (mx:=32) hE hA.1 hA.2 oO hB hq hc hC) O ?_;rintro _ _⟨g,rfl,rfl⟩;simp only[uV,uW];refine Dv ?_;refine bE O (fun c1=>?_) (fun c1=>?_)
 ·exfalso;have:=hA.1;omega
 have hD:Cv E.w0 (BM g) (Bd nm) (sl (BM g) nm.length 5 1 nm.length (Bd nm)):=sK (fK _) (fun _=>⟨g,O⟩);refine CG ?_;refine uH ([cells cc [.slice rq c.G.length rc,.slice lq c.G.length lc,.map (some nb)] 88,sl (BM g) nm.length 5 1 nm.length (Bd nm)]) ?_;refine Bw ?_;refine uD 5 O (xO (q:=sl (BM g) nm.length 5 1 nm.length (Bd nm)) (src:=44) (dst:=9) (e:=5) O (hE.t O) (hE.t O) (hE.t O) (by assumption) (by((repeat constructor);done))) ?_;apply dH 6 O oK O;apply qUk (kt:=9) (et:=3) hE.uu hE.uu O O
 ·exact uK
 refine uE ?_;refine CL ?_;rw[Od];refine fF (fZ (ps:=[cells cc [.slice rq c.G.length rc,.slice lq c.G.length lc,.map (some nb)] 88,sl rq rc 111 5 c.G.length (Cx c.G),sl lq lc 3 1 c.G.length (Bg (DN c.G)),dY nb (Cf (FC c.N nm))]) (p:=FF cc ⟨c.G,FC c.N nm⟩) uK (fun k h=>⟨⟨rq,rc,lq,lc,nb⟩,h⟩)) ?_;refine Bi ?_;exact uZ O (.tmp O .nil) ⟨O,O⟩
end
section
variable {E:Bp}
def Ee:Nat->List Rl->List (List UInt8)
 |_,[]=>[]
 |k,r::rs=>Co (k+1) r::Ee (k+1) rs
def qMo:∀(k:Nat)(l:List Rl),(Ee k l).flatten=FR k l
 |_,[]=>rfl
 |k,r::rs=>by
  rw[Ee,ko,qMo (k+1) rs];rfl
def Uy:∀(k:Nat)(l:List Rl),(Ee k l).length=l.length
 |_,[]=>rfl
 |k,r::rs=>by rw[Ee,az,Uy (k+1) rs,az]
def VU:∀(k:Nat)(l:List Rl)(i:Nat),(Ee k l)[i]?=(l[i]?).map fun r=>Co (k+i+1) r
 |_,[],i=>by simp[Ee]
 |k,r::rs,0=>by simp[Ee]
 |k,r::rs,i+1=>by
  rw[Ee,rz,VU (k+1) rs i,rz];rw[show k+1+i+1=k+(i+1)+1 by omega]
def PZ {A B}(hw:Wf (A++B)):Wf A:=by
 refine⟨fun i r h=>hw.ok i r ?_,fun i j r h1 h2=>hw.nodup i j r ?_ ?_,fun i=>?_,?_⟩
 ·rw[aj (ae.1 h).1];exact h
 ·rw[aj (ae.1 h1).1];exact h1
 ·rw[aj (ae.1 h2).1];exact h2
 ·rcases fw A.length i with hi|hi
  ·rw[Tm hi];exact av _
  have:=hw.short i;rwa [jB B hi]at this
 have:=hw.room;rw[aa]at this;omega
structure Gg (G:List Rl)(t:Du):Prop where
 wf:Wf (G++t.new)
 sets:∀p∈t.sets,FM p.1/\p.2<=(G++t.new).length
 drops:∀x∈t.drops,FM x
def qXv (l:List (List UInt8×Nat)):(l.map fun p=>eY p.1++BS p.2).flatten=GY l:=by
 unfold GY;rw[List.flatMap_def]
def KQ (l:List (List UInt8)):(l.map eY).flatten=Mw l:=by
 unfold Mw;rw[List.flatMap_def]
def qKz (l:List UInt8):1<=(eY l).length:=by
 unfold eY;rw[aa];have:=jG l.length;omega
def qTd (hE:BP E){cc:Nat}{c:Cn}{t:Du}{a:Option Addr}{cp:Nat}{q:HP}(ht:Gg c.G t)(hq:Cv E.w0 a (Bd (t.body c.G.length)) q)(hc:(t.body c.G.length).length<=cp)(hO:(t.body c.G.length).length<=1000000000)(hs:t.sets.length<=1000000)(hX:t.drops.length<=1000000):
  Ct E 56 [uPt cc,.slice a (t.body c.G.length).length cp] [FF cc c,q] (fun v Q=>v= .bool true/\Q=[FF cc (c.app t),q]):=by
 obtain⟨hw,hB,hA⟩:=ht;have hY:fJ=1048576:=rfl;have hC:=hw.room;rw[aa]at hC;obtain⟨B3,hI⟩:∃B,B=BS t.drops.length++Mw t.drops:=⟨_,rfl⟩;obtain⟨B2,hJ⟩:∃B,B=BS t.sets.length++(GY t.sets++B3):=⟨_,rfl⟩;obtain⟨B1,hK⟩:∃B,B=t.body c.G.length:=⟨_,rfl⟩
 have e1:B1=BS (Ee c.G.length t.new).length++((Ee c.G.length t.new).flatten++B2):=by
  rw[Uy,qMo,hJ,hI,hK];rfl
 have e2:B2=BS (t.sets.map fun p=>eY p.1++BS p.2).length++((t.sets.map fun p=>eY p.1++BS p.2).flatten++B3):=by rw[jr,qXv,hJ]
 have e3:B3=BS (t.drops.map eY).length++((t.drops.map eY).flatten++[]):=by rw[jr,KQ,hI,ax]
 rw[<-hK]at hq hc hO ⊢
 have hZ:B2.length<=B1.length:=by
  rw[e1];simp only[aa];omega
 have ha:B3.length<=B2.length:=by
  rw[e2];simp only[aa];omega
 have hP:Fy E.P 87=true:=hE.f oK;have hQ:Fy E.P 88=true:=hE.f oK;have hR:Fy E.P 89=true:=hE.f oK
 have s1:∀i x r a' c',(Ee c.G.length t.new)[i]?=some x->r=((Ee c.G.length t.new).drop (i+1)).flatten++B2->Cv E.w0 a' (Bd (x++r)) q->(x++r).length<=c'->Ct E 87 [uPt cc,.slice a' (x++r).length c'] [FF cc ⟨c.G++t.new.take i,c.N⟩,q] (fun v Q=>v= .int .i64 (x.length:Nat)/\Q=[FF cc ⟨c.G++t.new.take (i+1),c.N⟩,q]):=by
  intro i x r a' c' hx hr hD hF;rw[VU]at hx;obtain⟨ru,hG,rfl⟩:=oz.1 hx;have hb:=(ae.1 hG).1;have hL:(c.G++t.new.take i).length=c.G.length+i:=by rw[aa,ig];omega
  have hM:c.G++t.new.take (i+1)=(c.G++t.new.take i)++[ru]:=by rw[ed,hG,ah];rfl
  have hS:Wf ((c.G++t.new.take i)++[ru]):=by
   rw[<-hM];refine PZ (B:=t.new.drop (i+1)) ?_;rw[ah,dh];exact hw
  have hN:(Co (c.G.length+i+1) ru++r).length<=B1.length:=by
   have e:Ee c.G.length t.new=(Ee c.G.length t.new).take i++Co (c.G.length+i+1) ru::(Ee c.G.length t.new).drop (i+1):=by
    rw[<-lK (by rw[VU,hG];rfl),dh]
   have e9:=au List.length e1;rw[e,hr]at*;simp only[aa,tu,ko]at e9 ⊢;omega
  have:=qTc (cc:=cc) (c:=⟨c.G++t.new.take i,c.N⟩) (r:=ru) (t:=r) (Bs:=Co (c.G.length+i+1) ru++r) (a:=a') (cp:=c') (q:=q) hE hS BD (by simp only[hL]) hD hF oO;simp only[hL]at this;rw[hM];exact this
 have s2:∀i x r a' c',(t.sets.map fun p=>eY p.1++BS p.2)[i]?=some x->r=((t.sets.map fun p=>eY p.1++BS p.2).drop (i+1)).flatten++B3->Cv E.w0 a' (Bd (x++r)) q->(x++r).length<=c'->Ct E 88 [uPt cc,.slice a' (x++r).length c'] [FF cc ⟨c.G++t.new,(t.sets.take i).foldl Cq c.N⟩,q] (fun v Q=>v= .int .i64 (x.length:Nat)/\Q=[FF cc ⟨c.G++t.new,(t.sets.take (i+1)).foldl Cq c.N⟩,q]):=by
  intro i x r a' c' hx hr hD hF;rw[bn]at hx;obtain⟨p,hp,rfl⟩:=oz.1 hx;obtain⟨h1,h2⟩:=hB p (ak hp)
  have hN:((eY p.1++BS p.2)++r).length<=B2.length:=by
   have e:(t.sets.map fun p=>eY p.1++BS p.2)=(t.sets.map fun p=>eY p.1++BS p.2).take i++(eY p.1++BS p.2)::(t.sets.map fun p=>eY p.1++BS p.2).drop (i+1):=by
    rw[<-lK (by rw[bn,hp];rfl),dh]
   have e9:=au List.length e2;rw[e]at e9;rw[hr];simp only[aa,tu,ko]at e9 ⊢;omega
  have hH:(t.sets.take (i+1)).foldl Cq c.N=Cq ((t.sets.take i).foldl Cq c.N) p:=by rw[ed,hp];simp
  have:=qTs (cc:=cc) (k:=p.2) (c:=⟨c.G++t.new,(t.sets.take i).foldl Cq c.N⟩) (nm:=p.1) (t:=r) (Bs:=(eY p.1++BS p.2)++r) (a:=a') (cp:=c') (q:=q) hE h1 h2 (by simp only[aa];omega) (by rw[ah]) hD hF oO;rw[hH];exact this
 have s3:∀i x r a' c',(t.drops.map eY)[i]?=some x->r=((t.drops.map eY).drop (i+1)).flatten++[]->Cv E.w0 a' (Bd (x++r)) q->(x++r).length<=c'->Ct E 89 [uPt cc,.slice a' (x++r).length c'] [FF cc ⟨c.G++t.new,(t.drops.take i).foldl FC (t.sets.foldl Cq c.N)⟩,q] (fun v Q=>v= .int .i64 (x.length:Nat)/\Q=[FF cc ⟨c.G++t.new,(t.drops.take (i+1)).foldl FC (t.sets.foldl Cq c.N)⟩,q]):=by
  intro i x r a' c' hx hr hD hF;rw[bn]at hx;obtain⟨p,hp,rfl⟩:=oz.1 hx;have h1:=hA p (ak hp)
  have hN:(eY p++r).length<=B3.length:=by
   have e:t.drops.map eY=(t.drops.map eY).take i++eY p::(t.drops.map eY).drop (i+1):=by
    rw[<-lK (by rw[bn,hp];rfl),dh]
   have e9:=au List.length e3;rw[e]at e9;rw[hr];simp only[aa,tu,ko]at e9 ⊢;omega
  have hH:(t.drops.take (i+1)).foldl FC (t.sets.foldl Cq c.N)=FC ((t.drops.take i).foldl FC (t.sets.foldl Cq c.N)) p:=by rw[ed,hp];simp
  have:=qOk (cc:=cc) (c:=⟨c.G++t.new,(t.drops.take i).foldl FC (t.sets.foldl Cq c.N)⟩) (nm:=p) (t:=r) (Bs:=eY p++r) (a:=a') (cp:=c') (q:=q) hE h1 rfl hD hF oO;rw[hH];exact this
 have p1:∀x∈Ee c.G.length t.new,1<=x.length:=fun x hx=>by
  obtain⟨i,hi⟩:=mf hx;rw[VU]at hi;obtain⟨ru,_,rfl⟩:=oz.1 hi;cases ru<;>simp[Co]
 have p2:∀x∈(t.sets.map fun p=>eY p.1++BS p.2),1<=x.length:=fun x hx=>by
  obtain⟨p,_,rfl⟩:=jg.1 hx;have:=qKz p.1;simp only[aa];omega
 have p3:∀x∈t.drops.map eY,1<=x.length:=fun x hx=>by
  obtain⟨p,_,rfl⟩:=jg.1 hx;exact qKz p
 have z1:FF cc c=FF cc ⟨c.G++t.new.take 0,c.N⟩:=by rw[oJ,ax]
 have z2:(⟨c.G++t.new.take (Ee c.G.length t.new).length,c.N⟩:Cn)=⟨c.G++t.new,(t.sets.take 0).foldl Cq c.N⟩:=by rw[Uy,nu];rfl
 have z3:(⟨c.G++t.new,(t.sets.take (t.sets.map fun p=>eY p.1++BS p.2).length).foldl Cq c.N⟩:Cn)=⟨c.G++t.new,(t.drops.take 0).foldl FC (t.sets.foldl Cq c.N)⟩:=by rw[jr,nu];rfl
 have z4:(⟨c.G++t.new,(t.drops.take (t.drops.map eY).length).foldl FC (t.sets.foldl Cq c.N)⟩:Cn)=c.app t:=by rw[jr,nu];rfl
 have nl1:(Ee c.G.length t.new).length<=1099511627776:=by rw[Uy];omega
 have nl2:(t.sets.map fun p=>eY p.1++BS p.2).length<=1099511627776:=by rw[jr];omega
 have nl3:(t.drops.map eY).length<=1099511627776:=by rw[jr];omega
 rw[z1];refine bO (hE.fn Tryz.func56) O O O (fun R=>?_);simp only[dS,uV,uW];refine Bu ?_;refine uB (xM O) ?_;refine uX (zO (items:=Ee c.G.length t.new) (t:=B2) (J:=fun i=>FF cc ⟨c.G++t.new.take i,c.N⟩) hE hP e1 hq hc oO nl1 p1 s1) O ?_;rintro _ _⟨a2,cp2,rfl,hT,hU,rfl⟩;rw[z2];simp only[uV,uW];refine DW ?_;refine uB (xM O) ?_;refine uX (zO (items:=t.sets.map fun p=>eY p.1++BS p.2) (t:=B3) (J:=fun i=>FF cc ⟨c.G++t.new,(t.sets.take i).foldl Cq c.N⟩) hE hQ e2 hT hU oO nl2 p2 s2) O ?_;rintro _ _⟨a3,cp3,rfl,hV,hW,rfl⟩;rw[z3];simp only[uV,uW];refine DW ?_;refine uB (xM O) ?_;refine uX (zO (items:=t.drops.map eY) (t:=[]) (J:=fun i=>FF cc ⟨c.G++t.new,(t.drops.take i).foldl FC (t.sets.foldl Cq c.N)⟩) hE hR e3 hV hW oO nl3 p3 s3) O ?_;rintro _ _⟨a4,cp4,rfl,hd,he,rfl⟩;rw[z4];simp only[uV,uW];refine Df ?_;exact uZ O (.tmp O .nil) ⟨O,O⟩
end
section
variable {E:Bp}
def qWe (hE:BP E){xs ys a b c d q r}(hq:Cv E.w0 a (Bd xs) q)(hr:Cv E.w0 b (Bd ys) r):Ct E 127 [.slice a xs.length c,.slice b ys.length d] [q,r] (fun v Q=>v= .bool (decide (xs=ys))/\Q=[q,r]):=by
 refine bO (hE.fn Tryz.func127) O O O (fun R=>?_);simp only[dS,uV,uW];refine Br ?_;refine uB (xO (q:=q) (src:=44) (dst:=9) (e:=5) O (hE.t O) (hE.t O) (hE.t O) (by assumption) uK) ?_;refine Bv ?_;refine uB (xO (q:=r) (src:=44) (dst:=9) (e:=5) O (hE.t O) (hE.t O) (hE.t O) (by assumption) uK) ?_;refine Bw ?_;exact uZ O (.tmp O .nil) ⟨O,O⟩
def qIf (hE:BP E){xs ys zs a b c d q r}(hx:xs=ys++zs)(hq:Cv E.w0 a (Bd xs) q)(hr:Cv E.w0 b (Bd ys) r)(hc:xs.length<=c):Ct E 85 [.slice a xs.length c,.slice b ys.length d] [q,r] (fun v Q=>v= .bool true/\Q=[q,r]):=by
 have hl:xs.length=ys.length+zs.length:=by rw[hx,aa]
 have ht:xs.take ys.length=ys:=by rw[hx];exact xe
 have hA:Cv E.w0 (Gq a c 0) (Bd ys) q:=by
  have:=qNh (m:=ys.length) (kP (k:=0) hq hc);rwa [oU,ht]at this
 refine bO (hE.fn Tryz.func85) O O O (fun R=>?_);simp only[dS,uV,uW];refine CP ?_;refine dV 10 O (fun c1=>?_) (fun c1=>?_)
 ·skip
  refine Bi ?_;refine uB (jZ (l:=0) (h:=ys.length) O (hE.t O) O ⟨_,O⟩ (av _) oO) ?_;refine CG ?_;refine BH (qWe (xs:=ys) (ys:=ys) (a:=Gq a c 0) (c:=c-0) hE hA hr) O ?_;refine Bw ?_;exact uZ O (.tmp O .nil) ⟨au Value.bool BF,O⟩
 exfalso;omega
def qIe (hE:BP E){xs ys zs a b c d q r}(hx:xs=ys++zs)(hq:Cv E.w0 a (Bd xs) q)(hr:Cv E.w0 b (Bd ys) r)(hc:xs.length<=c):Ct E 55 [.slice a xs.length c,.slice b ys.length d] [q,r] (fun v Q=>v= .tuple #[.slice (Gq a c ys.length) zs.length (c-ys.length),.bool true]/\Q=[q,r]):=by
 have hl:xs.length=ys.length+zs.length:=by rw[hx,aa]
 refine bO (hE.fn Tryz.func55) O O O (fun R=>?_);simp only[dS,uV,uW];refine Bo ?_;refine BH (qIf hE hx hq hr hc) O ?_;refine Bo ?_;refine uB (jZ (l:=ys.length) (h:=xs.length) O (hE.t O) ⟨_,O⟩ O oO oO) ?_;refine BU 14 (.slice (Gq a c ys.length) zs.length (c-ys.length)) O (au (fun z=>Value.slice _ z _) oO) ?_;refine Bw ?_;exact uZ O (.tmp O (.tmp O .nil)) ⟨O,O⟩
def Qb:List Rl->List Du->Prop
 |_,[]=>True
 |G,t::ts=>Gg G t/\(t.body G.length).length<=1000000000/\t.sets.length<=1000000/\t.drops.length<=1000000/\Qb (G++t.new) ts
structure Yz where
 i:Nat
 c:Cn
 ts:List Du
def qZp (k:Nat)(t:Du)(ts:List Du):DX k (t::ts)=Fz (t.body k)::DX (k+t.new.length) ts:=rfl
def qZu {w0 g vs}:Cv w0 (BM g) vs (ro g vs):=fun _=>⟨g,0,rfl,fun k h i v hv=>by
 obtain⟨cur,t,z,h1,h2⟩:=h;exact .inr ⟨cur,t,z,h1,by rw[jh];exact h2 i v hv⟩⟩
def Re {l i y}(h:l[i]?=some y)(o:Nat)(ho:o=i):(Il l)[o]?=some (.slice y.1 y.2.2.length y.2.1):=by
 subst ho;unfold Il;rw[bn,h];rfl
def La {l:List Py}{i:Nat}{y:Py}(h:l[i]?=some y){k:PH}(x:FK (l.drop i) k):dW [LX y,FK (l.drop (i+1))] k:=by
 unfold FK at x ⊢;rw[lK h,kz]at x;exact lD (l:=[LX y]) x
def Jo (hE:BP E){cc pc:Nat}{pq:Option Addr}{ys:List Py}{ts:List Du}(hO:Qb [] ts)(hP:ys.map (fun x=>x.2.2)=DX 0 ts) (hn:ys.length<=1000000000):
  Ct E 26 [uPt cc,.slice pq ys.length pc] [FF cc Cn.nil,sl pq pc 44 1 ys.length (Il ys),FK ys] (fun v Q=>v= .bool true/\Q=[FF cc (nL Cn.nil ts)]):=by
 refine bO (hE.fn Tryz.func26) O O O (fun R=>?_);simp only[dS,uV,uW];refine Dv ?_;refine dX (fun x:Yz=>[(0,uPt cc),(11,.slice pq ys.length pc),(12,.int .i64 (ys.length:Nat)),(13,.int .i64 (x.i:Nat))]) (fun x=>[FF cc x.c,sl pq pc 44 1 ys.length (Il ys),FK (ys.drop x.i),R]) (fun x=>ys.length-x.i) (fun x=>x.i<=ys.length/\Qb x.c.G x.ts/\(ys.drop x.i).map (fun x=>x.2.2)=DX x.c.G.length x.ts/\nL x.c x.ts=nL Cn.nil ts) ⟨0,Cn.nil,ts⟩ ⟨av _,hO,hP,O⟩ BC uI ?_;rintro⟨i,c,ts'⟩⟨hi,hI,hC,hD⟩;simp only at hi hI hC hD ⊢;refine CB ?_;refine bE O (fun h1=>?_) (fun h1=>?_)
 ·obtain⟨y,hy⟩:∃y,ys[i]?=some y:=BG;rw[lK hy,kz]at hC;cases ts' with
  |nil=>cases hC
  |cons t ts2=>
   rw[qZp]at hC
   obtain⟨hA,hF⟩:=List.cons.inj hC
   obtain⟨k1,k2,k3,k4,k5⟩:=hI
   obtain⟨B,hB⟩:∃B,B=t.body c.G.length:=⟨_,rfl⟩
   rw[<-hB]at hA k2
   have f0:=Re hy (((i:Nat):Int).toNat) oO
   have he:y.2.2.length=B.length+3:=by rw[hA];rfl
   refine zJ (p:=FK (ys.drop i)) (ps:=fun _:Unit=>[LX y,FK (ys.drop (i+1))]) uK (fun k h=>⟨(),La hy h⟩) ?_
   rintro⟨⟩
   refine iO (p:=sl pq pc 44 1 ys.length (Il ys)) uK (fun _ h=>eG h oO) ?_
   rintro⟨gp,rfl⟩
   refine iO (p:=LX y) uK (fun _ h=>And.intro (lX h).1 (eG h oO)) ?_
   rintro⟨hJ,gy,hQ⟩
   have hK:Cv E.w0 y.1 (Bd y.2.2) (LX y):=sK (fK _) (fun _=>⟨gy,hQ⟩)
   have hR:y.2.2=[69,71]++(3::B):=hA
   have hS:y.2.2.drop 2=3::B:=by rw[hA];rfl
   have hL:=kP (k:=2) hK hJ
   rw[hS]at hL
   obtain⟨g2,o2,hT,hU⟩:=hL (by simp[Bd])
   have f3:(Bd (3::B))[0]?=some (.int .u8 3):=rfl
   refine CU ?_
   refine uU (aU (hE.t O) (hE.t O) O O O (fun hV=>?_))
   refine uU (qYu O (hE.t O) (hE.t O) uK ?_)
   refine BH (qIe (xs:=y.2.2) (ys:=[69,71]) (zs:=3::B) (q:=LX y) (r:=ro hV [.int .u8 69,.int .u8 71]) hE hR hK qZu hJ) O ?_
   rw[show([69,71]:List UInt8).length=2 from rfl,hT]
   have hW:Cv E.w0 (some ⟨g2,o2,none⟩) (Bd (3::B)) (LX y):=fun _=>⟨g2,o2,O,hU⟩
   have hM:(3::B).length<=y.2.1-2:=by
    rw[az];omega
   have hf:(3::B).length=B.length+1:=rfl
   have hN:=kP (k:=1) hW hM
   rw[show(3::B).drop 1=B from rfl]at hN
   have hX:(0+(Bd B).length)*1<=140737488355328:=by
    rw[fK];omega
   have hY:0+(Bd B).length<=maxLen:=by
    rw[fK];unfold maxLen;omega
   refine DW ?_
   refine dV 31 O (fun g1=>?_) (fun g1=>?_)
   ·exfalso
    omega
   refine DW ?_
   refine BU 40 (.int .u8 1) O (bW (by decide)) ?_
   refine DW ?_
   refine fF (fU (t:=5) (sz:=1)) ?_
   refine CB ?_
   refine uB (jZ (l:=1) (h:=(3::B).length) O (hE.t O) ⟨_,O⟩ O oO hM) ?_
   refine BU 46 (.slice (Gq (some ⟨g2,o2,none⟩) (y.2.1-2) 1) B.length (y.2.1-2-1)) O (au (fun z=>Value.slice _ z _) oO) ?_
   refine uU (jF (us:=Bd B) (q:=LX y) (hE.t O) (hE.t O) O O O (fK _).symm hN uK uK (gG _) hX hY (fun pt ct m1 y1 hZ ha=>?_))
   obtain rfl:m1=B.length:=by rw[hZ,fK,jh]
   obtain rfl:y1=Bd B:=ha
   refine Bu ?_
   refine BU 51 (.int .u8 2) O (bW (by decide)) ?_
   refine Bz ?_
   refine iO (p:=sl pt ct 5 1 B.length (Bd B)) uK (fun _ h=>And.intro (lX h).1 (fun hG:0<B.length=>eG h hG)) ?_
   rintro⟨hb,hc⟩
   have hd:Cv E.w0 pt (Bd B) (sl pt ct 5 1 B.length (Bd B)):=sK (fK _) hc
   subst hB
   refine Bu ?_
   refine BH (qTd (c:=c) (t:=t) hE k1 hd hb k2 k3 k4) O ?_
   refine Bo ?_
   refine bS (ι:=Yz) (j:=⟨i+1,c.app t,ts2⟩) ⟨BD,k5,?_,hD⟩ BD ⟨rfl,rfl,rfl,au some (bW BD),trivial⟩ uI
   show _=DX (c.G++t.new).length ts2
   rw[aa]
   exact hF
 obtain rfl:i=ys.length:=by omega
 rw[uj]at hC;cases ts' with
 |cons t ts2=>cases hC
 |nil=>
  have hH:c=nL Cn.nil ts:=hD
  rw[hH]
  refine Bo ?_
  exact uZ O (.tmp O .nil) ⟨O,O⟩
end
section
variable {E:Bp}{Es:List Bj}{s most:Nat}
def qOj (hE:BP E){p a n0 n1 x0}(hn:FM n1)(hA:n0≠n1):
  Ct E 24 [uPt a,BN n1] [Dt a n0 n1 x0 none p] (fun v Q=>v= .nilIface/\Q=[Dt a n0 n1 x0 none p]):=by
 refine bO (hE.fn Tryz.func24) O O O (fun R=>?_);simp only[dS,uV,uW];refine Bc ?_;refine jM (cO (p:=Dt a n0 n1 x0 none p) (p':=Dt a n1 n0 none x0 p) uK (fun k h=>qRf hA h)) ?_;refine BH (qTj hE hn) O ?_;refine jM (cO (p:=Dt a n1 n0 none x0 p) (p':=Dt a n0 n1 x0 none p) uK (fun k h=>qRf (Ne.symm hA) h)) ?_;refine Bo ?_;refine BH (qWv hE) O ?_;refine Bc ?_;exact uZ O (.tmp O .nil) ⟨O,O⟩
def YS {r M id}(h1:1<=id)(hr:(BO (Es++M))[id-1]?=some r)(hM:M=[]\/∃x:Bj,M=[x]/\x.r=r) (hA:r∉BO Es):id=Es.length+1/\∃x:Bj,M=[x]/\x.r=r:=by
 rcases hM with rfl|⟨x,rfl,hx⟩
 ·rw[ax]at hr;exact absurd (ak hr) hA
 refine⟨?_,x,O,hx⟩;rw[dB]at hr;rcases fw (id-1) (BO Es).length with h| h
 ·rw[aj h]at hr;exact absurd (ak hr) hA
 have hl:=(ae.1 hr).1;rw[aa]at hl;rw[bQ]at h hl;have:(BO [x]).length=1:=rfl;omega
def Nc (hE:BP E){r ids g c}(hI:r.ok (Es.length+1))(hH:r∉BO Es)(hA:Es.length<most)(hC:len (BO Es++[r]) (Es.length+1)<=dC)(hB:∀k,k<=Es.length->ids[k]?=some k):
  Ct E 57 [uPt s,.agg #[BK (Rl.kind (r)),.int .u8 (Rl.byte (r):Nat),BK (Rl.left (r)),BK (Rl.right (r)),BK (Rl.times (r))],.slice (BM g) ids.length c] [bR s most Es,sl (BM g) c 41 1 ids.length (Bg ids)] (fun v Q=>∃x:Bj,v= .tuple #[BL ((Es.length+1:Nat):Int),.nilIface]/\x.r=r/\Q=[bR s most (Es++[x]),sl (BM g) c 41 1 ids.length (Bg ids)]):=by
 have hG:=bQ Es;have hK:Es.length<ids.length:=(ae.1 (hB Es.length (ai _))).1;refine eF (p:=bR s most Es) uK (fun _ h=>dR h) (fun hD=>?_);refine bO (hE.fn Tryz.func57) O O O (fun R=>?_);simp only[dS,uV,uW];refine CL ?_;refine uU (gN O (fun b4=>?_));refine Cw ?_;cases r with
 |letter b=>
  refine CB ?_
  refine uX (qTn hE b hA) O ?_
  rintro _ _⟨M,id,rfl,m1,m2,m3,rfl⟩
  obtain⟨rfl,x,rfl,hx⟩:=YS m1 m2 m3 hH
  simp only[uV,uW]
  refine Bu ?_
  exact uZ O (.tmp O (.tmp O .nil)) ⟨x,O,hx,O⟩
 |pair x y=>
  obtain⟨o1,o2,o3,o4⟩:=hI
  have e1:(Rl.pair x y).left=x:=rfl
  have e2:(Rl.pair x y).right=y:=rfl
  rw[<-hG,Xg (l:=x) (r:=y) BF (by rw[hG];exact⟨o1,o2,o3,o4⟩),jB _ oO,jB _ oO]at hC
  obtain⟨i,rfl⟩:∃i,x=i+1:=⟨x-1,oO⟩
  obtain⟨j,rfl⟩:∃j,y=j+1:=⟨y-1,oO⟩
  obtain⟨xl,hF⟩:∃x,Es[i]?=some x:=BG
  obtain⟨xr,hJ⟩:∃x,Es[j]?=some x:=BG
  have l1:xl.t.length=len (BO Es) (i+1):=by rw[hD.2.1 i xl hF];rfl
  have l2:xr.t.length=len (BO Es) (j+1):=by rw[hD.2.1 j xr hJ];rfl
  have f0:=fT (hB (i+1) oO) (((Rl.pair (i+1) (j+1)).left:Nat):Int).toNat oO
  have f1:=fT (hB (j+1) oO) (((Rl.pair (i+1) (j+1)).right:Nat):Int).toNat oO
  refine Bu ?_
  refine uH ([cells b4 [BK (Rl.kind ((Rl.pair (i+1) (j+1)))),.int .u8 (Rl.byte ((Rl.pair (i+1) (j+1))):Nat),BK (Rl.left ((Rl.pair (i+1) (j+1)))),BK (Rl.right ((Rl.pair (i+1) (j+1)))),BK (Rl.times ((Rl.pair (i+1) (j+1))))] 111,sl (BM g) c 41 1 ids.length (Bg ids)]) ?_
  refine Bo ?_
  apply dH 11 O oK O
  refine uC (KA hE hF hJ oO hA) O ?_
  rintro _ _⟨M,id,rfl,m1,m2,m3,rfl⟩
  obtain⟨rfl,x,rfl,hx⟩:=YS m1 m2 m3 hH
  simp only[uV,uW]
  refine uE ?_
  refine Bu ?_
  exact uZ O (.tmp O (.tmp O .nil)) ⟨x,O,hx,O⟩
 |power x k=>
  obtain⟨o1,o2,o3⟩:=hI
  have e1:(Rl.power x k).left=x:=rfl
  have e2:(Rl.power x k).times=k:=rfl
  rw[<-hG,pM (x:=x) (k:=k) BF (by rw[hG];exact⟨o1,o2,o3⟩),jB _ oO]at hC
  obtain⟨i,rfl⟩:∃i,x=i+1:=⟨x-1,oO⟩
  obtain⟨xl,hF⟩:∃x,Es[i]?=some x:=BG
  have l1:xl.t.length=len (BO Es) (i+1):=by rw[hD.2.1 i xl hF];rfl
  have l3:xl.t.length*k<=dC:=by rw[l1,oN];exact hC
  have f0:=fT (hB (i+1) oO) (((Rl.power (i+1) k).left:Nat):Int).toNat oO
  refine Bq ?_
  refine uH ([cells b4 [BK (Rl.kind ((Rl.power (i+1) k))),.int .u8 (Rl.byte ((Rl.power (i+1) k)):Nat),BK (Rl.left ((Rl.power (i+1) k))),BK (Rl.right ((Rl.power (i+1) k))),BK (Rl.times ((Rl.power (i+1) k)))] 111,sl (BM g) c 41 1 ids.length (Bg ids)]) ?_
  refine Br ?_
  apply dH 8 O oK O
  refine uC (qXc hE hF o3 l3 hA) O ?_
  rintro _ _⟨M,id,rfl,m1,m2,m3,rfl⟩
  obtain⟨rfl,x,rfl,hx⟩:=YS m1 m2 m3 hH
  simp only[uV,uW]
  refine uE ?_
  refine Bi ?_
  exact uZ O (.tmp O (.tmp O .nil)) ⟨x,O,hx,O⟩
end
section
variable {E:Bp}{Es:List Bj}{s most:Nat}
def PG {G}(hw:Wf G){i r}(h:G[i]?=some r):r∉G.take i:=fun hm=>by
 obtain⟨j,hj⟩:=mf hm;rw[ni]at hj;split at hj
 ·have:=hw.nodup i j r h hj;omega
 cases hj
def qVv {cc c}(h:PH)(x:FF cc c h):∃i:IG,dW [cells cc [.slice i.rq (c).G.length i.rc,.slice i.lq (c).G.length i.lc,.map (some i.nb)] 88,sl i.rq i.rc 111 5 (c).G.length (Cx (c).G),sl i.lq i.lc 3 1 (c).G.length (Bg (DN (c).G)),dY i.nb (Cf (c).N)] h:=x
def QT (f:List UInt8->Option Value)(done:List UInt8->Bool):List UInt8->Option Value:=fun x=>if done x=true then f x else none
def KO (f:List UInt8->Option Value):(fun _=>none)=QT f (fun _=>false):=by
 funext x;simp[QT]
def qXq {f:List UInt8->Option Value}{done:List UInt8->Bool}(h:∀k v,f k=some v->done k=true):QT f done=f:=by
 funext x;unfold QT;split
 ·rfl
 rename_i hd
 cases e:f x with
 |none=>rfl
 |some v=>exact absurd (h x v e) hd
def qXr {f:List UInt8->Option Value}{done:List UInt8->Bool}{k v}(h:f k=some v):xJ (QT f done) k v=QT f (fun x=>x==k||done x):=by
 funext x;unfold xJ QT;by_cases e:x=k
 ·subst e;simp[h]
 simp[e]
def Jp (hE:BP E){r ids g c n}(hn:ids.length=n)(hD:r.ok (Es.length+1))(hF:r∉BO Es)(hA:Es.length<most)(hB:len (BO Es++[r]) (Es.length+1)<=dC)(hC:∀k,k<=Es.length->ids[k]?=some k):
  Ct E 57 [uPt s,.agg #[BK (Rl.kind (r)),.int .u8 (Rl.byte (r):Nat),BK (Rl.left (r)),BK (Rl.right (r)),BK (Rl.times (r))],.slice (BM g) n c] [bR s most Es,sl (BM g) c 41 1 n (Bg ids)] (fun v Q=>∃x:Bj,v= .tuple #[BL ((Es.length+1:Nat):Int),.nilIface]/\x.r=r/\Q=[bR s most (Es++[x]),sl (BM g) c 41 1 n (Bg ids)]):=by
 subst hn;exact Nc hE hD hF hA hB hC
structure ZA where
 i:Nat
 Es:List Bj
def Jq (hE:BP E){a d l nb cb wb mb cnt cc nm c}(hw:Wf c.G)(hm:c.G.length<=most)(hN:∀x k,c.N x=some k->k<=c.G.length):
  Ct E 28 [uPt d,uPt cc] [cells d [uPt a,BN nm,uPt s,uPt l,.map (some nb),.map (some cb),uPt wb,.bool false] 98,cells wb [.map (some mb),BK cnt] 96,bR s most [],dY nb (fun _=>none),Bn mb .i64 (Dw []),FF cc c]
   (fun v Q=>∃Es,v= .nilIface/\BO Es=c.G/\Q=[cells d [uPt a,BN nm,uPt s,uPt l,.map (some nb),.map (some cb),uPt wb,.bool false] 98,cells wb [.map (some mb),BK cnt] 96,bR s most Es,dY nb (Cf c.N),Bn mb .i64 (Dw (Ga c.G.length))]):=by
 have hh:fJ=1048576:=rfl;have hK:=hw.room;have hS:c.G.length+1<=maxLen:=by unfold maxLen;omega
 have hT:E.P.underlying 85=some (.map 9 3):=hE.uu;have hj:E.P.underlying 91=some (.map 9 41):=hE.uu;have hU:E.P.underlying 94=some (.map 41 3):=hE.uu;have hV:E.P.underlying 41=some (.int .i64):=hE.uu;have hl:E.P.underlying 9=some .string:=hE.uu;refine bO (hE.fn Tryz.func28) O O O (fun R=>?_);simp only[dS,uV,uW];refine zJ (p:=FF cc c) (ps:=fun i:IG=>[cells cc [.slice i.rq (c).G.length i.rc,.slice i.lq (c).G.length i.lc,.map (some i.nb)] 88,sl i.rq i.rc 111 5 (c).G.length (Cx (c).G),sl i.lq i.lc 3 1 (c).G.length (Bg (DN (c).G)),dY i.nb (Cf (c).N)]) uK qVv ?_;rintro⟨rq,rc,lq,lc,kb⟩;simp only;refine iO (p:=sl rq rc 111 5 c.G.length (Cx c.G)) uK (fun _ h=>fun hC=>eG h hC) ?_;intro hp;refine iO (p:=dY kb (Cf c.N)) uK (fun _ h=>VC h) ?_;rintro⟨n,hL⟩;refine CP ?_;refine BU 17 (BL ((c.G.length+1:Nat):Int)) O (bW oO) ?_;refine uU (LC (hE.t O) (hE.t O) O oO hS (fun hA=>?_));rw[MM (Z:=id) rfl];refine CK ?_
 refine dX (fun x:ZA=>[(0,uPt d),(1,uPt cc),(5,.slice (BM hA) (c.G.length+1) (c.G.length+1)),(22,.slice rq c.G.length rc),(23,BK (c.G.length)),(24,BK (x.i))]) (fun x=>[cells d [uPt a,BN nm,uPt s,uPt l,.map (some nb),.map (some cb),uPt wb,.bool false] 98,cells wb [.map (some mb),BK cnt] 96,bR s most x.Es,dY nb (fun _=>none),Bn mb .i64 (Dw ((Ga c.G.length).take x.i)),cells cc [.slice (IG.mk rq rc lq lc kb).rq (c).G.length (IG.mk rq rc lq lc kb).rc,.slice (IG.mk rq rc lq lc kb).lq (c).G.length (IG.mk rq rc lq lc kb).lc,.map (some (IG.mk rq rc lq lc kb).nb)] 88,sl (IG.mk rq rc lq lc kb).rq (IG.mk rq rc lq lc kb).rc 111 5 (c).G.length (Cx (c).G),sl (IG.mk rq rc lq lc kb).lq (IG.mk rq rc lq lc kb).lc 3 1 (c).G.length (Bg (DN (c).G)),dY kb (Cf c.N),sl (BM hA) (c.G.length+1) 41 1 (c.G.length+1) (Bg (IC id (c.G.length+1) x.i)),R]) (fun x=>c.G.length-x.i) (fun x=>x.i<=c.G.length/\BO x.Es=c.G.take x.i) ⟨0,[]⟩ ⟨av _,O⟩ BC uI ?_;rintro⟨i,Es⟩⟨hi,hB⟩;simp only at hi hB ⊢;refine CB ?_;refine bE O (fun h1=>?_) (fun h1=>?_)
 ·have hM:i<c.G.length:=oO;obtain⟨g,rfl⟩:=hp oO;obtain⟨r,hr⟩:∃x,c.G[i]?=some x:=⟨_,ag hM⟩;obtain⟨f0,f1,f2,f3,f4⟩:=PI hr (0+((i:Nat):Int).toNat*5) oO;have hD:Es.length=i:=by rw[<-bQ,hB,ig];omega
  have hO:=Wl id (c.G.length+1) i;have hW:r∉BO Es:=by rw[hB];exact PG hw hr
  have hX:r.ok (Es.length+1):=by rw[hD];exact hw.ok i r hr
  have hP:BO Es++[r]=c.G.take (i+1):=by rw[hB,ed,hr];rfl
  have hF:len (BO Es++[r]) (Es.length+1)<=dC:=by
   rw[hP,hD];have h1:=jB (L:=c.G.take (i+1)) (c.G.drop (i+1)) (i:=i+1) (by rw[ig];omega);rw[dh]at h1;rw[<-h1];exact hw.short (i+1)
  have hG:∀k,k<=Es.length->(IC id (c.G.length+1) i)[k]?=some k:=fun k hk=>ML oO oO
  refine Bu ?_;refine uU (dA (hE.t O) (fun b7=>?_));refine Bw ?_;refine uH ([cells d [uPt a,BN nm,uPt s,uPt l,.map (some nb),.map (some cb),uPt wb,.bool false] 98,cells wb [.map (some mb),BK cnt] 96,sl (BM hA) (c.G.length+1) 41 1 (c.G.length+1) (Bg (IC id (c.G.length+1) i)),cells b7 [BK (Rl.kind (r)),.int .u8 (Rl.byte (r):Nat),BK (Rl.left (r)),BK (Rl.right (r)),BK (Rl.times (r))] 111]) ?_;refine CB ?_;apply dH 6 O oK O;refine uC (Jp (s:=s) (most:=most) (r:=r) (g:=hA) (c:=c.G.length+1) (ids:=IC id (c.G.length+1) i) hE hO hX hW oO hF hG) O ?_;rintro _ _⟨x,rfl,hY,rfl⟩;rw[hD];simp only[uV,uW];refine uE ?_;refine Gp ?_;rw[PU (Z:=id) (n:=c.G.length+1) (k:=i) (v:=((i+1:Nat):Int)) oO ((((i:Nat):Int)+1).toNat) oO rfl];refine Bo ?_;refine BU 56 (BL ((i+1:Nat):Int)) O (bW oO) ?_;refine uU (lS (k:=((i+1:Nat):Int)) hU hV O O O uK ?_);rw[Yh (Tw hM) (qMl _)];refine Bi ?_;refine bS (ι:=ZA) (j:=⟨i+1,Es++[x]⟩) ⟨BD,?_⟩ BD ⟨rfl,rfl,rfl,rfl,rfl,au some (bW BD),trivial⟩ uI;rw[dB,<-hP];exact au _ (by rw[<-hY];rfl)
 obtain rfl:i=c.G.length:=by omega
 rw[nu]at hB;have hH:(Ga c.G.length).take c.G.length=Ga c.G.length:=by rw[fe (by rw[Tj];omega)]
 rw[hH];have hO:=Wl id (c.G.length+1) c.G.length;rw[KO (Cf c.N)];refine Bq ?_;refine uU ?_;apply yQ hT O uK;intro br;refine CG ?_;refine dX (fun x:Po=>[(0,uPt d),(1,uPt cc),(5,.slice (BM hA) (c.G.length+1) (c.G.length+1)),(62,uPt br)]) (fun x=>[Io br kb (Cf c.N) x.done,cells d [uPt a,BN nm,uPt s,uPt l,.map (some nb),.map (some cb),uPt wb,.bool false] 98,cells wb [.map (some mb),BK cnt] 96,bR s most Es,dY nb (QT (Cf c.N) x.done),Bn mb .i64 (Dw (Ga c.G.length)),sl (BM hA) (c.G.length+1) 41 1 (c.G.length+1) (Bg (IC id (c.G.length+1) c.G.length)),R]) (fun x=>n+1-x.D.length) (fun x=>x.D.Nodup/\(∀y,y∈x.D↔x.done y=true)/\∀y∈x.D,Cf c.N y≠none) ⟨[],fun _=>false,none,0⟩ ⟨.nil,fun y=>by simp,fun y h=>by simp at h⟩ BC uI ?_;rintro⟨D,done,q,dd⟩⟨h1,h2,h3⟩;simp only at h1 h2 h3 ⊢;have hn:=kL hL h1 h3;refine CL ?_;refine uU ?_;apply VA O uK
 ·intro hI;refine Bw ?_;rw[qXq hI];refine Bo ?_;exact uZ O (.tmp O .nil) ⟨Es,O,hB,O⟩
 intro k v hk hd;refine Bc ?_;refine uB (VM O uK) ?_;refine jM (fun _ h=>eU (fun _ x=>Va x) h) ?_
 have hZ:k∉D:=fun h=>by
  have:=(h2 k).1 h;rw[hd]at this;cases this
 have hJ:=hk;unfold Cf at hJ;rw[oz]at hJ;obtain⟨m,hc,rfl⟩:=hJ;have he:=hN k m hc;have hf:(IC id (c.G.length+1) c.G.length)[m]?=some m:=ML oO he;have f5:=fT hf (((m:Nat):Int).toNat) oO
 have hQ:(D++[k]).Nodup:=by
  rw[ng];exact⟨h1,by simp,fun a ha b hb e=>by simp at hb;subst hb;subst e;exact hZ ha⟩
 have hR:∀y∈D++[k],Cf c.N y≠none:=fun y hy=>by
  rcases ay.1 hy with hy|hy
  ·exact h3 y hy
  simp at hy;subst hy;rw[hk];simp
 have hg:=kL hL hQ hR;refine CB ?_;refine uN 9 ([cells d [uPt a,BN nm,uPt s,uPt l,.map (some nb),.map (some cb),uPt wb,.bool false] 98,cells wb [.map (some mb),BK cnt] 96,sl (BM hA) (c.G.length+1) 41 1 (c.G.length+1) (Bg (IC id (c.G.length+1) c.G.length))]) ?_;refine CB ?_;apply dG 6 O oK
 ·exact aB O
 ·rfl
 apply dG 7 O oK
 ·exact CE O O
 ·rfl
 apply dG 8 O oK
 ·(apply aO rfl (hE.t rfl) rfl;(repeat(first |rfl|assumption|constructor));done)
 ·rfl
 apply gW O oK oK O;apply qP (kt:=9) (et:=41) hE.uu hE.uu O O O
 ·exact uK
 refine Bv ?_;rw[qXr hk];refine bS (ι:=Po) (j:=⟨D++[k],fun x=>x==k||done x,none,0⟩) ⟨hQ,fun y=>?_,hR⟩ (by simp only[aa,bf]at hg ⊢;omega) BC uI;simp only[ay,bg,wm,beq_iff_eq];rw[h2 y];exact or_comm
end
