import Derived.Test.YtlmpojkmeglepaaGreatDoorQ9Q
set_option linter.all false
set_option maxHeartbeats 1000000
namespace Go.Proofs.YtlmpojkmeglepaaGreatDoor
open Go Go.RowKit Sl Eg
set_option maxRecDepth 10000
section
variable {E:Env}{Es:List Ent}{pp tb s most m bm:Nat}
structure Prop50 (G:List Rl)(A:List (List UInt8×Nat)):Prop where
 ok:GOk 0 G
 wf:Wf G
 names:∀p∈A,ValidN p.1∧p.2≤G.length
 ord:OrdN A
 sig:∀j,1≤j→j≤G.length→Sig G j∧lvl G j≤1048576
 vis:dD G (A.map (·.2)) []=(List.range G.length).map (· +1)
theorem sZ (hE:Seat E)(hB:Base E.w0){Bs:List UInt8}{a:Option Addr}{c:Nat}{q:HP}(hq:Rdb E.w0 a (byC Bs) q)(hc:Bs.length≤c)(hcl:Bs.length≤100000)(hroom:Es.length+Bs.length≤most):
  Ct E 15 [uPt m,.slice a Bs.length c] [cells pp [uPt s,uPt tb] 97,tabP tb s (rls Es),bR s most Es,cells m [uPt pp,.map (some bm)] 93,q]
   (fun v Q=>(v= .tuple #[.slice none 0 0,.iface 58 (.int .i64 4)]∧Q=[cells pp [uPt s,uPt tb] 97,tabP tb s (rls Es),bR s most Es,cells m [uPt pp,.map (some bm)] 93,q])∨∃(G:List Rl)(A:List (List UInt8×Nat))(M:List Ent)(Z:List Nat)(pl:Option Addr)(cl:Nat),v= .tuple #[.slice pl A.length cl,.nilIface]∧Prop50 G A∧Bs=encA G A∧2*G.length≤Bs.length∧2*A.length≤Bs.length∧M.length≤G.length∧DcI G (rls (Es++M)) G.length Z∧Q=[cells pp [uPt s,uPt tb] 97,tabP tb s (rls (Es++M)),bR s most (Es++M),cells m [uPt pp,.map (some bm)] 93,q,sl pl cl 53 2 A.length (nlC (nmI (nmK Z A A.length)))]):=by
 refine bO (hE.fn Tryz.func15) O O O (fun R=>?_)
 simp only[dU,uV,uW]
 refine gg9 ?_
 refine uX (jC (m:=m) (pp:=pp) (bm:=bm) hE) O ?_
 rintro _ _⟨rfl,rfl⟩
 simp only[uV,uW]
 refine uX (gK hE) O ?_
 rintro _ _⟨rfl,rfl⟩
 simp only[uV,uW]
 refine gg16 ?_
 refine uX (ct_readG (a:=a) (c:=c) (q:=q) hE hq hc hcl) O ?_
 rintro _ _(⟨x,y,rfl,rfl⟩|⟨G,A,pg,cg,pl,cl,rfl,rfl,hG,hGt,hA1,hO,hBs,hgl,hal⟩)
 ·simp only[uV,uW]
  refine gg32 ?_
  exact uZ O (.tmp O (.tmp O .nil)) (.inl ⟨O,O⟩)
 simp only[uV,uW]
 refine gg20 ?_
 refine uX (qOw (pg:=pg) (cg:=cg) (pl:=pl) (cl:=cl) hE hB hG hGt oO oO (fun p hp=>(hA1 p hp).2)) O ?_
 rintro _ _⟨d,rfl,rfl,hd⟩
 cases d with
 |false=>
  simp only[uV,uW]
  refine gg15 ?_
  exact uZ O (.tmp O (.tmp O .nil)) (.inl ⟨O,O⟩)
 |true=>
 obtain⟨hw,hsg,hvis⟩:=hd rfl
 have hP:Prop50 G A:=⟨hG,hw,hA1,hO,hsg,hvis⟩
 have hml:G.length+1≤maxLen:=by unfold maxLen;omega
 simp only[uV,uW]
 refine gg13 ?_
 refine uU ?_
 refine eH (c:=G.length+1) (hE.t O) (hE.t O) O oO oO (by(unfold maxLen;omega)) (fun b40=>?_)
 refine gg12 ?_
 rw[qFo]
 refine iJ (p:=sl pg cg 86 5 G.length (rusC G)) uK (fun _ h=>fun hpos=>eU h hpos) ?_
 intro hpg
 refine iJ (p:=sl pl cl 53 2 A.length (nlC (nmI A))) uK (fun _ h=>fun hpos=>eU h hpos) ?_
 intro hpl
 have hL0:rls Es=rls (Es++[]):=by rw[List.append_nil]
 have hS0:Es=Es++[]:=by rw[List.append_nil]
 refine eZ (fun x:DcG=>[(6,uPt s),(8,.slice pl A.length cl),(10,.slice (some ⟨b40,0,none⟩) (G.length+1) (G.length+1)),(41,.slice pg G.length cg),(42,.int .i64 (G.length:Nat)),(43,.int .i64 (x.k:Nat))]) (fun x=>[cells pp [uPt s,uPt tb] 97,tabP tb s (rls (Es++x.M)),bR s most (Es++x.M),cells m [uPt pp,.map (some bm)] 93,q,sl pg cg 86 5 G.length (rusC G),sl pl cl 53 2 A.length (nlC (nmI A)),sl (some ⟨b40,0,none⟩) (G.length+1) 44 1 (G.length+1) (idC (pad x.Z (G.length+1))),R]) (fun x=>G.length-x.k) (fun x=>x.k≤G.length∧x.M.length≤x.k∧DcI G (rls (Es++x.M)) x.k x.Z) ⟨0,[],[0]⟩ ⟨Nat.zero_le _,Nat.le_refl _,O,O,fun j h1 h2=>by simp only at h2;omega⟩ ⟨rfl,rfl,rfl,rfl,rfl,rfl,trivial⟩ (by simp only[List.append_nil];(apply ent;(repeat constructor);done)) ?_
 rintro⟨k,M,Z⟩⟨hk,hM,hD⟩
 simp only at hk hM hD ⊢
 refine iJ (p:=bR s most (Es++M)) uK (fun _ h=>dR h) ?_
 intro hsay
 refine gg6 ?_
 refine bE O (fun h1=>?_) (fun h1=>?_)
 ·have hkl:k<G.length:=oO
  obtain⟨g,rfl⟩:=hpg oO
  obtain⟨r,hr⟩:∃x,G[k]?=some x:=⟨_,List.getElem?_eq_getElem hkl⟩
  obtain⟨f0,f1,f2,f3,f4⟩:=yA hr (0+((k:Nat):Int).toNat*5) oO
  have htl:(pad Z (G.length+1)).length=G.length+1:=xW (by have:=hD.1;omega)
  obtain⟨r',hmk,hnx⟩:=qMd (T:=pad Z (G.length+1)) hw hsay.1 hr (fun j h1 h2=>by
   obtain⟨z,hz,iz⟩:=hD.2.2 j h1 h2
   exact⟨z,sF hz,iz⟩)
  have hrm:(Es++M).length<most:=by rw[List.length_append];omega
  refine gg8 ?_
  apply aA
  ·(first |(apply bV rfl (hE.t rfl) rfl;(repeat(first |rfl|assumption|constructor));done)|(apply y_load_agg_old rfl (hE.t rfl) rfl;assumption))
  ·rfl
  refine uU (dA (hE.t O) (fun b12=>?_))
  refine gg7 ?_
  apply aA
  ·(first |(apply bV rfl (hE.t rfl) rfl;(repeat(first |rfl|assumption|constructor));done)|(apply y_load_agg_old rfl (hE.t rfl) rfl;assumption))
  ·rfl
  refine gg1 ?_
  refine l_eq 51 (.slice (some ⟨b40,0,none⟩) (pad Z (G.length+1)).length (G.length+1)) O (by rw[htl]) ?_
  refine nX (cO (p:=sl (some ⟨b40,0,none⟩) (G.length+1) 44 1 (G.length+1) (idC (pad Z (G.length+1)))) (p':=sl (some ⟨b40,0,none⟩) (G.length+1) 44 1 (pad Z (G.length+1)).length (idC (pad Z (G.length+1)))) uK (fun _ h=>by rw[htl];exact h)) ?_
  refine uX (qRk (s:=s) (most:=most) (Es:=Es++M) (r:=r) (r':=r') (T:=pad Z (G.length+1)) (gt:=b40) (ct:=G.length+1) hE oO hmk hrm) O ?_
  rintro _ _⟨N,i,rfl,hN,hi1,hid,rfl⟩
  rw[htl]
  simp only[uV,uW]
  have ea:Es++M++N=Es++(M++N):=List.append_assoc _ _ _
  rw[ea]
  rw[ea]at hid
  have er:rls (Es++(M++N))=rls (Es++M)++rls N:=by rw[←ea,dB]
  refine nX (cO (p:=tabP tb s (rls (Es++M))) (p':=tabP tb s (rls (Es++(M++N)))) uK (fun _ h=>by rw[er];exact kS _ h)) ?_
  have hD':=hD.next (rls N) (id:=i) (hnx (rls N) i hi1 (by rw[←er];exact hid))
  rw[←er]at hD'
  have hzl:=hD.1
  refine gg27 ?_
  rw[qKt (Z:=Z) (n:=G.length+1) (x:=i) oO ((((k:Nat):Int)+1).toNat) oO rfl]
  refine gg4 ?_
  refine bS (ι:=DcG) (j:=⟨k+1,M++N,Z++[i]⟩) ⟨by simp only;omega,by simp only[List.length_append];omega,hD'⟩ (by simp only;omega) ⟨rfl,rfl,rfl,rfl,rfl,congrArg some (bW (by simp only;omega)),trivial⟩ uI
 obtain rfl:k=G.length:=by omega
 rw[←qMu Z A]
 refine gg14 ?_
 refine eZ (fun k:Nat=>[(8,.slice pl A.length cl),(10,.slice (some ⟨b40,0,none⟩) (G.length+1) (G.length+1)),(65,.int .i64 (A.length:Nat)),(66,.int .i64 (k:Nat))]) (fun k=>[cells pp [uPt s,uPt tb] 97,tabP tb s (rls (Es++M)),bR s most (Es++M),cells m [uPt pp,.map (some bm)] 93,q,sl pl cl 53 2 A.length (nlC (nmI (nmK Z A k))),sl (some ⟨b40,0,none⟩) (G.length+1) 44 1 (G.length+1) (idC (pad Z (G.length+1))),R]) (fun k=>A.length-k) (fun k=>k≤A.length) 0 (Nat.zero_le _) ⟨O,O,O,O,trivial⟩ uI ?_
 rintro k hk
 refine gg6 ?_
 refine bE O (fun h2=>?_) (fun h2=>?_)
 ·have hkl:k<A.length:=oO
  obtain⟨gl,rfl⟩:=hpl oO
  obtain⟨p,hp⟩:∃x,A[k]?=some x:=⟨_,List.getElem?_eq_getElem hkl⟩
  have hpG:=(hA1 p (List.mem_of_getElem? hp)).2
  obtain⟨z,hz,_⟩:=hD.get hpG
  obtain⟨f0,f1⟩:=qMt (nmK_at (Z:=Z) hp) (0+((k:Nat):Int).toNat*2) oO
  have f2:=fP (sF (n:=G.length+1) hz) (((p.2:Nat):Int).toNat) oO
  refine gg27 ?_
  rw[qSu hp hz _ oO]
  refine gg4 ?_
  refine bS (ι:=Nat) (j:=k+1) oO oO ⟨O,O,O,congrArg some (bW oO),trivial⟩ uI
 obtain rfl:k=A.length:=by omega
 refine gg13 ?_
 exact uZ O (.tmp O (.tmp O .nil)) (.inr ⟨G,A,M,Z,pl,cl,O,hP,hBs,hgl,hal,hM,hD,O⟩)
end
section
variable {E:Env}{Es:List Ent}{pp tb s most S:Nat}
theorem Sig.lts {L:List Rl}(hw:Wf L):∀x,Sig L x→Lts L (expd L 0 x) (txt L x):=by
 intro x
 induction x using Nat.strongRecOn with
 |_ x ih=>
  intro hs
  obtain⟨i,rfl⟩:∃i,x=i+1:=⟨x-1,by have:=hs.pos;omega⟩
  have hi:=hs.le
  have h0:=hs.lv
  have hr:L[i]?=some (L[i]'oO):=List.getElem?_eq_getElem oO
  generalize L[i]'oO=r at hr
  have hk:=hw.ok i r hr
  obtain⟨d1,_,_⟩:=hs.down2 hw hr
  cases r with
  |letter b=>
   have hl:=(fT hr).2
   rw[dZ oO oO,iB hr]
   exact .snoc (ids:=[]) (bs:=[]) .nil hr
  |pair a b=>
   obtain⟨g1,g2,g3,g4,_⟩:=kR hw (x:=i+1) oO hr h0
   have da:=d1 a (by simp[kids])
   have db:=d1 b (by simp[kids])
   have:=da.1.lv
   rw[fK hw hr oO,jQ hr hk]
   simp only[Rl.ok]at hk
   exact(ih a oO da.1).append (ih b oO db.1)
  |power y t=>
   obtain⟨g1,g2⟩:=mM hw (x:=i+1) oO hr h0
   have dy:=d1 y (by simp[kids])
   have:=dy.1.lv
   rw[fO hw hr oO,jI hr hk]
   simp only[Rl.ok]at hk
   have hy:=ih y oO dy.1
   have rep:∀n:Nat,Lts L (List.replicate n (expd L 0 y)).flatten (List.replicate n (txt L y)).flatten:=fun n=>by
    induction n with
    |zero=>exact .nil
    |succ n ih=>rw[List.replicate_succ,List.flatten_cons,List.replicate_succ (a:=txt L y),List.flatten_cons];exact hy.append ih
   exact rep t
theorem Sig.rch {L:List Rl}(hw:Wf L){x:Nat}(hs:Sig L x):∀k:Nat,1≤k→(k:Int)≤lvl L x+1→Rch L (txt L x) k (expd L (k-1) x)
 |0,h,_=>by omega
 |1,_,_=> .start (hs.lts hw)
 |k+2,_,h=>by
  have hp:=hs.rch hw (k+1) oO oO
  have h2:=(nV hw (l:=k+1-1) x hs.pos hs.le).2 oO
  exact hp.next h2 (fun y hy=>((hs.inv (k+1) oO).ok y hy).2.1) (hs.step (k+1) oO)
theorem Sig.sn {L:List Rl}(hw:Wf L){x:Nat}(hs:Sig L x):Sn L (txt L x) x:=by
 have h0:=hs.lv
 obtain⟨m,hm⟩:∃m:Nat,lvl L x=(m:Nat):=⟨(lvl L x).toNat,oO⟩
 refine⟨.inr ⟨m+1,?_⟩,O,hs.le,h0⟩
 have:=hs.rch hw (m+1) oO oO
 rwa [Nat.add_sub_cancel,dZ hs.pos oO]at this
def Ful (L:List Rl)(fs:List Fm):Prop:=∀f∈fs,f.hv=fV (rlAt L f.id)
theorem Ful.bb {L:List Rl}{fs:List Fm}(h:Ful L fs)(lv:Nat):BB L lv fs:=fun f hf _=>h f hf
theorem Ful.up {L:List Rl}{lv x:Nat}{fs:List Fm}(h:Ful L fs):Ful L (upF L lv x fs).2:=by
 rcases List.eq_nil_or_concat fs with rfl|⟨gs,f,rfl⟩
 ·exact h
 rw[List.concat_eq_append]at*
 rw[kT]
 split
 ·exact fun g hg=>h g (by simp[hg])
 exact h
theorem Ful.cut {L:List Rl}{fs:List Fm}{lv:Nat}(h:Ful L fs){o:Option Fm}(ho:Par L lv fs o):cutO L o=false:=by
 cases o with
 |none=>rfl
 |some f=>
  obtain⟨⟨g,rfl⟩,_⟩:=ho
  have:=h f (by simp)
  show decide _=false
  exact decide_eq_false oO
theorem qCh (hE:Seat E)(hB:Base E.w0){l rl rr:Nat}{A B:Sd}{M:Md}(hs:Sig (rls Es) rl)(hsr:Sig (rls Es) rr)(eA:EO (rls Es) false l rl A.x A.fs)(eB:EO (rls Es) true l rr B.x B.fs)(fa:Ful (rls Es) A.fs)(fb:Ful (rls Es) B.fs)(ha:A.x≠0)(hb:B.x≠0)(hM:M.its=[])(hne:A.x≠B.x)(hodd:(l+1)%2=1)(hll:l+1<1099511627776):
  Ct E 158 [uPt S,.int .i64 ((l+1:Nat):Int)] [cells pp [uPt s,uPt tb] 97,tabP tb s (rls Es),bR s most Es,cells S [uPt pp,uPt pp,.bool false,.slice A.p A.fs.length A.c,.int .i64 (A.x:Nat),.int .u64 (key (rls Es) A.x:Nat),uPt pp,.bool true,.slice B.p B.fs.length B.c,.int .i64 (B.x:Nat),.int .u64 (key (rls Es) B.x:Nat),.slice M.p M.its.length M.c] 257,sl A.p A.c 266 8 A.fs.length (dW (rls Es) A.fs),sl B.p B.c 266 8 B.fs.length (dW (rls Es) B.fs),sl M.p M.c 278 4 M.its.length (itsC (rls Es) M.its)] (fun v Q=>v= .tuple #[]∧Q=[cells pp [uPt s,uPt tb] 97,tabP tb s (rls Es),bR s most Es,cells S [uPt pp,uPt pp,.bool false,.slice A.p A.fs.length A.c,.int .i64 (A.x:Nat),.int .u64 (key (rls Es) A.x:Nat),uPt pp,.bool true,.slice B.p B.fs.length B.c,.int .i64 (B.x:Nat),.int .u64 (key (rls Es) B.x:Nat),.slice M.p M.its.length M.c] 257,sl A.p A.c 266 8 A.fs.length (dW (rls Es) A.fs),sl B.p B.c 266 8 B.fs.length (dW (rls Es) B.fs),sl M.p M.c 278 4 M.its.length (itsC (rls Es) M.its)]):=by
 refine eQ (p:=bR s most Es) uK (fun _ h=>dR h) (fun hsay=>?_)
 have hw:=hsay.1
 have hL:(rls Es).length≤1048576:=by have:=hsay.2.2;rw[bQ];unfold fB at this;omega
 have hm0:M.its.length=0:=by rw[hM];rfl
 have hml:M.its.length≤1099511627776:=oO
 have e1:fstS B M=B.x:=by unfold fstS;rw[hM]
 have e2:lstS A M=A.x:=by unfold lstS;rw[hM];rfl
 refine bO (hE.fn Tryz.func158) O O O (fun R=>?_)
 simp only[dU,uV,uW]
 refine gg4 ?_
 refine uX (zF hE) O ?_
 rintro _ _⟨rfl,rfl⟩
 simp only[uV,uW]
 rw[e1]
 refine gg17 ?_
 refine bE O (fun h0=>?_) (fun h0=>?_)
 rotate_left
 ·exfalso;omega
 refine gg6 ?_
 refine uX (qLz hE (b:=S) (pre:=[uPt pp]) (suf:=[uPt pp,.bool true,.slice B.p B.fs.length B.c,.int .i64 (B.x:Nat),.int .u64 (key (rls Es) B.x:Nat),.slice M.p M.its.length M.c]) (fs:=A.fs) hw hL hs eA ha hodd) O ?_
 rintro _ _⟨⟨o,ho,rfl⟩,rfl⟩
 simp only[uV,uW]
 rw[fa.cut ho]
 refine gg28 ?_
 refine bE O (fun h4=>?_) (fun h4=>?_)
 ·exfalso;omega
 refine gg5 ?_
 refine uX (qEj hE hml) O ?_
 rintro _ _⟨rfl,rfl⟩
 simp only[uV,uW]
 rw[e2]
 refine gg17 ?_
 refine bE O (fun h5=>?_) (fun h5=>?_)
 rotate_left
 ·exfalso;omega
 refine gg6 ?_
 refine uX (qLz hE (b:=S) (pre:=[uPt pp,uPt pp,.bool false,.slice A.p A.fs.length A.c,.int .i64 (A.x:Nat),.int .u64 (key (rls Es) A.x:Nat)]) (suf:=[.slice M.p M.its.length M.c]) (fs:=B.fs) hw hL hsr eB hb hodd) O ?_
 rintro _ _⟨⟨o2,ho2,rfl⟩,rfl⟩
 simp only[uV,uW]
 rw[fb.cut ho2]
 refine gg28 ?_
 refine bE O (fun h6=>?_) (fun h6=>?_)
 ·exfalso;omega
 refine gg1 ?_
 exact uZe O .nil ⟨O,O⟩
theorem qKh {L:List Rl}(hw:Wf L){bh:Bool}{l root x:Nat}{fs:List Fm}{f:Fm}(hs:Sig L root)(h:EO L bh l root x fs)(hx:x≠0)(ho:Par L (l+1) fs (some f))(hev:(l+1)%2=0)(hf:Ful L fs):f.hv=2:=by
 obtain⟨g,a,b,hfs,_,_,_,l4,_⟩:=mP hw hs h hx ho hev
 have:=hf f (by rw[hfs];simp)
 rw[this,l4]
 rfl
theorem qCf (hE:Seat E)(hB:Base E.w0){l rl rr:Nat}{A B:Sd}{M:Md}(hs:Sig (rls Es) rl)(eA:EO (rls Es) false l rl A.x A.fs)(fa:Ful (rls Es) A.fs)(ha:A.x≠0)(hb:B.x≠0)(hM:M.its=[])(hnf:Par (rls Es) (l+1) A.fs none→¬eO (num (l+1)) (key (rls Es) A.x) (key (rls Es) B.x))(hev:(l+1)%2=0)(hll:l+1<1099511627776):
  Ct E 160 [uPt S,.int .i64 ((l+1:Nat):Int)] [cells pp [uPt s,uPt tb] 97,tabP tb s (rls Es),bR s most Es,cells S [uPt pp,uPt pp,.bool false,.slice A.p A.fs.length A.c,.int .i64 (A.x:Nat),.int .u64 (key (rls Es) A.x:Nat),uPt pp,.bool true,.slice B.p B.fs.length B.c,.int .i64 (B.x:Nat),.int .u64 (key (rls Es) B.x:Nat),.slice M.p M.its.length M.c] 257,sl A.p A.c 266 8 A.fs.length (dW (rls Es) A.fs),sl B.p B.c 266 8 B.fs.length (dW (rls Es) B.fs),sl M.p M.c 278 4 M.its.length (itsC (rls Es) M.its)] (fun v Q=>v= .tuple #[]∧Q=[cells pp [uPt s,uPt tb] 97,tabP tb s (rls Es),bR s most Es,cells S [uPt pp,uPt pp,.bool false,.slice A.p A.fs.length A.c,.int .i64 (A.x:Nat),.int .u64 (key (rls Es) A.x:Nat),uPt pp,.bool true,.slice B.p B.fs.length B.c,.int .i64 (B.x:Nat),.int .u64 (key (rls Es) B.x:Nat),.slice M.p M.its.length M.c] 257,sl A.p A.c 266 8 A.fs.length (dW (rls Es) A.fs),sl B.p B.c 266 8 B.fs.length (dW (rls Es) B.fs),sl M.p M.c 278 4 M.its.length (itsC (rls Es) M.its)]):=by
 refine eQ (p:=bR s most Es) uK (fun _ h=>dR h) (fun hsay=>?_)
 have hw:=hsay.1
 have hL:(rls Es).length≤1048576:=by have:=hsay.2.2;rw[bQ];unfold fB at this;omega
 have hm0:M.its.length=0:=by rw[hM];rfl
 have hml:M.its.length≤1099511627776:=oO
 have e1:fstS B M=B.x:=by unfold fstS;rw[hM]
 have e2:lstS A M=A.x:=by unfold lstS;rw[hM];rfl
 have hfl:=eA.pl hw hL hs
 refine bO (hE.fn Tryz.func160) O O O (fun R=>?_)
 simp only[dU,uV,uW]
 refine gg11 ?_
 refine bE O (fun h0=>?_) (fun h0=>?_)
 ·exfalso;omega
 refine gg9 ?_
 refine uX (kI hE (b:=S) (pre:=[uPt pp]) (suf:=[uPt pp,.bool true,.slice B.p B.fs.length B.c,.int .i64 (B.x:Nat),.int .u64 (key (rls Es) B.x:Nat),.slice M.p M.its.length M.c]) (fs:=A.fs) hfl) O ?_
 rintro v _⟨⟨o,ho,hv⟩,rfl⟩
 simp only[uV,uW]
 refine gg3 ?_
 cases o with
 |none=>
  obtain rfl:v= .pointer none:=hv
  refine gg24 ?_
  refine uX (zF hE) O ?_
  rintro _ _⟨rfl,rfl⟩
  simp only[uV,uW]
  rw[e1]
  refine gg12 ?_
  refine dY 36 O (fun h3=>?_) (fun h3=>?_)
  ·exfalso;omega
  refine gg15 ?_
  refine uX (zY hE oO hev hll) O ?_
  rintro _ _⟨⟨d,rfl,hd⟩,rfl⟩
  simp only[uV,uW]
  refine gg5 ?_
  cases d with
  |false=>
   refine gg3 ?_
   exact uZ O .nil ⟨O,O⟩
  |true=>exact absurd (hd.1 rfl) (hnf ho)
 |some f=>
  have hf2:=qKh hw hs eA ha ho hev fa
  obtain⟨gs,g,hfs,hp,rfl⟩:=hv
  have f7:(dW (rls Es) A.fs)[(dW (rls Es) gs).length+7]?=some (.int .i64 (f.hv:Nat)):=by rw[hfs];exact sG
  rw[hp]
  refine gg18 ?_
  refine bE O (fun h2=>?_) (fun h2=>?_)
  ·refine gg2 ?_
   exact uZ O .nil ⟨O,O⟩
  exfalso;omega
theorem zZ (hE:Seat E)(hB:Base E.w0){l rl rr:Nat}{A B:Sd}{M:Md}(hs:Sig (rls Es) rr)(eB:EO (rls Es) true l rr B.x B.fs)(fb:Ful (rls Es) B.fs)(ha:A.x≠0)(hb:B.x≠0)(hM:M.its=[])(hnf:¬eO (num (l+1)) (key (rls Es) A.x) (key (rls Es) B.x))(hev:(l+1)%2=0)(hll:l+1<1099511627776):
  Ct E 162 [uPt S,.int .i64 ((l+1:Nat):Int)] [cells pp [uPt s,uPt tb] 97,tabP tb s (rls Es),bR s most Es,cells S [uPt pp,uPt pp,.bool false,.slice A.p A.fs.length A.c,.int .i64 (A.x:Nat),.int .u64 (key (rls Es) A.x:Nat),uPt pp,.bool true,.slice B.p B.fs.length B.c,.int .i64 (B.x:Nat),.int .u64 (key (rls Es) B.x:Nat),.slice M.p M.its.length M.c] 257,sl A.p A.c 266 8 A.fs.length (dW (rls Es) A.fs),sl B.p B.c 266 8 B.fs.length (dW (rls Es) B.fs),sl M.p M.c 278 4 M.its.length (itsC (rls Es) M.its)] (fun v Q=>v= .tuple #[]∧Q=[cells pp [uPt s,uPt tb] 97,tabP tb s (rls Es),bR s most Es,cells S [uPt pp,uPt pp,.bool false,.slice A.p A.fs.length A.c,.int .i64 (A.x:Nat),.int .u64 (key (rls Es) A.x:Nat),uPt pp,.bool true,.slice B.p B.fs.length B.c,.int .i64 (B.x:Nat),.int .u64 (key (rls Es) B.x:Nat),.slice M.p M.its.length M.c] 257,sl A.p A.c 266 8 A.fs.length (dW (rls Es) A.fs),sl B.p B.c 266 8 B.fs.length (dW (rls Es) B.fs),sl M.p M.c 278 4 M.its.length (itsC (rls Es) M.its)]):=by
 refine eQ (p:=bR s most Es) uK (fun _ h=>dR h) (fun hsay=>?_)
 have hw:=hsay.1
 have hL:(rls Es).length≤1048576:=by have:=hsay.2.2;rw[bQ];unfold fB at this;omega
 have hm0:M.its.length=0:=by rw[hM];rfl
 have hml:M.its.length≤1099511627776:=oO
 have e1:fstS B M=B.x:=by unfold fstS;rw[hM]
 have e2:lstS A M=A.x:=by unfold lstS;rw[hM];rfl
 have hfl:=eB.pl hw hL hs
 refine bO (hE.fn Tryz.func162) O O O (fun R=>?_)
 simp only[dU,uV,uW]
 refine gg11 ?_
 refine bE O (fun h0=>?_) (fun h0=>?_)
 ·exfalso;omega
 refine gg9 ?_
 refine uX (kI hE (b:=S) (pre:=[uPt pp,uPt pp,.bool false,.slice A.p A.fs.length A.c,.int .i64 (A.x:Nat),.int .u64 (key (rls Es) A.x:Nat)]) (suf:=[.slice M.p M.its.length M.c]) (fs:=B.fs) hfl) O ?_
 rintro v _⟨⟨o,ho,hv⟩,rfl⟩
 simp only[uV,uW]
 refine gg3 ?_
 cases o with
 |none=>
  obtain rfl:v= .pointer none:=hv
  refine gg24 ?_
  refine uX (qEj hE hml) O ?_
  rintro _ _⟨rfl,rfl⟩
  simp only[uV,uW]
  rw[e2]
  refine gg12 ?_
  refine dY 36 O (fun h3=>?_) (fun h3=>?_)
  ·exfalso;omega
  refine gg15 ?_
  refine uX (zY hE oO hev hll) O ?_
  rintro _ _⟨⟨d,rfl,hd⟩,rfl⟩
  simp only[uV,uW]
  refine gg5 ?_
  cases d with
  |false=>
   refine gg3 ?_
   exact uZ O .nil ⟨O,O⟩
  |true=>exact absurd (hd.1 rfl) hnf
 |some f=>
  have hf2:=qKh hw hs eB hb ho hev fb
  obtain⟨gs,g,hfs,hp,rfl⟩:=hv
  have f7:(dW (rls Es) B.fs)[(dW (rls Es) gs).length+7]?=some (.int .i64 (f.hv:Nat)):=by rw[hfs];exact sG
  rw[hp]
  refine gg18 ?_
  refine bE O (fun h2=>?_) (fun h2=>?_)
  ·refine gg2 ?_
   exact uZ O .nil ⟨O,O⟩
  exfalso;omega
theorem xJ (hE:Seat E)(hB:Base E.w0){l rl rr:Nat}{A B:Sd}{M:Md}(hs:Sig (rls Es) rr)(eB:EO (rls Es) true l rr B.x B.fs)(fb:Ful (rls Es) B.fs)(hb:B.x≠0)(hM:M.its=[])(hev:(l+1)%2=0)(hll:l+1<1000000000000):
  Ct E 161 [uPt S,.int .i64 ((l+1:Nat):Int)] [cells pp [uPt s,uPt tb] 97,tabP tb s (rls Es),bR s most Es,cells S [uPt pp,uPt pp,.bool false,.slice A.p A.fs.length A.c,.int .i64 (A.x:Nat),.int .u64 (key (rls Es) A.x:Nat),uPt pp,.bool true,.slice B.p B.fs.length B.c,.int .i64 (B.x:Nat),.int .u64 (key (rls Es) B.x:Nat),.slice M.p M.its.length M.c] 257,sl A.p A.c 266 8 A.fs.length (dW (rls Es) A.fs),sl B.p B.c 266 8 B.fs.length (dW (rls Es) B.fs),sl M.p M.c 278 4 M.its.length (itsC (rls Es) M.its)] (fun v Q=>v= .tuple #[]∧Q=[cells pp [uPt s,uPt tb] 97,tabP tb s (rls Es),bR s most Es,cells S [uPt pp,uPt pp,.bool false,.slice A.p A.fs.length A.c,.int .i64 (A.x:Nat),.int .u64 (key (rls Es) A.x:Nat),uPt pp,.bool true,.slice B.p B.fs.length B.c,.int .i64 (B.x:Nat),.int .u64 (key (rls Es) B.x:Nat),.slice M.p M.its.length M.c] 257,sl A.p A.c 266 8 A.fs.length (dW (rls Es) A.fs),sl B.p B.c 266 8 B.fs.length (dW (rls Es) B.fs),sl M.p M.c 278 4 M.its.length (itsC (rls Es) M.its)]):=by
 refine eQ (p:=bR s most Es) uK (fun _ h=>dR h) (fun hsay=>?_)
 have hw:=hsay.1
 have hL:(rls Es).length≤1048576:=by have:=hsay.2.2;rw[bQ];unfold fB at this;omega
 have hm0:M.its.length=0:=by rw[hM];rfl
 have hml:M.its.length≤1099511627776:=oO
 have e1:fstS B M=B.x:=by unfold fstS;rw[hM]
 have e2:lstS A M=A.x:=by unfold lstS;rw[hM];rfl
 have hfl0:=eB.pl hw hL hs
 refine bO (hE.fn Tryz.func161) O O O (fun R=>?_)
 simp only[dU,uV,uW]
 refine gg11 ?_
 refine bE O (fun h0=>?_) (fun h0=>?_)
 ·exfalso;omega
 refine gg19 ?_
 refine uX (kI hE (b:=S) (pre:=[uPt pp,uPt pp,.bool false,.slice A.p A.fs.length A.c,.int .i64 (A.x:Nat),.int .u64 (key (rls Es) A.x:Nat)]) (suf:=[.slice M.p M.its.length M.c]) (fs:=B.fs) hfl0) O ?_
 rintro v _⟨⟨o,ho,hv⟩,rfl⟩
 simp only[uV,uW]
 refine gg3 ?_
 cases o with
 |none=>
  obtain rfl:v= .pointer none:=hv
  refine gg29 ?_
  refine dY 42 O (fun h4=>?_) (fun h4=>?_)
  rotate_left
  ·exfalso;omega
  refine gg17 ?_
  exact uZ O .nil ⟨O,O⟩
 |some f=>
  have hf2:=qKh hw hs eB hb ho hev fb
  obtain⟨gs,g,hfs,hp,rfl⟩:=hv
  have f7:(dW (rls Es) B.fs)[(dW (rls Es) gs).length+7]?=some (.int .i64 (f.hv:Nat)):=by rw[hfs];exact sG
  rw[hp]
  refine gg18 ?_
  refine bE O (fun h2=>?_) (fun h2=>?_)
  rotate_left
  ·exfalso;omega
  refine gg15 ?_
  refine dY 42 O (fun h4=>?_) (fun h4=>?_)
  rotate_left
  ·exfalso;omega
  refine gg17 ?_
  exact uZ O .nil ⟨O,O⟩
structure Calm (L:List Rl)(l:Nat)(A B:Sd):Prop where
 fa:Ful L A.fs
 fb:Ful L B.fs
 ha:A.x≠0
 hb:B.x≠0
 ne:(l+1)%2=1→A.x≠B.x
 nl:(l+1)%2=0→Par L (l+1) A.fs none→¬eO (num (l+1)) (key L A.x) (key L B.x)
 nr:(l+1)%2=0→num (l+1)≠122→¬eO (num (l+1)) (key L A.x) (key L B.x)
theorem qCq (hE:Seat E)(hB:Base E.w0){l rl rr:Nat}{A B:Sd}{M:Md}(hs:Sig (rls Es) rl)(hsr:Sig (rls Es) rr)(eA:EO (rls Es) false l rl A.x A.fs)(eB:EO (rls Es) true l rr B.x B.fs)(hM:M.its=[])(hc:Calm (rls Es) l A B)(hll:l+1<1000000000000)(h1l:1≤l+1):
  Ct E 145 [uPt S,.int .i64 ((l+1:Nat):Int)] [cells pp [uPt s,uPt tb] 97,tabP tb s (rls Es),bR s most Es,cells S [uPt pp,uPt pp,.bool false,.slice A.p A.fs.length A.c,.int .i64 (A.x:Nat),.int .u64 (key (rls Es) A.x:Nat),uPt pp,.bool true,.slice B.p B.fs.length B.c,.int .i64 (B.x:Nat),.int .u64 (key (rls Es) B.x:Nat),.slice M.p M.its.length M.c] 257,sl A.p A.c 266 8 A.fs.length (dW (rls Es) A.fs),sl B.p B.c 266 8 B.fs.length (dW (rls Es) B.fs),sl M.p M.c 278 4 M.its.length (itsC (rls Es) M.its)] (fun v Q=>v= .tuple #[]∧Q=[cells pp [uPt s,uPt tb] 97,tabP tb s (rls Es),bR s most Es,cells S [uPt pp,uPt pp,.bool false,.slice A.p A.fs.length A.c,.int .i64 (A.x:Nat),.int .u64 (key (rls Es) A.x:Nat),uPt pp,.bool true,.slice B.p B.fs.length B.c,.int .i64 (B.x:Nat),.int .u64 (key (rls Es) B.x:Nat),.slice M.p M.its.length M.c] 257,sl A.p A.c 266 8 A.fs.length (dW (rls Es) A.fs),sl B.p B.c 266 8 B.fs.length (dW (rls Es) B.fs),sl M.p M.c 278 4 M.its.length (itsC (rls Es) M.its)]):=by
 obtain⟨fa,fb,ha,hb,ne,nl,nr⟩:=hc
 refine bO (hE.fn Tryz.func145) O O O (fun R=>?_)
 simp only[dU,uV,uW]
 refine gg8 ?_
 refine bE O (fun h0=>?_) (fun h0=>?_)
 ·have hodd:(l+1)%2=1:=oO
  refine gg4 ?_
  refine uX (qCh hE hB (S:=S) hs hsr eA eB fa fb ha hb hM (ne hodd) hodd oO) O ?_
  rintro _ _⟨rfl,rfl⟩
  simp only[uV,uW]
  refine gg4 ?_
  exact uZ O .nil ⟨O,O⟩
 have hev:(l+1)%2=0:=oO
 have h2l:2≤l+1:=oO
 have hlt:l+1<1099511627776:=oO
 refine gg5 ?_
 refine uX (vY hE h2l hev hlt) O ?_
 rintro _ _⟨⟨q1,q2,d,rfl,hd⟩,rfl⟩
 simp only[uV,uW]
 refine gg13 ?_
 refine uX (qCf hE hB (S:=S) (rr:=rr) hs eA fa ha hb hM (nl hev) hev hlt) O ?_
 rintro _ _⟨rfl,rfl⟩
 simp only[uV,uW]
 refine gg7 ?_
 cases d with
 |true=>
  refine gg4 ?_
  refine uX (xJ hE hB (S:=S) (rl:=rl) hsr eB fb hb hM hev hll) O ?_
  rintro _ _⟨rfl,rfl⟩
  simp only[uV,uW]
  refine gg1 ?_
  exact uZe O .nil ⟨O,O⟩
 |false=>
  have hn:num (l+1)≠122:=fun h=>by have:=hd.2 h;cases this
  refine gg4 ?_
  refine uX (zZ hE hB (S:=S) (rl:=rl) hsr eB fb ha hb hM (nr hev hn) hev hlt) O ?_
  rintro _ _⟨rfl,rfl⟩
  simp only[uV,uW]
  refine gg1 ?_
  exact uZe O .nil ⟨O,O⟩
end
section
variable {E:Env}{Es:List Ent}{pp tb s most S:Nat}
structure ClI (L:List Rl)(a b:Nat)(q:ApG):Prop where
 ea:EO L false q.l a q.A.x q.A.fs
 eb:EO L true q.l b q.B.x q.B.fs
 ra:seqE L false q.l q.A.x q.A.fs=expd L q.l a
 rb:seqE L true q.l q.B.x q.B.fs=expd L q.l b
 fa:Ful L q.A.fs
 fb:Ful L q.B.fs
 ha:q.A.x≠0
 hb:q.B.x≠0
 em:q.C.its=[]
theorem ClI.last {L:List Rl}{a b l:Nat}{A B:Sd}{C:Md}(h:ClI L a b ⟨l,A,B,C⟩):(expd L l a).getLast?=some A.x∧(expd L l b).head?=some B.x:=by
 have h1:=h.ra
 have h2:=h.rb
 simp only at h1 h2
 exact⟨by rw[←h1];exact h.ea.last h.ha,by rw[←h2];exact h.eb.head h.hb⟩
theorem ClI.next {L:List Rl}(hw:Wf L){a b l:Nat}{A B:Sd}{C C':Md}(sa:Sig L a)(sb:Sig L b)(h:ClI L a b ⟨l,A,B,C⟩)(hC:C'.its=[]):ClI L a b ⟨l+1,upS L (l+1) A,upS L (l+1) B,C'⟩:=by
 have h1:=h.ea.up hw sa (h.fa.bb _)
 have h2:=h.eb.up hw sb (h.fb.bb _)
 have ra:=h.ra
 have rb:=h.rb
 simp only at ra rb h1 h2
 rw[ra]at h1
 rw[rb]at h2
 have s1:=sa.step (l+1) oO
 have s2:=sb.step (l+1) oO
 rw[Nat.add_sub_cancel]at s1 s2
 refine⟨h1.1,h2.1,h1.2.fn hw s1,h2.2.fn hw s2,h.fa.up,h.fb.up,?_,?_,hC⟩
 ·exact up_ne (h.ea.ids hw sa).2 h.ha
 exact up_ne (h.eb.ids hw sb).2 h.hb
theorem qKu {L:List Rl}{lv x:Nat}{fs:List Fm}(h:Par L lv fs none):upF L lv x fs=(x,fs):=by
 rcases List.eq_nil_or_concat fs with rfl|⟨gs,f,rfl⟩
 ·rfl
 rw[List.concat_eq_append]at*
 rw[kT,if_neg]
 intro hc
 exact h f gs O hc.1
theorem ClI.calm {L:List Rl}(hw:Wf L){a b l:Nat}{A B:Sd}{C:Md}(sa:Sig L a)(sb:Sig L b)(h:ClI L a b ⟨l,A,B,C⟩)(hb:Bdry L (l+1) (expd L l a) (expd L (l+1) a) (expd L l b)):Calm L l A B:=by
 obtain⟨q1,q2⟩:=h.last
 have hbd:=hb A.x B.x q1 q2
 have hlast:Par L (l+1) A.fs none→(expd L (l+1) a).getLast?=some A.x:=fun hp=>by
  have hn:=h.next hw sa sb (C':=⟨[],none,0⟩) O
  have:=hn.last.1
  have e:(upS L (l+1) A).x=A.x:=by unfold upS;rw[qKu hp]
  rwa [e]at this
 refine⟨h.fa,h.fb,h.ha,h.hb,fun ho=>?_,fun he hp=>?_,fun he hn=>?_⟩
 ·rwa [if_pos ho]at hbd
 ·rw[if_neg oO]at hbd
  exact hbd (hlast hp)
 rw[if_neg oO]at hbd
 intro hf
 have hq:=sa.step (l+1) oO
 unfold Sq at hq
 rw[if_neg oO,Nat.add_sub_cancel]at hq
 rcases qHy hq q1 with hl|⟨z,hz⟩
 ·exact hbd hl hf
 exact qFm hn hz hf
theorem ClI.calm2 {L:List Rl}(hw:Wf L){a b l:Nat}{A B:Sd}{C:Md}(sa:Sig L a)(sb:Sig L b)(hab:a≠b)(h:ClI L a b ⟨l,A,B,C⟩)(h1:lvl L a≤(l:Nat))(h2:lvl L b≤(l:Nat))(h3:l+1<aft L a b):Calm L l A B:=by
 obtain⟨q1,q2⟩:=h.last
 rw[dZ sa.pos h1]at q1
 rw[dZ sb.pos h2]at q2
 have e1:a=A.x:=by simpa using q1
 have e2:b=B.x:=by simpa using q2
 have hnf:(l+1)%2=0→¬eO (num (l+1)) (key L A.x) (key L B.x):=fun he hf=>by
  rw[←e1,←e2]at hf
  have:=zT hw (u:=a) (v:=b) (k:=l+1) oO oO oO he hf
  omega
 exact⟨h.fa,h.fb,h.ha,h.hb,fun _ e=>hab (by rw[e1,e2,e]),fun he _=>hnf he,fun he _=>hnf he⟩
theorem qQx (hE:Seat E)(hB:Base E.w0){l a b:Nat}{A B:Sd}{M:Md}(sa:Sig (rls Es) a)(sb:Sig (rls Es) b)(ea:EO (rls Es) false l a A.x A.fs)(eb:EO (rls Es) true l b B.x B.fs)(hM:M.its=[])(hll:l+1<1000000000000):
  Ct E 167 [uPt S,.int .i64 ((l+1:Nat):Int)] [cells pp [uPt s,uPt tb] 97,tabP tb s (rls Es),bR s most Es,cells S [uPt pp,uPt pp,.bool false,.slice A.p A.fs.length A.c,.int .i64 (A.x:Nat),.int .u64 (key (rls Es) A.x:Nat),uPt pp,.bool true,.slice B.p B.fs.length B.c,.int .i64 (B.x:Nat),.int .u64 (key (rls Es) B.x:Nat),.slice M.p M.its.length M.c] 257,sl A.p A.c 266 8 A.fs.length (dW (rls Es) A.fs),sl B.p B.c 266 8 B.fs.length (dW (rls Es) B.fs),sl M.p M.c 278 4 M.its.length (itsC (rls Es) M.its)]
   (fun v Q=>∃M':Md,v= .nilIface∧M'.its=[]∧Q=[cells pp [uPt s,uPt tb] 97,tabP tb s (rls Es),bR s most Es,cells S [uPt pp,uPt pp,.bool false,.slice (upS (rls Es) (l+1) A).p (upS (rls Es) (l+1) A).fs.length (upS (rls Es) (l+1) A).c,.int .i64 ((upS (rls Es) (l+1) A).x:Nat),.int .u64 (key (rls Es) (upS (rls Es) (l+1) A).x:Nat),uPt pp,.bool true,.slice (upS (rls Es) (l+1) B).p (upS (rls Es) (l+1) B).fs.length (upS (rls Es) (l+1) B).c,.int .i64 ((upS (rls Es) (l+1) B).x:Nat),.int .u64 (key (rls Es) (upS (rls Es) (l+1) B).x:Nat),.slice M'.p M'.its.length M'.c] 257,sl (upS (rls Es) (l+1) A).p (upS (rls Es) (l+1) A).c 266 8 (upS (rls Es) (l+1) A).fs.length (dW (rls Es) (upS (rls Es) (l+1) A).fs),sl (upS (rls Es) (l+1) B).p (upS (rls Es) (l+1) B).c 266 8 (upS (rls Es) (l+1) B).fs.length (dW (rls Es) (upS (rls Es) (l+1) B).fs),sl M'.p M'.c 278 4 M'.its.length (itsC (rls Es) M'.its)]):=by
 refine eQ (p:=bR s most Es) uK (fun _ h=>dR h) (fun hsay=>?_)
 have hf0:dS M.its=[]:=by rw[hM];rfl
 have hR:∀x∈dS M.its,1≤x∧x≤(rls Es).length:=fun x hx=>by rw[hf0]at hx;simp at hx
 have hadj:∀P x y R,dS M.its=P++[x,y]++R→len (rls Es) x+len (rls Es) y≤dC:=fun P x y R e=>by rw[hf0]at e;simp at e
 have hrun:∀P x t R,dS M.its=P++List.replicate t x++R→len (rls Es) x*t≤dC:=fun P x t R e=>by
  rw[hf0]at e
  have:t=0:=by
   have:=congrArg List.length e
   simp at this
   omega
  subst this
  simp
 have hfl:(dS M.its).length=0:=by rw[hf0];rfl
 have hfl9:(dS M.its).length≤1000000000:=oO
 have hrm:Es.length+(dS M.its).length≤most:=by have:=hsay.2.2.2;omega
 have hsg:Sng M.its:=fun it h=>by rw[hM]at h;simp at h
 have hone:∀it∈M.its,it.times=1:=fun it h=>by rw[hM]at h;simp at h
 have hit:ItT (rls Es) M.its:=fun it h=>by rw[hM]at h;simp at h
 refine bO (hE.fn Tryz.func167) O O O (fun R=>?_)
 simp only[dU,uV,uW]
 refine gg10 ?_
 refine nS (fun q:Md=>[(0,uPt S),(1,.int .i64 ((l+1:Nat):Int)),(5,.nilIface)]) (fun q=>[cells pp [uPt s,uPt tb] 97,tabP tb s (rls Es),bR s most Es,cells S [uPt pp,uPt pp,.bool false,.slice A.p A.fs.length A.c,.int .i64 (A.x:Nat),.int .u64 (key (rls Es) A.x:Nat),uPt pp,.bool true,.slice B.p B.fs.length B.c,.int .i64 (B.x:Nat),.int .u64 (key (rls Es) B.x:Nat),.slice q.p q.its.length q.c] 257,sl A.p A.c 266 8 A.fs.length (dW (rls Es) A.fs),sl B.p B.c 266 8 B.fs.length (dW (rls Es) B.fs),sl q.p q.c 278 4 q.its.length (itsC (rls Es) q.its),R]) (fun q=>q.its=[]) ?_ ?_
 ·refine gg7 ?_
  refine bE O (fun h0=>?_) (fun h0=>?_)
  ·refine gg3 ?_
   refine uX (yM hE hB (pp:=pp) (S:=S) (cs:=[uPt pp,uPt pp,.bool false,.slice A.p A.fs.length A.c,.int .i64 (A.x:Nat),.int .u64 (key (rls Es) A.x:Nat),uPt pp,.bool true,.slice B.p B.fs.length B.c,.int .i64 (B.x:Nat),.int .u64 (key (rls Es) B.x:Nat),.slice M.p M.its.length M.c]) (its:=M.its) (p:=M.p) (c:=M.c) O O hsg hfl9 hR hrun hrm) O ?_
   rintro _ _⟨N,out,p',c',rfl,hN,hN2,hrg,rfl⟩
   obtain rfl:N=[]:=List.eq_nil_of_length_eq_zero oO
   obtain rfl:out=[]:=List.eq_nil_of_length_eq_zero oO
   simp only[List.append_nil]
   simp only[uV,uW]
   refine gg8 ?_
   refine fJ (ι:=Md) ⟨[],p',c'⟩ O ⟨O,O,O,trivial⟩ ?_
   exact uI
  have hev:(l+1)%2=0:=oO
  have h2l:2≤l+1:=oO
  have hlt:l+1<1099511627776:=oO
  refine gg3 ?_
  refine uX (vY hE h2l hev hlt) O ?_
  rintro _ _⟨⟨q1,q2,d,rfl,hd⟩,rfl⟩
  simp only[uV,uW]
  refine gg14 ?_
  cases d with
  |true=>
   refine gg4 ?_
   refine uX (pV hE hB (pp:=pp) (S:=S) (cs:=[uPt pp,uPt pp,.bool false,.slice A.p A.fs.length A.c,.int .i64 (A.x:Nat),.int .u64 (key (rls Es) A.x:Nat),uPt pp,.bool true,.slice B.p B.fs.length B.c,.int .i64 (B.x:Nat),.int .u64 (key (rls Es) B.x:Nat),.slice M.p M.its.length M.c]) (its:=M.its) (p:=M.p) (c:=M.c) O O hit hfl9 hR hadj hrm) O ?_
   rintro _ _⟨N,l2,p',c',rfl,hN,hpg,hsn,rfl⟩
   obtain rfl:N=[]:=List.eq_nil_of_length_eq_zero oO
   obtain rfl:l2=[]:=qDd hsn (List.eq_nil_of_length_eq_zero oO)
   simp only[List.append_nil]
   simp only[uV,uW]
   refine gg8 ?_
   refine fJ (ι:=Md) ⟨[],p',c'⟩ O ⟨O,O,O,trivial⟩ ?_
   exact uI
  |false=>
   refine gg5 ?_
   refine uX (vW hE hB (pp:=pp) (S:=S) (cs:=[uPt pp,uPt pp,.bool false,.slice A.p A.fs.length A.c,.int .i64 (A.x:Nat),.int .u64 (key (rls Es) A.x:Nat),uPt pp,.bool true,.slice B.p B.fs.length B.c,.int .i64 (B.x:Nat),.int .u64 (key (rls Es) B.x:Nat),.slice M.p M.its.length M.c]) (its:=M.its) (p:=M.p) (c:=M.c) O O hsg hone hfl9 hR hadj hrm h2l hev hlt) O ?_
   rintro _ _⟨N,l2,p',c',rfl,hN,hpg,hsn,rfl⟩
   obtain rfl:N=[]:=List.eq_nil_of_length_eq_zero oO
   obtain rfl:l2=[]:=qDd hsn (List.eq_nil_of_length_eq_zero oO)
   simp only[List.append_nil]
   simp only[uV,uW]
   refine gg8 ?_
   refine fJ (ι:=Md) ⟨[],p',c'⟩ O ⟨O,O,O,trivial⟩ ?_
   exact uI
 rintro M' hM'
 refine gg6 ?_
 refine uX (qJz hE hB (Es:=Es) (b:=S) (pre:=[uPt pp]) (suf:=[uPt pp,.bool true,.slice B.p B.fs.length B.c,.int .i64 (B.x:Nat),.int .u64 (key (rls Es) B.x:Nat),.slice M'.p M'.its.length M'.c]) (fs:=A.fs) sa ea) O ?_
 rintro _ _⟨rfl,rfl⟩
 simp only[uV,uW]
 refine gg8 ?_
 refine uX (qJz hE hB (Es:=Es) (b:=S) (pre:=[uPt pp,uPt pp,.bool false,.slice (upS (rls Es) (l+1) A).p (upS (rls Es) (l+1) A).fs.length (upS (rls Es) (l+1) A).c,.int .i64 ((upS (rls Es) (l+1) A).x:Nat),.int .u64 (key (rls Es) (upS (rls Es) (l+1) A).x:Nat)]) (suf:=[.slice M'.p M'.its.length M'.c]) (fs:=B.fs) sb eb) O ?_
 rintro _ _⟨rfl,rfl⟩
 simp only[uV,uW]
 refine gg9 ?_
 exact uZ O (.tmp O .nil) ⟨M',O,hM',O⟩
end
section
variable {E:Env}{Es:List Ent}{pp tb s most:Nat}

theorem Sig.short {L:List Rl}(hw:Wf L){x:Nat}(h:Sig L x):lvl L x≤25544:=(h.sn hw).lv hw (hw.short x)
theorem ClI.spi {L:List Rl}(hw:Wf L){i a b l:Nat}{A B:Sd}{C:Md}(hr:L[i]?=some (.pair a b))(hs:Sig L (i+1))(sa:Sig L a)(sb:Sig L b)(h:ClI L a b ⟨l,A,B,C⟩)(hl:lvl L (i+1)=((l+1:Nat):Int)):SpI L (txt L (i+1)) l a b A B C∧rowS L l A B C=[a,b]:=by
 obtain⟨g1,g2,g3,g4,_⟩:=kR hw (x:=i+1) oO hr hs.lv
 have ra:=h.ra
 have rb:=h.rb
 have em:=h.em
 simp only at ra rb em
 have e1:expd L l (i+1)=[a,b]:=by
  rw[fK hw hr oO,dZ sa.pos oO,dZ sb.pos oO]
  rfl
 have hrow:rowS L l A B C=[a,b]:=by
  unfold rowS
  rw[ra,rb,em,qHu,List.nil_append,dZ sa.pos oO,dZ sb.pos oO]
  rfl
 have hc:=hs.rch hw (l+1) oO oO
 rw[Nat.add_sub_cancel,e1]at hc
 refine⟨⟨sa,sb,h.ea,h.eb,by rw[hrow];exact hc,?_,fun it hi=>by rw[em]at hi;simp at hi,fun _ it hi=>by rw[em]at hi;simp at hi,fun _=>⟨h.ha,h.hb⟩⟩,hrow⟩
 rw[hrow]
 have hk:=hw.ok _ _ hr
 rw[jQ hr hk]
 simp[rowT]
theorem qLs {L:List Rl}(hw:Wf L){a b:Nat}{A B:Sd}(p:Option Addr)(c:Nat)(sa:Sig L a)(sb:Sig L b)(da:Dn L false 0 a [] A.x A.fs)(db:Dn L true 0 b [] B.x B.fs)(ha:lvl L A.x≤((0:Nat):Int))(hb:lvl L B.x≤((0:Nat):Int)):ClI L a b ⟨0,A,B,⟨[],p,c⟩⟩:=by
 obtain⟨a1,a2,a3,ws,a4,a5⟩:=da.ok hw sa .nil (by simp)
 obtain⟨b1,b2,b3,vs,b4,b5⟩:=db.ok hw sb .nil (by simp)
 have oa:=a1.ok hw sa
 have ob:=b1.ok hw sb
 have ea:seqE L false 0 A.x A.fs=expd L 0 a:=by rw[←a3];simp[seqE,mZ,cat]
 have eb:seqE L true 0 B.x B.fs=expd L 0 b:=by rw[←b3];simp[seqE,mZ,cat]
 exact⟨⟨.inr ⟨oa.1,a1,ha⟩,a2⟩,⟨.inr ⟨ob.1,b1,hb⟩,b2⟩,ea,eb,fun f hf=>a5 f (by rw[a4]at hf;simpa using hf),fun f hf=>b5 f (by rw[b4]at hf;simpa using hf),by have:=oa.1;simp only;omega,by have:=ob.1;simp only;omega,rfl⟩
theorem qOm (hE:Seat E)(hB:Base E.w0){i a b:Nat}(hr:(rls Es)[i]?=some (.pair a b))(hs:Sig (rls Es) (i+1))(hroom:Es.length+2≤most):
  Ct E 148 [uPt pp,.int .i64 (a:Nat),.int .i64 (len (rls Es) a:Nat),.int .i64 (b:Nat),.int .i64 0] [cells pp [uPt s,uPt tb] 97,tabP tb s (rls Es),bR s most Es]
   (fun v Q=>∃M,v= .tuple #[.int .i64 ((i+1:Nat):Int),.nilIface]∧M.length≤1∧Q=[cells pp [uPt s,uPt tb] 97,tabP tb s (rls (Es++M)),bR s most (Es++M)]):=by
 refine eQ (p:=bR s most Es) uK (fun _ h=>dR h) (fun hsay=>?_)
 have hw:=hsay.1
 have hmx:dC=1152921504606846976:=rfl
 obtain⟨d1,d2,_⟩:=hs.down2 hw hr
 have sa:=(d1 a (by simp[kids])).1
 have sb:=(d1 b (by simp[kids])).1
 have hn:=d2 a b O
 have hlx:=hs.short hw
 have lva:=sa.short hw
 have lvb:=sb.short hw
 obtain⟨u1,u2,u3,u4,_⟩:=kR hw (x:=i+1) oO hr hs.lv
 have hk:=hw.ok _ _ hr
 have gp:=(jM hr hk).2
 rw[if_pos ⟨u2,sa.lv,sb.lv⟩]at gp
 have sal:=sa.lv
 have sbl:=sb.lv
 have haf:lvl (rls Es) (i+1)=(aft (rls Es) a b:Nat):=gp
 clear gp
 have ga:good (rls Es) a:=⟨sa.le,sa.lv⟩
 have gb:good (rls Es) b:=⟨sb.le,sb.lv⟩
 have pa:=vK hw a sa.pos sa.le
 have pb:=vK hw b sb.pos sb.le
 have hln:=qW hr hk
 have hsx:=hw.short (i+1)
 have hap:=sa.pos
 have hbp:=sb.pos
 obtain⟨X,hX⟩:∃X,aft (rls Es) a b=X:=⟨_,rfl⟩
 rw[hX]at haf
 refine bO (hE.fn Tryz.func148) O O O (fun R=>?_)
 simp only[dU,uV,uW]
 refine gg16 ?_
 refine zR 3 ?_
 refine gg22 ?_
 refine uX (xI hE hB ga) O ?_
 rintro _ _⟨rfl,rfl⟩
 simp only[uV,uW]
 refine gg19 ?_
 refine bE O (fun g1=>?_) (fun g1=>?_)
 ·exfalso;omega
 refine gg30 ?_
 refine uX (xI hE hB gb) O ?_
 rintro _ _⟨rfl,rfl⟩
 simp only[uV,uW]
 refine gg19 ?_
 refine bE O (fun g2=>?_) (fun g2=>?_)
 ·exfalso;omega
 refine gg25 ?_
 refine uX (qJ hE gb.1) O ?_
 rintro _ _⟨rfl,rfl⟩
 simp only[uV,uW]
 refine gg2 ?_
 refine l_eq 44 (.int .i64 (len (rls Es) b:Nat)) O (bW oO) ?_
 refine gg10 ?_
 refine dY 48 O (fun h1=>?_) (fun h1=>?_)
 ·exfalso;omega
 refine gg12 ?_
 refine dY 56 O (fun h2=>?_) (fun h2=>?_)
 ·exfalso;omega
 refine gg15 ?_
 refine dY 67 O (fun h3=>?_) (fun h3=>?_)
 ·exfalso;omega
 refine gg16 ?_
 refine uX (vX hE hB sa) O ?_
 rintro _ _⟨ya,ga',p1,c1,rfl,da,da0,rfl⟩
 simp only[uV,uW]
 refine gg3 ?_
 refine uX (vX hE hB sb) O ?_
 rintro _ _⟨yb,gb',p2,c2,rfl,db,db0,rfl⟩
 simp only[uV,uW]
 refine gg1 ?_
 refine uU (dA (hE.t O) (fun b17=>?_))
 refine gg9 ?_
 have hst:=qLs (A:=⟨ya,ga',p1,c1⟩) (B:=⟨yb,gb',p2,c2⟩) hw none 0 sa sb da db da0 db0
 have hx0:0<X:=oO
 refine jE (iP (t:=278) (sz:=4)) ?_
 refine eZ (fun x:ApG=>[(0,uPt pp),(17,uPt b17),(18,.int .i64 ((x.l+1:Nat):Int))]) (fun x=>[cells pp [uPt s,uPt tb] 97,tabP tb s (rls Es),bR s most Es,cells b17 [uPt pp,uPt pp,.bool false,.slice x.A.p x.A.fs.length x.A.c,.int .i64 (x.A.x:Nat),.int .u64 (key (rls Es) x.A.x:Nat),uPt pp,.bool true,.slice x.B.p x.B.fs.length x.B.c,.int .i64 (x.B.x:Nat),.int .u64 (key (rls Es) x.B.x:Nat),.slice x.C.p x.C.its.length x.C.c] 257,sl x.A.p x.A.c 266 8 x.A.fs.length (dW (rls Es) x.A.fs),sl x.B.p x.B.c 266 8 x.B.fs.length (dW (rls Es) x.B.fs),sl x.C.p x.C.c 278 4 x.C.its.length (itsC (rls Es) x.C.its),R]) (fun x=>30000-x.l) (fun x=>ClI (rls Es) a b x∧x.l<X) ⟨0,⟨ya,ga',p1,c1⟩,⟨yb,gb',p2,c2⟩,⟨[],none,0⟩⟩ ⟨hst,hx0⟩ ⟨O,O,O,trivial⟩ uI ?_
 clear hst
 rintro⟨l,A,B,C⟩⟨hI,hlX⟩
 simp only at hlX ⊢
 have hea:=hI.ea
 have heb:=hI.eb
 have hem:=hI.em
 simp only at hea heb hem
 refine gg5 ?_
 by_cases hlast:l+1<X
 ·have hcalm:Calm (rls Es) l A B:=by
   by_cases hm:((l+1:Nat):Int)≤max (lvl (rls Es) a) (lvl (rls Es) b)
   ·have hbd:=(hn (l+1) oO hm).1
    rw[Nat.add_sub_cancel]at hbd
    exact hI.calm hw sa sb hbd
   exact hI.calm2 hw sa sb u2 oO oO oO
  refine uX (qCq hE hB (S:=b17) sa sb hea heb hem hcalm oO oO) O ?_
  rintro _ _⟨rfl,rfl⟩
  simp only[uV,uW]
  refine gg6 ?_
  refine uX (qQx hE hB (S:=b17) (most:=most) sa sb hea heb hem oO) O ?_
  rintro _ _⟨C2,rfl,hC2,rfl⟩
  simp only[uV,uW]
  have hnx:=hI.next hw sa sb hC2
  have hxa:(upS (rls Es) (l+1) A).x≠0:=hnx.ha
  generalize upS (rls Es) (l+1) A=A2 at hnx hxa ⊢
  generalize upS (rls Es) (l+1) B=B2 at hnx ⊢
  refine gg19 ?_
  refine dY 94 O (fun h4=>?_) (fun h4=>?_)
  ·exfalso;omega
  refine gg30 ?_
  refine jU 18 (.int .i64 ((l+1+1:Nat):Int)) O (bW oO) ?_
  refine bS (ι:=ApG) (j:=⟨l+1,A2,B2,C2⟩) ⟨hnx,hlast⟩ (by show 30000-(l+1)<30000-l;omega) ⟨O,O,O,trivial⟩ ?_
  exact uI
 have hlX2:X=l+1:=oO
 obtain⟨hSp,hrow⟩:=hI.spi hw hr hs sa sb (by rw[haf,hlX2])
 have hids:∀x∈dS C.its,1≤x∧x≤(rls Es).length:=fun x hx=>hSp.mem hw x (by unfold rowS;simp[hx])
 have hr2:(rowS (rls Es) l A B C).length=2:=by rw[hrow];rfl
 have hrl:(seqE (rls Es) false l A.x A.fs++(dS C.its++seqE (rls Es) true l B.x B.fs)).length≤1000000000:=by show(rowS (rls Es) l A B C).length≤_;omega
 refine uX (qQu hE hB (Es:=Es) (S:=b17) sa sb hSp.ea hSp.eb hSp.sng hSp.one hids hrl oO oO) O ?_
 rintro _ _⟨A1,B1,C1,rfl,hrd,rfl⟩
 simp only[uV,uW]
 refine gg6 ?_
 refine uX (ct_merge hE hB (Es:=Es) (S:=b17) (most:=most) hSp oO hrd (hw.short (i+1)) oO oO oO) O ?_
 rintro _ _⟨N,A2,B2,C2,rfl,hI2,hN,hN2,rfl⟩
 simp only[uV,uW]
 refine lV (p:=bR s most (Es++N)) uK (fun _ h=>dR h) ?_
 rintro⟨hw3, -, -, -⟩
 have hxl:i+1≤(rls Es).length:=hs.le
 have hsn:Sn (rls (Es++N)) (txt (rls Es) (i+1)) (i+1):=by rw[dB];exact(hs.sn hw).ext _
 have hlv2:lvl (rls (Es++N)) (i+1)=((l+1:Nat):Int):=by rw[dB,jX _ hxl,haf,hlX2]
 obtain⟨hA,hB2,it,hit,htm⟩:A2.x=0∧B2.x=0∧∃it,C2.its=[it]∧it.times=1:=by
  apply Classical.byContradiction
  intro hno
  have h2:=hI2.two_left hno
  have hc:=hI2.ch
  have hy:Rch (rls (Es++N)) (txt (rls Es) (i+1)) (l+1+1) [i+1]:=by
   rw[dB]
   have:=(hs.rch hw (l+1+1) oO oO).ext (rls N)
   rwa [Nat.add_sub_cancel,dZ hs.pos oO]at this
  have:=hc.fn hw3 hy
  rw[this]at h2
  simp at h2
 obtain⟨its2,p3,c3⟩:=C2
 simp only at hit hI2 hN ⊢
 subst hit
 obtain⟨r1,r2,r3,r4,r5,r6,r7⟩:=hI2.one_left hw3 hA hB2 rfl htm
 have hid:it.id=i+1:=Sg.fn hw3 r1 hsn.sg
 rw[hA,hB2]
 refine gg19 ?_
 refine dY 94 O (fun h4=>?_) (fun h4=>?_)
 rotate_left
 ·exact absurd O h4
 refine gg10 ?_
 refine dY 100 O (fun h5=>?_) (fun h5=>?_)
 rotate_left
 ·exact absurd O h5
 refine gg10 ?_
 refine dY 106 O (fun h6=>?_) (fun h6=>?_)
 rotate_left
 ·exact absurd O h6
 refine lV (p:=sl p3 c3 278 4 [it].length (itsC (rls (Es++N)) [it])) uK (fun _ h=>eU h (by simp)) ?_
 rintro⟨g,rfl⟩
 rw[iR]
 have hl1:(1:Int)≤(([it].length:Nat):Int):=by simp
 rw[htm,hid]
 refine gg15 ?_
 refine bE O (fun h7=>?_) (fun h7=>?_)
 rotate_left
 ·exact absurd O h7
 refine gg16 ?_
 exact uZ O (.tmp O (.tmp O .nil)) ⟨N,O,oO,O⟩
end
end Go.Proofs.YtlmpojkmeglepaaGreatDoor
