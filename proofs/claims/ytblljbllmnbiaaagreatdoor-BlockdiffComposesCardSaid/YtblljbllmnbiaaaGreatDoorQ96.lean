import Derived.Test.YtblljbllmnbiaaaGreatDoorQ95
set_option linter.all false
set_option maxHeartbeats 1000000
namespace Go.Proofs.YtblljbllmnbiaaaGreatDoor
open Go Go.RowKit Sl Eg
set_option maxRecDepth 10000
section
def farR (bh:Bool):Rl→Nat
 | .pair a b=>if bh then b else a
 | .power y _=>y
 | .letter _=>0
def hvN (L:List Rl)(bh:Bool)(n:Nat)(r:Rl):Nat:=if n≤len L (farR bh r)then 1 else match r with
 | .power y _=>(n-1)/len L y+1
 |_=>2
theorem Sig.exp_len {L:List Rl}(hw:Wf L){x:Nat}(h:Sig L x):(expd L 0 x).length=len L x:=(h.lts hw).length
theorem Lk.sig {L:List Rl}(hw:Wf L){bh:Bool}{root x:Nat}{fs:List Fm}(h:Lk L bh root x fs)(hs:Sig L root):Sig L x:=by
 induction h with
 |nil=>exact hs
 | @snoc x hv fs r h1 h2 h3 h4 h5 h6 ih=>
  obtain⟨i,rfl⟩:∃i,x=i+1:=⟨x-1,oO⟩
  rw[Nat.add_sub_cancel]at h3
  have hd:=(ih.down2 hw h3).1
  cases r with
  |letter b=>exact absurd rfl (h4 b)
  |pair a b=>
   unfold gK
   simp only
   split
   ·exact(hd b (by simp[kids])).1
   exact(hd a (by simp[kids])).1
  |power y k=>exact(hd y (by simp[kids])).1
theorem qTj {n k f:Nat}(h:n<k*f):n/f<k:=Nat.div_lt_of_lt_mul (by rw[Nat.mul_comm];exact h)
theorem new_step {L:List Rl}(hw:Wf L){bh:Bool}{i n:Nat}{r:Rl}(hs:Sig L (i+1))(hr:L[i]?=some r)(h1:1≤n)(h2:n<len L (i+1)):
  (∀b,r≠ .letter b)∧1≤hvN L bh n r∧hvN L bh n r≤fG r∧1≤farR bh r∧farR bh r≤L.length∧1≤len L (farR bh r)∧(∃n',n'+(hvN L bh n r-1)*len L (farR bh r)=n∧1≤n'∧n'≤len L (gK bh (hvN L bh n r) r))∧(eG L 0 (mR bh (hvN L bh n r) r)).length=(hvN L bh n r-1)*len L (farR bh r):=by
 have hok:=hw.ok _ _ hr
 have hi:=(List.getElem?_eq_some_iff.1 hr).1
 have hd:=(hs.down2 hw hr).1
 cases r with
 |letter b=>
  have e:len L (i+1)=1:=by unfold len;rw[lU hr];rfl
  omega
 |pair a b=>
  have hk:=hok
  simp only[Rl.ok]at hk
  have e:len L (i+1)=len L a+len L b:=by unfold len;rw[mU hr hok,List.length_append]
  have ea:=((hd a (by simp[kids])).1).exp_len hw
  have eb:=((hd b (by simp[kids])).1).exp_len hw
  have pa:=hw.pos a oO oO
  have pb:=hw.pos b oO oO
  have hwh:fG (.pair a b)=2:=rfl
  refine⟨fun c h=>Rl.noConfusion h,?_⟩
  cases bh with
  |false=>
   have hf:farR false (.pair a b)=a:=rfl
   rw[hf]
   unfold hvN
   rw[hf]
   by_cases hc:n≤len L a
   ·simp only[hc,if_true]
    exact⟨Nat.le_refl _,oO,oO,oO,pa,⟨n,oO,h1,hc⟩,by simp[mR,eG]⟩
   simp only[hc,if_false]
   refine⟨oO,oO,oO,oO,pa,⟨n-len L a,oO,oO,?_⟩,by simp[mR,eG,ea]⟩
   show n-len L a≤len L b
   omega
  |true=>
   have hf:farR true (.pair a b)=b:=rfl
   rw[hf]
   unfold hvN
   rw[hf]
   by_cases hc:n≤len L b
   ·simp only[hc,if_true]
    refine⟨Nat.le_refl _,oO,oO,oO,pb,⟨n,oO,h1,?_⟩,by simp[mR,eG]⟩
    show n≤len L b
    exact hc
   simp only[hc,if_false]
   refine⟨oO,oO,oO,oO,pb,⟨n-len L b,oO,oO,?_⟩,by simp[mR,eG,eb]⟩
   show n-len L b≤len L a
   omega
 |power y k=>
  have hk:=hok
  simp only[Rl.ok]at hk
  have e:len L (i+1)=k*len L y:=by unfold len;rw[kD hr hok];simp
  have ey:=((hd y (by simp[kids])).1).exp_len hw
  have py:=hw.pos y oO oO
  have hf:farR bh (.power y k)=y:=rfl
  have hwh:fG (.power y k)=k:=rfl
  have hrl:∀m,(eG L 0 (List.replicate m y)).length=m*len L y:=fun m=>by
   induction m with
   |zero=>simp[eG]
   |succ m ih=>rw[List.replicate_succ,Nat.succ_mul,←ih,←ey];simp[eG];omega
  have hdm:=Nat.div_add_mod (n-1) (len L y)
  have hml:=Nat.mod_lt (n-1) (show 0<len L y by omega)
  have hdl:(n-1)/len L y<k:=qTj oO
  have hcm:len L y*((n-1)/len L y)=(n-1)/len L y*len L y:=Nat.mul_comm ..
  refine⟨fun c h=>Rl.noConfusion h,?_⟩
  have hch:∀m,gK bh m (.power y k)=y:=fun m=>O
  rw[hf,hwh,hch]
  have hvq:hvN L bh n (.power y k)=(n-1)/len L y+1:=by
   unfold hvN
   rw[hf]
   by_cases hc:n≤len L y
   ·simp only[hc,if_true]
    rw[Nat.div_eq_of_lt oO]
   simp only[hc,if_false]
  rw[hvq]
  refine⟨Nat.le_add_left _ _,hdl,oO,oO,py,⟨(n-1)%len L y+1,by rw[Nat.add_sub_cancel];omega,Nat.le_add_left _ _,hml⟩,?_⟩
  show(eG L 0 (List.replicate ((n-1)/len L y+1-1) y)).length=_
  rw[hrl]
end
section
variable {E:Env}{Es:List Ent}{pp tb s most:Nat}
theorem ct_far (hE:Seat E){r:Rl}{x hv:Nat}{l:Int}{bh:Bool}(hn:∀b,r≠ .letter b):Ct E 162 [.agg #[.int .i64 (x:Nat),.int .i64 (Rl.kind (r):Nat),.int .u8 (Rl.byte (r):Nat),.int .i64 (Rl.left (r):Nat),.int .i64 (Rl.right (r):Nat),.int .i64 (Rl.times (r):Nat),.int .i64 l,.int .i64 (hv:Nat)],.bool bh] [] (fun v Q=>v= .int .i64 (farR bh r:Nat)∧Q=[]):=by
 cases r with
 |letter b=>exact absurd rfl (hn b)
 |power y k=>
  refine bO (hE.fn Tryz.func162) O O O (fun R=>?_)
  simp only[dR,uV,uW]
  refine gg2 ?_
  refine uU ?_
  refine iQ O (fun b2=>?_)
  refine gg11 ?_
  refine l_eq 8 (.bool false) O (by simp[Rl.kind]) ?_
  refine gg16 ?_
  exact uZ O (.tmp O .nil) ⟨O,O⟩
 |pair a b=>
  refine bO (hE.fn Tryz.func162) O O O (fun R=>?_)
  simp only[dR,uV,uW]
  refine gg2 ?_
  refine uU ?_
  refine iQ O (fun b2=>?_)
  refine gg11 ?_
  refine l_eq 8 (.bool true) O (by simp[Rl.kind]) ?_
  refine gg5 ?_
  cases bh with
  |true=>
   refine gg11 ?_
   exact uZ O (.tmp O .nil) ⟨O,O⟩
  |false=>
   refine gg12 ?_
   exact uZ O (.tmp O .nil) ⟨O,O⟩
theorem qSd (bh:Bool)(a b:List Nat):(cat bh a b).length=a.length+b.length:=by
 cases bh
 ·simp[cat];omega
 simp[cat]
structure NeG where
 y:Nat
 n:Nat
 gs:List Fm
 p:Option Addr
 c:Nat
theorem qQg (hE:Seat E)(hB:Base E.w0){x N:Nat}{bh:Bool}(hs:Sig (rls Es) x)(h1:1≤N)(h2:N≤len (rls Es) x):
  Ct E 145 [uPt pp,.int .i64 (x:Nat),.int .i64 (N:Nat),.bool bh] [cells pp [uPt s,uPt tb] 86,tabP tb s (rls Es),bR s most Es]
   (fun v Q=>∃y gs p c,v= .agg #[uPt pp,.bool bh,.slice p gs.length c,.int .i64 (y:Nat),.int .u64 (key (rls Es) y:Nat)]∧EO (rls Es) bh 0 x y gs∧(seqE (rls Es) bh 0 y gs).length=N∧Q=[cells pp [uPt s,uPt tb] 86,tabP tb s (rls Es),bR s most Es,sl p c 256 8 gs.length (dU (rls Es) gs)]):=by
 refine eO (p:=bR s most Es) uK (fun _ h=>dO h) (fun hsay=>?_)
 have hw:=hsay.1
 have hL:(rls Es).length≤1048576:=by have:=hsay.2.2;rw[bQ];unfold fP at this;omega
 have hsh:=hw.short x
 have hmx:dB=1152921504606846976:=rfl
 refine bO (hE.fn Tryz.func145) O O O (fun R=>?_)
 simp only[dR,uV,uW]
 refine gg2 ?_
 refine uU (cZ (hE.t O) (fun b8=>?_))
 refine gg7 ?_
 refine uU (cZ (hE.t O) (fun b9=>?_))
 refine gg1 ?_
 try simp only[bP,sm_0,sm_1,sm_2,sm_3,sm_4,sm_5,sm_6,sm_7]
 refine gg9 ?_
 refine bE O (fun h0=>?_) (fun h0=>?_)
 ·exfalso;omega
 refine gg8 ?_
 try simp only[bP,sm_0,sm_1,sm_2,sm_3,sm_4,sm_5,sm_6,sm_7]
 refine gg3 ?_
 refine jT (gL (t:=256) (sz:=8)) ?_
 refine dV (fun k:NeG=>[(0,uPt pp),(2,.int .i64 (k.n:Nat)),(3,.bool bh),(8,uPt b8),(9,uPt b9)]) (fun k=>[cells pp [uPt s,uPt tb] 86,tabP tb s (rls Es),bR s most Es,cells b9 [uPt pp,.bool bh,.slice k.p k.gs.length k.c,.int .i64 (k.y:Nat),.int .u64 0] 233,sl k.p k.c 256 8 k.gs.length (dU (rls Es) k.gs),cells b8 [.pointer none,.bool false,.slice none 0 0,.int .i64 0,.int .u64 0] 233,R]) (fun k=>k.y) (fun k=>Lk (rls Es) bh x k.y k.gs∧1≤k.n∧k.n≤len (rls Es) k.y∧k.n+(lF (rls Es) bh 0 k.gs).length=N∧∀f∈k.gs,((0:Nat):Int)<lvl (rls Es) f.id) ⟨x,N,[],none,0⟩ ⟨.nil,h1,h2,by simp[lF],fun f h=>by cases h⟩ ⟨rfl,rfl,rfl,rfl,rfl,trivial⟩ uI ?_
 rintro⟨y,n,gs,p1,c1⟩⟨k1,k2,k3,k4,k5⟩
 simp only at k1 k2 k3 k4 k5 ⊢
 have ok:=k1.ok hw hs
 have hgl:=k1.short' hw hs hL
 have hsy:=k1.sig hw hs
 have hys:=hw.short y
 obtain⟨i,rfl⟩:∃i,y=i+1:=⟨y-1,oO⟩
 refine gg7 ?_
 refine uX (mO hE (i:=i+1) ok.2.1) O ?_
 rintro _ _⟨rfl,rfl⟩
 simp only[uV,uW]
 refine gg3 ?_
 refine bE O (fun h3=>?_) (fun h3=>?_)
 ·have hr:(rls Es)[i]?=some (rlAt (rls Es) (i+1)):=by
   have e:=List.getElem?_eq_getElem (l:=rls Es) (i:=i) oO
   rw[e];simp[rlAt,e]
  obtain⟨n1,n2,n3,n4,n5,n6,⟨n',m1,m2,m3⟩,n8⟩:=new_step (bh:=bh) hw hsy hr k2 oO
  refine gg5 ?_
  refine uX (qAw (b:=b9) (n:=gs.length) (c:=c1) (k:=0) (pre:=[]) (suf:=[]) (bt:=233) (p:=p1) (bh:=bh) hE hB ok.1 ⟨ok.2.1,ok.2.2.1⟩) O ?_
  rintro _ _⟨rfl,rfl⟩
  simp only[List.cons_append,List.nil_append,fmV]
  generalize hrr:rlAt (rls Es) (i+1)=r at hr n1 n2 n3 n4 n5 n6 m1 m2 m3 n8 ⊢
  refine uU (cZ (hE.t O) (fun b10=>?_))
  refine gg1 ?_
  try simp only[bP,sm_0,sm_1,sm_2,sm_3,sm_4,sm_5,sm_6,sm_7]
  refine gg6 ?_
  try simp only[bP,sm_0,sm_1,sm_2,sm_3,sm_4,sm_5,sm_6,sm_7]
  refine gg2 ?_
  obtain⟨H,hH⟩:∃H,H=hvN (rls Es) bh n r:=⟨_,rfl⟩
  rw[←hH]at n2 n3 m1 m3 n8
  refine jF (fun _:Unit=>[(0,uPt pp),(2,.int .i64 (n':Nat)),(3,.bool bh),(8,uPt b8),(9,uPt b9),(10,uPt b10)]) (fun _=>[cells pp [uPt s,uPt tb] 86,tabP tb s (rls Es),bR s most Es,cells b9 [uPt pp,.bool bh,.slice p1 gs.length c1,.int .i64 ((i+1):Nat),.int .u64 0] 233,cells b10 [.int .i64 ((i+1:Nat):Int),.int .i64 (Rl.kind (r):Nat),.int .u8 (Rl.byte (r):Nat),.int .i64 (Rl.left (r):Nat),.int .i64 (Rl.right (r):Nat),.int .i64 (Rl.times (r):Nat),.int .i64 (lvl (rls Es) (i+1)),.int .i64 (H:Nat)] 256,sl p1 c1 256 8 gs.length (dU (rls Es) gs),cells b8 [.pointer none,.bool false,.slice none 0 0,.int .i64 0,.int .u64 0] 233,R]) (fun _=>True) ?_ ?_
  ·refine gg5 ?_
   refine uX (ct_far (r:=r) hE n1) O ?_
   rintro _ _⟨rfl,rfl⟩
   simp only[uV,uW]
   refine uX (mO hE n5) O ?_
   rintro _ _⟨rfl,rfl⟩
   simp only[uV,uW]
   refine gg10 ?_
   refine bE O (fun h5=>?_) (fun h5=>?_)
   ·refine gg4 ?_
    try simp only[bP,sm_0,sm_1,sm_2,sm_3,sm_4,sm_5,sm_6,sm_7]
    refine gg11 ?_
    cases r with
    |letter b=>exact absurd rfl (n1 b)
    |pair a b=>
     obtain rfl:H=2:=by
      rw[hH]
      unfold hvN
      rw[if_neg oO]
     refine bE O (fun h6=>?_) (fun h6=>?_)
     ·exfalso;simp[Rl.kind]at h6
     refine gg12 ?_
     refine dY (ι:=Unit) () trivial ⟨O,congrArg some (bW oO),O,O,O,O,trivial⟩ uI
    |power z k=>
     have hq:H=(n-1)/len (rls Es) z+1:=by
      rw[hH]
      unfold hvN
      rw[if_neg oO]
     have hf:farR bh (Rl.power z k)=z:=rfl
     rw[hf]at m1 n6 h5 ⊢
     have hqi:(((n:Nat):Int)-1)/((len (rls Es) z:Nat):Int)=((H-1:Nat):Int):=by
      rw[hq,Nat.add_sub_cancel,Int.natCast_ediv]
      congr 1
      omega
     have hqm:(((H:Nat):Int)-1)*((len (rls Es) z:Nat):Int)=((n-n':Nat):Int):=by
      have e1:(((H-1)*len (rls Es) z:Nat):Int)=((n-n':Nat):Int):=oO
      rw[←e1,Int.natCast_mul]
      congr 1
      omega
     have hHn:H≤n:=by
      rw[hq]
      have:=Nat.div_le_self (n-1) (len (rls Es) z)
      omega
     refine bE O (fun h6=>?_) (fun h6=>?_)
     ·skip
      refine gg5 ?_
      refine l_eq 44 (.int .i64 ((H-1:Nat):Int)) O (bW hqi) ?_
      refine gg1 ?_
      refine l_eq 45 (.int .i64 (H:Nat)) O (bW oO) ?_
      refine gg2 ?_
      try simp only[bP,sm_0,sm_1,sm_2,sm_3,sm_4,sm_5,sm_6,sm_7]
      refine gg12 ?_
      refine dY (ι:=Unit) () trivial ⟨O,congrArg some (bW oO),O,O,O,O,trivial⟩ uI
     exfalso;simp[Rl.kind]at h6
   obtain rfl:H=1:=by
    rw[hH]
    unfold hvN
    rw[if_pos oO]
   obtain rfl:n'=n:=by omega
   refine gg1 ?_
   refine dY (ι:=Unit) () trivial ⟨O,O,O,O,O,O,trivial⟩ uI
  rintro - -
  have hlk:Lk (rls Es) bh x (gK bh H r) (gs++[⟨i+1,H⟩]):= .snoc k1 ok.1 (by rw[Nat.add_sub_cancel];exact hr) n1 n2 n3
  have hck:=(vV (bh:=bh) (hv:=H) hw ok.1 (show(rls Es)[i+1-1]?=some r by rw[Nat.add_sub_cancel];exact hr) n1 ok.2.2.1).2.1
  have hsn:=jK (rls Es) gs ⟨i+1,H⟩
  simp only at hsn
  rw[hrr]at hsn
  have hlv:((0:Nat):Int)<lvl (rls Es) (i+1):=by
   have h3:=ok.2.2.1
   rcases Int.lt_or_eq_of_le h3 with h4|h4
   ·exact h4
   obtain⟨c,hc⟩:=qOf hw oO h4.symm
   rw[hr]at hc
   cases hc
   exact absurd O (n1 c)
  have hrs:(lF (rls Es) bh 0 (gs++[⟨i+1,H⟩])).length=(H-1)*len (rls Es) (farR bh r)+(lF (rls Es) bh 0 gs).length:=by
   rw[gQ,qSd]
   simp only
   rw[hrr,n8]
  refine gg5 ?_
  refine uU ?_
  refine aU (hE.t O) (hE.t O) O O O (fun b57=>?_)
  refine uU ?_
  apply bU (hE.t O) (hE.t O) O O O
  ·exact uK
  ·exact uK
  ·rfl
  ·rfl
  ·omega
  ·omega
  ·(unfold maxLen;omega)
  intro g58 c58 n58 x58 hn58 hx58
  refine gg2 ?_
  try simp only[bP,sm_0,sm_1,sm_2,sm_3,sm_4,sm_5,sm_6,sm_7]
  refine gg5 ?_
  obtain rfl:x58=dU (rls Es) (gs++[⟨i+1,H⟩]):=by rw[hx58,hsn];rfl
  obtain rfl:n58=(gs++[(⟨i+1,H⟩:Fm)]).length:=by rw[List.length_append];exact hn58
  refine uX (qFl (r:=r) hE n1) O ?_
  rintro _ _⟨rfl,rfl⟩
  simp only[uV,uW]
  refine gg2 ?_
  try simp only[bP,sm_0,sm_1,sm_2,sm_3,sm_4,sm_5,sm_6,sm_7]
  refine gg2 ?_
  refine bS (ι:=NeG) (j:=⟨gK bh H r,n',gs++[⟨i+1,H⟩],some ⟨g58,0,none⟩,c58⟩) ⟨hlk,m2,m3,by simp only;omega,fun f hf=>?_⟩ hck ⟨rfl,rfl,rfl,rfl,rfl,trivial⟩ uI
  rcases List.mem_append.1 hf with hf|hf
  ·exact k5 f hf
  obtain rfl:=List.mem_singleton.1 hf
  exact hlv
 have hne:n=len (rls Es) (i+1):=oO
 have hdn:=qLe (pp:=pp) (s:=s) (tb:=tb) (most:=most) (b:=b9) (c:=c1) (k:=0) (l:=0) (pre:=[]) (suf:=[]) (bt:=233) (bh:=bh) (p:=p1) (fs:=gs) hE hB hs k1 oO
 simp only[List.nil_append,List.length_nil]at hdn
 refine gg7 ?_
 refine uX (hdn) O ?_
 rintro _ _⟨z,gs',p',c',rfl,q1,q2,rfl⟩
 simp only[List.nil_append,List.cons_append]
 obtain⟨d1,d2,d3, -⟩:=q1.ok hw hs k1 k5
 have hz:=d1.ok hw hs
 refine gg6 ?_
 try simp only[bP,sm_0,sm_1,sm_2,sm_3,sm_4,sm_5,sm_6,sm_7]
 refine gg3 ?_
 apply cB
 ·rfl
 ·((apply Rs.cell rfl (hE.t rfl) rfl;(focus((repeat(first |rfl|assumption|exact ap_0|exact ap_1|exact ap_2|exact ap_3|exact ap_4|exact ap_5|exact ap_6|exact ap_7|constructor));done)));exact Rs.nil)
 ·refine⟨z,gs',p',c',O,⟨.inr ⟨hz.1,d1,q2⟩,d2⟩,?_,O⟩
  rw[←d3,seqE,qSd,hsy.exp_len hw]
  omega
 exact uI
end
section
variable {E:Env}{Es:List Ent}{pp tb s most S:Nat}
theorem qSu (hE:Seat E)(hB:Base E.w0){bs:List UInt8}{l a b:Nat}{A0 B0 A B:Sd}{M0 M:Md}(hI:SpJ (rls Es) bs l a b A0 B0 M0)(hbs:bs≠[])(hr:Rdy (rls Es) l a b A0 B0 M0 A B M)(hb:bs.length≤dB)(hn:(rowS (rls Es) l A0 B0 M0).length≤1000000000)(hroom:Es.length+(rowS (rls Es) l A0 B0 M0).length≤most)(hll:l+1<1000000000000):
  Ct E 147 [uPt S,.int .i64 ((l+1:Nat):Int)] [cells pp [uPt s,uPt tb] 86,tabP tb s (rls Es),bR s most Es,cells S [uPt pp,uPt pp,.bool false,.slice A.p A.fs.length A.c,.int .i64 (A.x:Nat),.int .u64 (key (rls Es) A.x:Nat),uPt pp,.bool true,.slice B.p B.fs.length B.c,.int .i64 (B.x:Nat),.int .u64 (key (rls Es) B.x:Nat),.slice M.p M.its.length M.c] 237,sl A.p A.c 256 8 A.fs.length (dU (rls Es) A.fs),sl B.p B.c 256 8 B.fs.length (dU (rls Es) B.fs),sl M.p M.c 241 4 M.its.length (itsC (rls Es) M.its)]
   (fun v Q=>∃(N:List Ent)(A' B':Sd)(M':Md),v= .nilIface∧SpJ (rls (Es++N)) bs (l+1) a b A' B' M'∧N.length+(rowS (rls (Es++N)) (l+1) A' B' M').length≤(rowS (rls Es) l A0 B0 M0).length∧(Dk (rls Es)→N.length+pot M'.its≤pot M0.its+4)∧Q=[cells pp [uPt s,uPt tb] 86,tabP tb s (rls (Es++N)),bR s most (Es++N),cells S [uPt pp,uPt pp,.bool false,.slice A'.p A'.fs.length A'.c,.int .i64 (A'.x:Nat),.int .u64 (key (rls (Es++N)) A'.x:Nat),uPt pp,.bool true,.slice B'.p B'.fs.length B'.c,.int .i64 (B'.x:Nat),.int .u64 (key (rls (Es++N)) B'.x:Nat),.slice M'.p M'.its.length M'.c] 237,sl A'.p A'.c 256 8 A'.fs.length (dU (rls (Es++N)) A'.fs),sl B'.p B'.c 256 8 B'.fs.length (dU (rls (Es++N)) B'.fs),sl M'.p M'.c 241 4 M'.its.length (itsC (rls (Es++N)) M'.its)]):=by
 refine eO (p:=bR s most Es) uK (fun _ h=>dO h) (fun hsay=>?_)
 have hw:=hsay.1
 have hrow:=hr.same
 have hmem:=hI.mem hw
 have htx:=hI.tx
 rw[←hrow]at hmem hn hroom htx
 have hR:∀x∈dN M.its,1≤x∧x≤(rls Es).length:=fun x hx=>hmem x (by unfold rowS;simp[hx])
 have hfl:(dN M.its).length≤(rowS (rls Es) l A B M).length:=by unfold rowS;simp;omega
 have hadj:∀P x y R,dN M.its=P++[x,y]++R→len (rls Es) x+len (rls Es) y≤dB:=fun P x y R e=>by
  unfold rowS at htx
  rw[e]at htx
  have:=qVn (L:=rls Es) (X:=seqE (rls Es) false l A.x A.fs) (A:=P) (B:=R) (Y:=seqE (rls Es) true l B.x B.fs) (x:=x) (y:=y)
  rw[htx]at this
  omega
 have hrun:∀P x t R,dN M.its=P++List.replicate t x++R→len (rls Es) x*t≤dB:=fun P x t R e=>by
  unfold rowS at htx
  rw[e]at htx
  have:=qVm (L:=rls Es) (X:=seqE (rls Es) false l A.x A.fs) (A:=P) (B:=R) (Y:=seqE (rls Es) true l B.x B.fs) (x:=x) (t:=t)
  rw[htx]at this
  omega
 have hrm:Es.length+(dN M.its).length≤most:=oO
 have hfl9:(dN M.its).length≤1000000000:=oO
 have hinv:=hI.ch.inv hw
 rw[←hrow]at hinv
 unfold rowS at hinv
 have hshp:=hr.shp
 unfold Shp at hshp
 refine bO (hE.fn Tryz.func147) O O O (fun R=>?_)
 simp only[dR,uV,uW]
 refine gg10 ?_
 refine jF (fun q:List Ent×Md=>[(0,uPt S),(1,.int .i64 ((l+1:Nat):Int)),(5,.nilIface)]) (fun q=>[cells pp [uPt s,uPt tb] 86,tabP tb s (rls (Es++q.1)),bR s most (Es++q.1),cells S [uPt pp,uPt pp,.bool false,.slice A.p A.fs.length A.c,.int .i64 (A.x:Nat),.int .u64 (key (rls Es) A.x:Nat),uPt pp,.bool true,.slice B.p B.fs.length B.c,.int .i64 (B.x:Nat),.int .u64 (key (rls Es) B.x:Nat),.slice q.2.p q.2.its.length q.2.c] 237,sl A.p A.c 256 8 A.fs.length (dU (rls Es) A.fs),sl B.p B.c 256 8 B.fs.length (dU (rls Es) B.fs),sl q.2.p q.2.c 241 4 q.2.its.length (itsC (rls (Es++q.1)) q.2.its),R]) (fun q=>Sq (rls (Es++q.1)) (l+1) (dN M.its) (dN q.2.its)∧Sng q.2.its∧((l+1+1)%2=0→∀it∈q.2.its,it.times=1)∧q.1.length+(dN q.2.its).length≤(dN M.its).length∧(Dk (rls Es)→q.1.length+pot q.2.its≤pot M.its)) ?_ ?_
 ·refine gg7 ?_
  refine bE O (fun h0=>?_) (fun h0=>?_)
  ·have hodd:(l+1)%2=1:=oO
   rw[if_pos hodd]at hshp
   refine gg3 ?_
   refine uX (yV hE hB (pp:=pp) (S:=S) (cs:=[uPt pp,uPt pp,.bool false,.slice A.p A.fs.length A.c,.int .i64 (A.x:Nat),.int .u64 (key (rls Es) A.x:Nat),uPt pp,.bool true,.slice B.p B.fs.length B.c,.int .i64 (B.x:Nat),.int .u64 (key (rls Es) B.x:Nat),.slice M.p M.its.length M.c]) (its:=M.its) (p:=M.p) (c:=M.c) O O hshp hfl9 hR hrun hrm) O ?_
   rintro _ _⟨N,out,p',c',rfl,hN,hN2,hrg,rfl⟩
   simp only[uV,uW]
   have hlo:(jI out).length=out.length:=by simp[jI]
   rw[←hlo]at*
   refine gg8 ?_
   obtain⟨o1,o2⟩:=qOg out
   refine dY (ι:=List Ent×Md) (N,⟨jI out,p',c'⟩) ⟨rg_sq hodd (by show Rg _ _ (dN (jI out));rw[mV];exact hrg),o1,fun _=>o2,by show _+(dN (jI out)).length≤_;rw[mV];omega,fun _=>by have:=tH o1;rw[mV]at this;show N.length+pot (jI out)≤_;omega⟩ ⟨rfl,rfl,rfl,trivial⟩ ?_
   exact uI
  have hev:(l+1)%2=0:=oO
  have hodd:¬(l+1)%2=1:=oO
  have h2l:2≤l+1:=oO
  have hlt:l+1<1099511627776:=oO
  rw[if_neg hodd]at hshp
  refine gg3 ?_
  refine uX (qAv hE h2l hev hlt) O ?_
  rintro _ _⟨⟨q1,q2,d,rfl,hd⟩,rfl⟩
  simp only[uV,uW]
  refine gg14 ?_
  cases d with
  |true=>
   have hnm:=hd.1 O
   rw[if_pos hnm]at hshp
   refine gg4 ?_
   refine uX (nY hE hB (pp:=pp) (S:=S) (cs:=[uPt pp,uPt pp,.bool false,.slice A.p A.fs.length A.c,.int .i64 (A.x:Nat),.int .u64 (key (rls Es) A.x:Nat),uPt pp,.bool true,.slice B.p B.fs.length B.c,.int .i64 (B.x:Nat),.int .u64 (key (rls Es) B.x:Nat),.slice M.p M.its.length M.c]) (its:=M.its) (p:=M.p) (c:=M.c) O O hshp hfl9 hR hadj hrm) O ?_
   rintro _ _⟨N,l2,p',c',rfl,hN,hpg,hsn,rfl⟩
   simp only[uV,uW]
   refine gg8 ?_
   refine dY (ι:=List Ent×Md) (N,⟨l2,p',c'⟩) ⟨pg_sq hev (by rw[hnm];exact hpg),hsn,(fun h=>by omega),hN,fun hd=>by have h1:=tH hsn;have h2:=tF (qKn hinv hev hshp hd);show N.length+pot l2≤_;unfold pot at h1 ⊢;omega⟩ ⟨rfl,rfl,rfl,trivial⟩ ?_
   exact uI
  |false=>
   have hnm:num (l+1)≠122:=fun h=>by have:=hd.2 h;cases this
   rw[if_neg hnm]at hshp
   refine gg5 ?_
   refine uX (vZ hE hB (pp:=pp) (S:=S) (cs:=[uPt pp,uPt pp,.bool false,.slice A.p A.fs.length A.c,.int .i64 (A.x:Nat),.int .u64 (key (rls Es) A.x:Nat),uPt pp,.bool true,.slice B.p B.fs.length B.c,.int .i64 (B.x:Nat),.int .u64 (key (rls Es) B.x:Nat),.slice M.p M.its.length M.c]) (its:=M.its) (p:=M.p) (c:=M.c) O O hshp.1 hshp.2 hfl9 hR hadj hrm h2l hev hlt) O ?_
   rintro _ _⟨N,l2,p',c',rfl,hN,hpg,hsn,rfl⟩
   simp only[uV,uW]
   refine gg8 ?_
   refine dY (ι:=List Ent×Md) (N,⟨l2,p',c'⟩) ⟨pg_sq hev hpg,hsn,(fun h=>by omega),hN,fun _=>by have h1:=tH hsn;have h2:=tF (its:=M.its) fun it hit=>⟨(hshp.1 it hit).1,hshp.2 it hit⟩;show N.length+pot l2≤_;unfold pot at h1 ⊢;omega⟩ ⟨rfl,rfl,rfl,trivial⟩ ?_
   exact uI
 rintro⟨N,M'⟩⟨q1,q2,q3,q4,q5⟩
 simp only at q1 q2 q3 q4 q5 ⊢
 refine jY (p:=bR s most (Es++N)) uK (fun _ h=>dO h) ?_
 rintro⟨hw2, -, -, -⟩
 have eL:=dA Es N
 rw[eL]at hw2 q1
 obtain⟨i1,i2⟩:=hr.left.eo.ids hw hI.sa
 obtain⟨j1,j2⟩:=hr.right.eo.ids hw hI.sb
 have sa2:Sig (rls (Es++N)) a:=by rw[eL];exact hI.sa.ext _ hw hw2
 have sb2:Sig (rls (Es++N)) b:=by rw[eL];exact hI.sb.ext _ hw hw2
 have ea2:EO (rls (Es++N)) false l a A.x A.fs:=by rw[eL];exact hr.left.eo.ext _ hw hI.sa
 have eb2:EO (rls (Es++N)) true l b B.x B.fs:=by rw[eL];exact hr.right.eo.ext _ hw hI.sb
 have hst:=hI.step (rls N) hw hw2 hbs hr q1 q2 q3 (by rw[bQ];exact q4)
 rw[←eL,bQ]at hst
 have k1:key (rls (Es++N)) A.x=key (rls Es) A.x:=by rw[eL];exact fE _ i1
 have k2:key (rls (Es++N)) B.x=key (rls Es) B.x:=by rw[eL];exact fE _ j1
 have k3:dU (rls (Es++N)) A.fs=dU (rls Es) A.fs:=by rw[eL];exact wX _ i2
 have k4:dU (rls (Es++N)) B.fs=dU (rls Es) B.fs:=by rw[eL];exact wX _ j2
 rw[←k1,←k2,←k3,←k4]
 refine gg6 ?_
 refine uX (qTb hE hB (Es:=Es++N) (b:=S) (pre:=[uPt pp]) (suf:=[uPt pp,.bool true,.slice B.p B.fs.length B.c,.int .i64 (B.x:Nat),.int .u64 (key (rls (Es++N)) B.x:Nat),.slice M'.p M'.its.length M'.c]) (fs:=A.fs) sa2 ea2) O ?_
 rintro _ _⟨rfl,rfl⟩
 simp only[uV,uW]
 refine gg8 ?_
 refine uX (qTb hE hB (Es:=Es++N) (b:=S) (pre:=[uPt pp,uPt pp,.bool false,.slice (upS (rls (Es++N)) (l+1) A).p (upS (rls (Es++N)) (l+1) A).fs.length (upS (rls (Es++N)) (l+1) A).c,.int .i64 ((upS (rls (Es++N)) (l+1) A).x:Nat),.int .u64 (key (rls (Es++N)) (upS (rls (Es++N)) (l+1) A).x:Nat)]) (suf:=[.slice M'.p M'.its.length M'.c]) (fs:=B.fs) sb2 eb2) O ?_
 rintro _ _⟨rfl,rfl⟩
 simp only[uV,uW]
 refine gg9 ?_
 exact uZ O (.tmp O .nil) ⟨N,upS (rls (Es++N)) (l+1) A,upS (rls (Es++N)) (l+1) B,M',O,hst.1,hst.2,(fun hd=>by have h1:=q5 hd;have h2:=(hr.grow hd).pot;show N.length+pot M'.its≤_;omega),rfl⟩
end
section
variable {E:Env}{Es:List Ent}{pp tb s most:Nat}
theorem seqE_end {L:List Rl}(hw:Wf L){bh:Bool}{r y N:Nat}{gs:List Fm}(h:EO L bh 0 r y gs)(hl:(seqE L bh 0 y gs).length=N)(hy:y≠0):seqE L bh 0 y gs=endL bh (expd L 0 r) N:=by
 have hf:=(h.low hy).2.1.full hw h.hi
 rw[hf,←hl]
 show _=endL bh (cat bh (cutS L bh 0 gs) (seqE L bh 0 y gs)) _
 rw[endL_in _ _ _ (Nat.le_refl _),endL_all]
theorem qBb (bh:Bool)(l:List Nat):endL bh l 0=[]:=by cases bh<;>simp[endL]
theorem qDs (hE:Seat E)(hB:Base E.w0){x N r:Nat}{bh:Bool}(hr:Sig (rls Es) r)(h:N=0∨(x=r∧1≤N∧N≤len (rls Es) r)):
  Ct E 145 [uPt pp,.int .i64 (x:Nat),.int .i64 (N:Nat),.bool bh] [cells pp [uPt s,uPt tb] 86,tabP tb s (rls Es),bR s most Es]
   (fun v Q=>∃y gs p c,v= .agg #[uPt pp,.bool bh,.slice p gs.length c,.int .i64 (y:Nat),.int .u64 (key (rls Es) y:Nat)]∧EO (rls Es) bh 0 r y gs∧seqE (rls Es) bh 0 y gs=endL bh (expd (rls Es) 0 r) N∧Q=[cells pp [uPt s,uPt tb] 86,tabP tb s (rls Es),bR s most Es,sl p c 256 8 gs.length (dU (rls Es) gs)]):=by
 refine eO (p:=bR s most Es) uK (fun _ h=>dO h) (fun hsay=>?_)
 have hw:=hsay.1
 rcases h with rfl|⟨rfl,h1,h2⟩
 ·refine bO (hE.fn Tryz.func145) O O O (fun R=>?_)
  simp only[dR,uV,uW]
  refine gg2 ?_
  refine uU (cZ (hE.t O) (fun b8=>?_))
  refine gg7 ?_
  refine uU (cZ (hE.t O) (fun b9=>?_))
  refine gg10 ?_
  refine bE O (fun h0=>?_) (fun h0=>?_)
  ·refine jT (gL (t:=256) (sz:=8)) ?_
   refine gg8 ?_
   apply cB
   ·rfl
   ·((apply Rs.cell rfl (hE.t rfl) rfl;(focus((repeat(first |rfl|assumption|constructor));done)));exact Rs.nil)
   ·exact⟨0,[],none,0,O,⟨.inl ⟨O,O⟩,fun f h=>by cases h⟩,by rw[qBb];exact gM _ _ _,rfl⟩
   exact uI
  exfalso;omega
 refine qAu (qQg hE hB hr h1 h2) ?_
 rintro _ _⟨y,gs,p,c,rfl,e1,e2,rfl⟩
 refine⟨_,⟨y,gs,p,c,O,e1,seqE_end hw e1 e2 ?_,O⟩,fun R k h=>h⟩
 rintro rfl
 rcases e1.lk with⟨_,e⟩|⟨h,_⟩
 ·subst e;rw[gM]at e2;simp at e2;omega
 omega
end
section
variable {E:Env}{Es:List Ent}{pp tb s most:Nat}
theorem lts_left {L:List Rl}(hw:Wf L){a ra i:Nat}{ta:List UInt8}(ha:Sn L ta a)(hra:i=0∨a=ra):Lts L (endL false (expd L 0 ra) i) (ta.take i):=by
 rcases Nat.eq_zero_or_pos i with rfl|hi
 ·rw[qBb];exact .nil
 rcases hra with h|rfl
 ·omega
 by_cases h0:a=0
 ·subst h0
  have e:=ha.zero
  subst e
  rw[wL]
  show Lts L (([]:List Nat).take i) (([]:List UInt8).take i)
  rw[List.take_nil,List.take_nil]
  exact .nil
 exact((ha.parts hw h0).2.1.take i).1
theorem qUl {L:List Rl}(hw:Wf L){b rb j:Nat}{tb':List UInt8}(hb:Sn L tb' b)(hj:j≤tb'.length)(hrb:tb'.length-j=0∨b=rb):Lts L (endL true (expd L 0 rb) (tb'.length-j)) (tb'.drop j):=by
 rcases Nat.eq_zero_or_pos (tb'.length-j)with h|hn
 ·rw[h,qBb,List.drop_eq_nil_of_le oO];exact .nil
 rcases hrb with h|rfl
 ·omega
 have h0:b≠0:=by
  rintro rfl
  have e:=hb.zero
  subst e
  simp at hn
 have hl:=(hb.parts hw h0).2.1
 have e:endL true (expd L 0 b) (tb'.length-j)=(expd L 0 b).drop j:=by
  show(expd L 0 b).drop ((expd L 0 b).length-(tb'.length-j))=_
  rw[hl.length]
  congr 1
  omega
 rw[e]
 exact(hl.take j).2
theorem qDq (hE:Seat E)(hB:Base E.w0){a b i j ra rb:Nat}{ta tb':List UInt8}(ha:Sn (rls Es) ta a)(hb:Sn (rls Es) tb' b)(hi:i≤ta.length)(hj:j≤tb'.length)(n1:¬(i=0∧j=0))(n2:¬(tb'.length-j=0∧i=ta.length))(n3:¬(i=0∧tb'.length-j=0))
  (sra:Sig (rls Es) ra) (srb:Sig (rls Es) rb) (hra:i=0∨a=ra) (hrb:tb'.length-j=0∨b=rb) (lra:lvl (rls Es) ra≤25544) (lrb:lvl (rls Es) rb≤25544) (nra:i+(tb'.length-j)≠len (rls Es) ra) (nrb:i+(tb'.length-j)≠len (rls Es) rb) (hlen:ta.length+tb'.length≤1000000000) (hroom:Es.length+(i+(tb'.length-j))≤most):
  Ct E 115 [uPt pp,.int .i64 (a:Nat),.int .i64 (i:Nat),.int .i64 (b:Nat),.int .i64 (j:Nat)] [cells pp [uPt s,uPt tb] 86,tabP tb s (rls Es),bR s most Es]
   (fun v Q=>∃M id,v= .tuple #[.int .i64 (id:Nat),.nilIface]∧M.length≤i+(tb'.length-j)∧Sn (rls (Es++M)) (ta.take i++tb'.drop j) id∧Q=[cells pp [uPt s,uPt tb] 86,tabP tb s (rls (Es++M)),bR s most (Es++M)]):=by
 refine eO (p:=bR s most Es) uK (fun _ h=>dO h) (fun hsay=>?_)
 have hw:=hsay.1
 have hmx:dB=1152921504606846976:=rfl
 have lva:=ha.lv hw oO
 have lvb:=hb.lv hw oO
 have la:=ha.len
 have lb:=hb.len
 have hLa:=lts_left hw ha hra
 have hLb:=qUl hw hb hj hrb
 have hbl0:(ta.take i++tb'.drop j).length=i+(tb'.length-j):=by rw[List.length_append,List.length_take,List.length_drop];omega
 have hbs:ta.take i++tb'.drop j≠[]:=fun e=>by rw[e]at hbl0;simp at hbl0;omega
 have hnA:i=0∨(a=ra∧1≤i∧i≤len (rls Es) ra):=by
  rcases hra with h| h
  ·exact .inl h
  subst h
  omega
 have hnB:tb'.length-j=0∨(b=rb∧1≤tb'.length-j∧tb'.length-j≤len (rls Es) rb):=by
  rcases hrb with h| h
  ·exact .inl h
  subst h
  omega
 obtain⟨n,hn⟩:∃n,n=tb'.length-j:=⟨_,rfl⟩
 rw[←hn]at hnB hLb hbl0 hrb n2 n3 nra nrb hroom ⊢
 refine bO (hE.fn Tryz.func115) O O O (fun R=>?_)
 simp only[dR,uV,uW]
 refine gg16 ?_
 refine gU 3 ?_
 refine gg22 ?_
 refine uX (nD hE hB ha.gd) O ?_
 rintro _ _⟨rfl,rfl⟩
 simp only[uV,uW]
 refine gg19 ?_
 refine bE O (fun g1=>?_) (fun g1=>?_)
 ·exfalso;omega
 refine gg30 ?_
 refine uX (nD hE hB hb.gd) O ?_
 rintro _ _⟨rfl,rfl⟩
 simp only[uV,uW]
 refine gg19 ?_
 refine bE O (fun g2=>?_) (fun g2=>?_)
 ·exfalso;omega
 refine gg25 ?_
 refine uX (mO hE hb.gd.1) O ?_
 rintro _ _⟨rfl,rfl⟩
 simp only[uV,uW]
 refine gg2 ?_
 refine l_eq 44 (.int .i64 (n:Nat)) O (bW oO) ?_
 refine gg3 ?_
 refine jF (fun _:Unit=>[(0,uPt pp),(1,.int .i64 (a:Nat)),(2,.int .i64 (i:Nat)),(3,.int .i64 (b:Nat)),(16,.int .i64 (n:Nat))]) (fun _=>[cells pp [uPt s,uPt tb] 86,tabP tb s (rls Es),bR s most Es,R]) (fun _=>True) ?_ ?_
 ·refine gg6 ?_
  refine dS 48 O (fun h1=>?_) (fun h1=>?_)
  ·refine gg8 ?_
   refine bE O (fun h2=>?_) (fun h2=>?_)
   ·exfalso;exact n1 ⟨oO,oO⟩
   refine gg5 ?_
   refine dS 56 O (fun h3=>?_) (fun h3=>?_)
   ·exfalso;exact n3 ⟨oO,oO⟩
   refine gg15 ?_
   refine dS 67 O (fun h4=>?_) (fun h4=>?_)
   ·refine gg8 ?_
    refine bE O (fun h5=>?_) (fun h5=>?_)
    ·exfalso;omega
    refine gg2 ?_
    refine dY (ι:=Unit) () trivial ⟨O,O,O,O,O,trivial⟩ uI
   exfalso;omega
  refine gg12 ?_
  refine dS 56 O (fun h3=>?_) (fun h3=>?_)
  ·refine gg7 ?_
   refine uX (mO hE ha.gd.1) O ?_
   rintro _ _⟨rfl,rfl⟩
   simp only[uV,uW]
   refine gg6 ?_
   refine bE O (fun h6=>?_) (fun h6=>?_)
   ·exfalso;exact n2 ⟨oO,oO⟩
   refine gg5 ?_
   refine dS 67 O (fun h7=>?_) (fun h7=>?_)
   ·exfalso;omega
   refine gg9 ?_
   refine dY (ι:=Unit) () trivial ⟨O,O,O,O,O,trivial⟩ uI
  refine gg15 ?_
  refine dS 67 O (fun h7=>?_) (fun h7=>?_)
  ·exfalso;omega
  refine gg9 ?_
  refine dY (ι:=Unit) () trivial ⟨O,O,O,O,O,trivial⟩ uI
 rintro - -
 refine gg6 ?_
 refine uX (qDs (x:=a) (N:=i) (r:=ra) hE hB sra hnA) O ?_
 rintro _ _⟨ya,ga,p1,c1,rfl,da,da0,rfl⟩
 simp only[uV,uW]
 refine gg3 ?_
 refine uX (qDs (x:=b) (N:=n) (r:=rb) hE hB srb hnB) O ?_
 rintro _ _⟨yb,gb,p2,c2,rfl,db,db0,rfl⟩
 simp only[uV,uW]
 refine gg1 ?_
 refine uU (cZ (hE.t O) (fun b17=>?_))
 refine gg9 ?_
 rw[←da0]at hLa
 rw[←db0]at hLb
 obtain⟨hst,hsl⟩:=SpJ.start (A:=⟨ya,ga,p1,c1⟩) (B:=⟨yb,gb,p2,c2⟩) hw none 0 sra srb da db hLa hLb
 rw[←List.length_append,hbl0]at hsl
 generalize hbsE:ta.take i++tb'.drop j=bs at hbs hbl0 hst ⊢
 have hd0:¬(ya=0∧yb=0∧∃it:It,([]:List It)=[it]∧it.times=1):=fun h=>by
  obtain⟨_,_,it,h,_⟩:=h
  cases h
 refine jT (gL (t:=241) (sz:=4)) ?_
 refine dV (fun x:SpG=>[(0,uPt pp),(17,uPt b17),(18,.int .i64 ((x.l+1:Nat):Int))]) (fun x=>[cells pp [uPt s,uPt tb] 86,tabP tb s (rls (Es++x.M)),bR s most (Es++x.M),cells b17 [uPt pp,uPt pp,.bool false,.slice x.A.p x.A.fs.length x.A.c,.int .i64 (x.A.x:Nat),.int .u64 (key (rls (Es++x.M)) x.A.x:Nat),uPt pp,.bool true,.slice x.B.p x.B.fs.length x.B.c,.int .i64 (x.B.x:Nat),.int .u64 (key (rls (Es++x.M)) x.B.x:Nat),.slice x.C.p x.C.its.length x.C.c] 237,sl x.A.p x.A.c 256 8 x.A.fs.length (dU (rls (Es++x.M)) x.A.fs),sl x.B.p x.B.c 256 8 x.B.fs.length (dU (rls (Es++x.M)) x.B.fs),sl x.C.p x.C.c 241 4 x.C.its.length (itsC (rls (Es++x.M)) x.C.its),R]) (fun x=>30000-x.l) (fun x=>SpJ (rls (Es++x.M)) bs x.l ra rb x.A x.B x.C∧¬(x.A.x=0∧x.B.x=0∧∃it,x.C.its=[it]∧it.times=1)∧x.M.length+(rowS (rls (Es++x.M)) x.l x.A x.B x.C).length≤i+n) ⟨0,[],⟨ya,ga,p1,c1⟩,⟨yb,gb,p2,c2⟩,⟨[],none,0⟩⟩ ⟨by rw[List.append_nil];exact hst,hd0,by rw[List.append_nil,hsl];simp⟩ ⟨rfl,rfl,rfl,trivial⟩ ?_ ?_
 ·rw[List.append_nil]
  exact uI
 rintro⟨l,M,A,B,C⟩⟨hI,hdone,hrm⟩
 simp only at hI hdone hrm ⊢
 refine jY (p:=bR s most (Es++M)) uK (fun _ h=>dO h) ?_
 rintro⟨hw2, -, -, -⟩
 have hbl:bs.length≤dB:=oO
 have exl:∀z,z≤(rls Es).length→lvl (rls (Es++M)) z=lvl (rls Es) z∧len (rls (Es++M)) z=len (rls Es) z:=fun z hz=>by rw[dA];exact⟨jX _ hz,kX _ hz⟩
 obtain⟨xa1,xa2⟩:=exl ra sra.le
 obtain⟨xb1,xb2⟩:=exl rb srb.le
 have hlv:l≤25544:=hI.low hw2 hbs hbl (by rw[xa2];omega) (by rw[xb2];omega) (by rw[xa1];exact lra) (by rw[xb1];exact lrb) hdone
 have hel:(Es++M).length=Es.length+M.length:=List.length_append
 have hids:∀x∈dN C.its,1≤x∧x≤(rls (Es++M)).length:=fun x hx=>hI.mem hw2 x (by unfold rowS;simp[hx])
 have hrl:(seqE (rls (Es++M)) false l A.x A.fs++(dN C.its++seqE (rls (Es++M)) true l B.x B.fs)).length≤1000000000:=by show(rowS (rls (Es++M)) l A B C).length≤_;omega
 refine gg5 ?_
 refine uX (qIe hE hB (Es:=Es++M) (S:=b17) hI.sa hI.sb hI.ea hI.eb hI.sng hI.one hids hrl oO oO) O ?_
 rintro _ _⟨A1,B1,C1,rfl,hr,rfl⟩
 simp only[uV,uW]
 refine gg6 ?_
 refine uX (qSu hE hB (Es:=Es++M) (S:=b17) (most:=most) hI hbs hr hbl oO oO oO) O ?_
 rintro _ _⟨N,A2,B2,C2,rfl,hI2,hN, -,rfl⟩
 rw[List.append_assoc]at hI2 hN ⊢
 simp only[uV,uW]
 refine pE (p:=bR s most (Es++(M++N))) uK (fun _ h=>dO h) ?_
 rintro⟨hw3, -, -, -⟩
 refine gg19 ?_
 have again:¬(A2.x=0∧B2.x=0∧∃it,C2.its=[it]∧it.times=1)→SpJ (rls (Es++(M++N))) bs (l+1) ra rb A2 B2 C2∧¬(A2.x=0∧B2.x=0∧∃it,C2.its=[it]∧it.times=1)∧(M++N).length+(rowS (rls (Es++(M++N))) (l+1) A2 B2 C2).length≤i+n:=fun h=>⟨hI2,h,by rw[List.length_append];omega⟩
 obtain⟨its2,p3,c3⟩:=C2
 simp only at hI2 hN again ⊢
 refine dS 94 O (fun h4=>?_) (fun h4=>?_)
 ·have hA:A2.x=0:=oO
  refine gg10 ?_
  refine dS 100 O (fun h5=>?_) (fun h5=>?_)
  ·have hB2:B2.x=0:=oO
   refine gg10 ?_
   refine dS 106 O (fun h6=>?_) (fun h6=>?_)
   ·obtain⟨it,rfl⟩:∃it,its2=[it]:=List.length_eq_one_iff.1 oO
    refine pE (p:=sl p3 c3 241 4 [it].length (itsC (rls (Es++(M++N))) [it])) uK (fun _ h=>fA h (by simp)) ?_
    rintro⟨g,rfl⟩
    rw[fZ]
    have hl1:(1:Int)≤(([it].length:Nat):Int):=by simp
    refine gg15 ?_
    refine bE O (fun h7=>?_) (fun h7=>?_)
    ·obtain⟨r1,r2⟩:=hI2.one_left hw3 hA hB2 rfl oO
     refine gg16 ?_
     exact uZ O (.tmp O (.tmp O .nil)) ⟨M++N,it.id,O,by rw[List.length_append];omega,r1,rfl⟩
    have hag:=again (fun⟨_,_,i,e,ht⟩=>by cases e;exact h7 (by rw[ht];rfl))
    refine gg8 ?_
    refine iG 18 (.int .i64 ((l+1+1:Nat):Int)) O (bW oO) ?_
    refine bS (ι:=SpG) (j:=⟨l+1,M++N,A2,B2,⟨[it],some ⟨g,0,none⟩,c3⟩⟩) hag (by show 30000-(l+1)<30000-l;omega) ⟨O,O,O,trivial⟩ ?_
    rw[←fZ]
    exact uI
   have hag:=again (fun⟨_,_,i,e,ht⟩=>by rw[e]at h6;exact h6 rfl)
   refine gg18 ?_
   refine iG 18 (.int .i64 ((l+1+1:Nat):Int)) O (bW oO) ?_
   refine bS (ι:=SpG) (j:=⟨l+1,M++N,A2,B2,⟨its2,p3,c3⟩⟩) hag (by show 30000-(l+1)<30000-l;omega) ⟨O,O,O,trivial⟩ ?_
   exact uI
  have hag:=again (fun⟨_,h,_⟩=>h5 (by rw[h];rfl))
  refine gg24 ?_
  refine iG 18 (.int .i64 ((l+1+1:Nat):Int)) O (bW oO) ?_
  refine bS (ι:=SpG) (j:=⟨l+1,M++N,A2,B2,⟨its2,p3,c3⟩⟩) hag (by show 30000-(l+1)<30000-l;omega) ⟨O,O,O,trivial⟩ ?_
  exact uI
 have hag:=again (fun⟨h,_⟩=>h4 (by rw[h];rfl))
 refine gg30 ?_
 refine iG 18 (.int .i64 ((l+1+1:Nat):Int)) O (bW oO) ?_
 refine bS (ι:=SpG) (j:=⟨l+1,M++N,A2,B2,⟨its2,p3,c3⟩⟩) hag (by show 30000-(l+1)<30000-l;omega) ⟨O,O,O,trivial⟩ ?_
 exact uI
end
section
variable {E:Env}{Es:List Ent}{pp tb s most:Nat}
theorem xB (L:List Rl):Sn L [] 0:=⟨.inl ⟨rfl,rfl⟩,rfl,Nat.zero_le _,by show(0:Int)≤0;omega⟩
theorem qPu (hE:Seat E)(hB:Base E.w0){x j:Nat}{T:List UInt8}(hx:Sn (rls Es) T x)(h0:1≤T.length)(hj:j<T.length)(hlen:T.length≤1000000)(hroom:Es.length+T.length≤most):
  Ct E 115 [uPt pp,.int .i64 0,.int .i64 0,.int .i64 (x:Nat),.int .i64 (j:Nat)] [cells pp [uPt s,uPt tb] 86,tabP tb s (rls Es),bR s most Es]
   (fun v Q=>∃M id,v= .tuple #[.int .i64 (id:Nat),.nilIface]∧M.length≤T.length∧Sn (rls (Es++M)) (T.drop j) id∧Q=[cells pp [uPt s,uPt tb] 86,tabP tb s (rls (Es++M)),bR s most (Es++M)]):=by
 refine eO (p:=bR s most Es) uK (fun _ h=>dO h) (fun hsay=>?_)
 have hw:=hsay.1
 have hxl:=hx.len
 have hx0:x≠0:=by
  rintro rfl
  have:=hx.zero
  subst this
  simp at h0
 rcases Nat.eq_zero_or_pos j with rfl|hj0
 ·refine qAu (qAq (a:=0) (b:=x) (ta:=[]) (tb':=T) hE hB (xB _) hx (by simp;omega) (by simp;omega)) ?_
  rintro _ _⟨M,id,rfl,h1,h2, -,rfl⟩
  exact⟨_,⟨M,id,O,by simpa using h1,by simpa using h2,rfl⟩,fun R k h=>h⟩
 have hsg:=hx.sig hw hx0
 have hlv:=hx.lv hw (by have:dB=1152921504606846976:=rfl;omega)
 refine qAu (qDq (a:=0) (i:=0) (b:=x) (j:=j) (ta:=[]) (tb':=T) (ra:=x) (rb:=x) hE hB (xB _) hx (Nat.le_refl _) oO oO oO oO hsg hsg (.inl O) (.inr O) hlv hlv oO oO (by simp;omega) oO) ?_
 rintro _ _⟨M,id,rfl,h1,h2,rfl⟩
 exact⟨_,⟨M,id,O,oO,by simpa using h2,rfl⟩,fun R k h=>h⟩
theorem qPv (hE:Seat E)(hB:Base E.w0){x n:Nat}{T:List UInt8}(hx:Sn (rls Es) T x)(h0:1≤n)(hn:n≤T.length)(hlen:T.length≤1000000)(hroom:Es.length+T.length≤most):
  Ct E 115 [uPt pp,.int .i64 (x:Nat),.int .i64 (n:Nat),.int .i64 0,.int .i64 0] [cells pp [uPt s,uPt tb] 86,tabP tb s (rls Es),bR s most Es]
   (fun v Q=>∃M id,v= .tuple #[.int .i64 (id:Nat),.nilIface]∧M.length≤n∧Sn (rls (Es++M)) (T.take n) id∧Q=[cells pp [uPt s,uPt tb] 86,tabP tb s (rls (Es++M)),bR s most (Es++M)]):=by
 refine eO (p:=bR s most Es) uK (fun _ h=>dO h) (fun hsay=>?_)
 have hw:=hsay.1
 have hxl:=hx.len
 have hx0:x≠0:=by
  rintro rfl
  have:=hx.zero
  subst this
  simp at hn
  omega
 rcases Nat.eq_or_lt_of_le hn with rfl|hlt
 ·have hc:=qAq (pp:=pp) (tb:=tb) (s:=s) (most:=most) (a:=x) (b:=0) (ta:=T) (tb':=[]) hE hB hx (xB _) (by simp;omega) (by simp;omega)
  rw[hxl]at hc
  refine qAu hc ?_
  rintro _ _⟨M,id,rfl,h1,h2, -,rfl⟩
  exact⟨_,⟨M,id,O,by simpa using h1,by simpa using h2,rfl⟩,fun R k h=>h⟩
 have hsg:=hx.sig hw hx0
 have hlv:=hx.lv hw (by have:dB=1152921504606846976:=rfl;omega)
 refine qAu (qDq (a:=x) (i:=n) (b:=0) (j:=0) (ta:=T) (tb':=[]) (ra:=x) (rb:=x) hE hB hx (xB _) hn (Nat.le_refl _) oO oO oO hsg hsg (.inr O) (.inl O) hlv hlv (by simp;omega) (by simp;omega) (by simp;omega) (by simp;omega)) ?_
 rintro _ _⟨M,id,rfl,h1,h2,rfl⟩
 exact⟨_,⟨M,id,O,by simp at h1;omega,by simpa using h2,rfl⟩,fun R k h=>h⟩
theorem qNj (hE:Seat E)(hB:Base E.w0){x j n:Nat}{T:List UInt8}(hx:Sn (rls Es) T x)(h0:1≤n)(hn:j+n≤T.length)(hlen:T.length≤1000000)(hroom:Es.length+2*T.length≤most):
  Ct E 114 [uPt pp,.int .i64 (x:Nat),.int .i64 (j:Nat),.int .i64 (n:Nat)] [cells pp [uPt s,uPt tb] 86,tabP tb s (rls Es),bR s most Es]
   (fun v Q=>∃M id,v= .tuple #[.int .i64 (id:Nat),.nilIface]∧M.length≤T.length+n∧Sn (rls (Es++M)) ((T.drop j).take n) id∧Q=[cells pp [uPt s,uPt tb] 86,tabP tb s (rls (Es++M)),bR s most (Es++M)]):=by
 have hdl:(T.drop j).length=T.length-j:=List.length_drop ..
 refine bO (hE.fn Tryz.func114) O O O (fun R=>?_)
 simp only[dR,uV,uW]
 refine gg11 ?_
 refine uX (qPu (Es:=Es) (most:=most) hE hB hx oO oO hlen oO) O ?_
 rintro _ _⟨M,id,rfl,hM,hs,rfl⟩
 have hel:(Es++M).length=Es.length+M.length:=List.length_append
 simp only[uV,uW]
 refine gg22 ?_
 refine uX (qPv (Es:=Es++M) (most:=most) hE hB hs h0 oO oO oO) O ?_
 rintro _ _⟨M2,id2,rfl,hM2,hs2,rfl⟩
 rw[List.append_assoc]at hs2 ⊢
 simp only[uV,uW]
 refine gg7 ?_
 exact uZ O (.tmp O (.tmp O .nil)) ⟨M++M2,id2,O,by rw[List.length_append];omega,hs2,rfl⟩
end
section
variable {E:Env}{Es:List Ent}{pp tb s most:Nat}
theorem qUz {T:List UInt8}(hp:1≤T.length){n:Nat}:∀{k f:Nat},f%T.length+n≤T.length→f+n≤k*T.length→1≤n→((List.replicate k T).flatten.drop f).take n=(T.drop (f%T.length)).take n
 |0,f,h,h2,h3=>by omega
 |k+1,f,h,h2,h3=>by
  rw[List.replicate_succ,List.flatten_cons]
  rcases Nat.lt_or_ge f T.length with hl|hl
  ·rw[Nat.mod_eq_of_lt hl]at h ⊢
   rw[List.drop_append_of_le_length oO,List.take_append_of_le_length (by rw[List.length_drop];omega)]
  have e:f%T.length=(f-T.length)%T.length:=Nat.mod_eq_sub_mod hl
  rw[e]at h ⊢
  have e2:(k+1)*T.length=k*T.length+T.length:=Nat.succ_mul ..
  rw[List.drop_append,List.drop_eq_nil_of_le hl,List.nil_append]
  exact qUz hp h oO h3
structure ScG where
 y:Nat
 f:Nat
theorem qQk (hE:Seat E)(hB:Base E.w0){x j n:Nat}{T:List UInt8}(hx:Sn (rls Es) T x)(hn:j+n≤T.length)(hlen:T.length≤1000000)(hroom:Es.length+2*T.length≤most):
  Ct E 87 [uPt pp,.int .i64 (x:Nat),.int .i64 (j:Nat),.int .i64 (n:Nat)] [cells pp [uPt s,uPt tb] 86,tabP tb s (rls Es),bR s most Es]
   (fun v Q=>∃M id,v= .tuple #[.int .i64 (id:Nat),.nilIface]∧M.length≤T.length+n∧Sn (rls (Es++M)) ((T.drop j).take n) id∧Q=[cells pp [uPt s,uPt tb] 86,tabP tb s (rls (Es++M)),bR s most (Es++M)]):=by
 refine eO (p:=bR s most Es) uK (fun _ h=>dO h) (fun hsay=>?_)
 have hw:=hsay.1
 have hLl:=bQ Es
 have hxl:=hx.len
 refine bO (hE.fn Tryz.func87) O O O (fun R=>?_)
 simp only[dR,uV,uW]
 refine gg13 ?_
 refine bE O (fun h0=>?_) (fun h0=>?_)
 ·obtain rfl:n=0:=by omega
  refine gg8 ?_
  exact uZ O (.tmp O (.tmp O .nil)) ⟨[],0,O,Nat.zero_le _,by rw[List.take_zero];exact xB _,by rw[List.append_nil]⟩
 refine gg5 ?_
 refine uX (fK hE) O ?_
 rintro _ _⟨rfl,rfl⟩
 simp only[uV,uW]
 refine gg4 ?_
 obtain⟨S,hS⟩:∃S,S=(T.drop j).take n:=⟨_,rfl⟩
 rw[←hS]
 refine dV (fun k:ScG=>[(0,uPt pp),(1,.int .i64 (k.y:Nat)),(2,.int .i64 (k.f:Nat)),(3,.int .i64 (n:Nat)),(10,uPt s)]) (fun k=>[cells pp [uPt s,uPt tb] 86,tabP tb s (rls Es),bR s most Es,R]) (fun k=>k.y) (fun k=>Sn (rls Es) (txt (rls Es) k.y) k.y∧k.f+n≤len (rls Es) k.y∧len (rls Es) k.y≤T.length∧((txt (rls Es) k.y).drop k.f).take n=S) ⟨x,j⟩ ⟨by rw[hx.tx];exact hx,by simp only;omega,by simp only;omega,by simp only;rw[hx.tx,hS]⟩ ⟨rfl,rfl,rfl,rfl,rfl,trivial⟩ uI ?_
 rintro⟨y,f⟩⟨k1,k2,k3,k4⟩
 simp only at k1 k2 k3 k4 ⊢
 have hy0:y≠0:=by
  rintro rfl
  have e0:len (rls Es) 0=0:=rfl
  omega
 obtain⟨i,rfl⟩:∃i,y=i+1:=⟨y-1,oO⟩
 have hyl:=k1.gd.1
 obtain⟨en,hent⟩:∃y,Es[i]?=some y:=⟨_,List.getElem?_eq_getElem oO⟩
 have hr:(rls Es)[i]?=some en.r:=vM hent
 have hok:=hw.ok _ _ hr
 have hsub:∀z,z∈kids en.r→Sn (rls Es) (txt (rls Es) z) z:=fun z hz=>k1.reach hw (.kid hr hz (by
  obtain⟨z',rfl⟩:∃z',z=z'+1:=⟨z-1,by have:=rG hok z hz;omega⟩
  exact .self (by have:=rG hok _ hz;omega)))
 have hlx:(txt (rls Es) (i+1)).length=len (rls Es) (i+1):=rfl
 refine gg5 ?_
 refine uX (qB hE hent) O ?_
 rintro _ _⟨rfl,rfl⟩
 simp only[uV,uW]
 generalize en.r=r at hr hok hsub ⊢
 refine gg3 ?_
 refine uU (cZ (hE.t O) (fun b11=>?_))
 refine gg22 ?_
 cases r with
 |letter b=>
  have ht:=lU hr
  have e1:len (rls Es) (i+1)=1:=by unfold len;rw[ht];rfl
  refine bE O (fun h1=>?_) (fun h1=>?_)
  ·refine gg12 ?_
   apply cB
   ·rfl
   ·(apply Rs.tmp rfl;apply Rs.tmp rfl;exact Rs.nil)
   ·refine⟨[],i+1,O,Nat.zero_le _,?_,by rw[List.append_nil]⟩
    rw[List.append_nil,←k4]
    obtain rfl:f=0:=by omega
    obtain rfl:n=1:=by omega
    rw[List.drop_zero,List.take_of_length_le oO]
    exact k1
   exact uI
  exfalso;simp[Rl.kind]at h1
 |power z k=>
  have hk:=hok
  simp only[Rl.ok]at hk
  have ht:=kD hr hok
  have hz:=hsub z (by simp[kids])
  have el:len (rls Es) (i+1)=k*len (rls Es) z:=by unfold len;rw[ht];simp
  have hzl:len (rls Es) z≤len (rls Es) (i+1):=by rw[el];exact Nat.le_mul_of_pos_left _ oO
  have hp:=hw.pos z oO oO
  have hlz:(txt (rls Es) z).length=len (rls Es) z:=rfl
  obtain⟨z',rfl⟩:∃z',z=z'+1:=⟨z-1,oO⟩
  obtain⟨en2,hent2⟩:∃y,Es[z']?=some y:=⟨_,List.getElem?_eq_getElem oO⟩
  have htl:en2.t.length=len (rls Es) (z'+1):=by rw[hsay.2.1 z' en2 hent2];rfl
  refine bE O (fun h1=>?_) (fun h1=>?_)
  ·exfalso;simp[Rl.kind]at h1
  refine gg7 ?_
  refine uX (jZ hE hent2) O ?_
  rintro _ _⟨rfl,rfl⟩
  simp only[uV,uW]
  rw[htl]
  refine gg3 ?_
  refine uU (cZ (hE.t O) (fun b13=>?_))
  refine gg28 ?_
  refine dS 55 O (fun h2=>?_) (fun h2=>?_)
  ·obtain⟨m,hm⟩:∃m,m=f%len (rls Es) (z'+1):=⟨_,rfl⟩
   have hem:((f:Nat):Int)%((len (rls Es) (z'+1):Nat):Int)=((m:Nat):Int):=by rw[hm];exact(Int.natCast_emod ..).symm
   have hml:m<len (rls Es) (z'+1):=by rw[hm];exact Nat.mod_lt f oO
   refine gg6 ?_
   refine l_eq 58 (.int .i64 (m:Nat)) O (bW hem) ?_
   refine gg12 ?_
   refine bE O (fun h3=>?_) (fun h3=>?_)
   ·have hpc:=qUz (T:=txt (rls Es) (z'+1)) (n:=n) (k:=k) (f:=f) oO (by rw[hlz,←hm];omega) (by rw[hlz];omega) oO
    rw[←ht,k4,hlz,←hm]at hpc
    refine gg11 ?_
    refine bS (ι:=ScG) (j:=⟨z'+1,m⟩) ⟨hz,by simp only;omega,by simp only;omega,hpc.symm⟩ (by simp only;omega) ⟨rfl,rfl,congrArg some (bW hem),rfl,rfl,trivial⟩ uI
   refine gg6 ?_
   refine dS 73 O (fun h4=>?_) (fun h4=>?_)
   ·exfalso;simp[Rl.kind]at h4
   refine gg16 ?_
   refine dS 86 O (fun h5=>?_) (fun h5=>?_)
   ·exfalso;simp[Rl.kind]at h5
   refine gg14 ?_
   refine uX (qNj (Es:=Es) (most:=most) (x:=i+1) (j:=f) (n:=n) (T:=txt (rls Es) (i+1)) hE hB k1 oO oO oO oO) O ?_
   rintro _ _⟨M,id,rfl,hM,hs,rfl⟩
   rw[k4]at hs
   simp only[uV,uW]
   refine gg11 ?_
   exact uZ O (.tmp O (.tmp O .nil)) ⟨M,id,O,oO,hs,O⟩
  exfalso;simp[Rl.kind]at h2
 |pair a b=>
  refine bE O (fun h1=>?_) (fun h1=>?_)
  ·exfalso;simp[Rl.kind]at h1
  have hk:=hok
  simp only[Rl.ok]at hk
  have ht:=mU hr hok
  have ha:=hsub a (by simp[kids])
  have hb:=hsub b (by simp[kids])
  have el:len (rls Es) (i+1)=len (rls Es) a+len (rls Es) b:=by unfold len;rw[ht,List.length_append]
  have hla:(txt (rls Es) a).length=len (rls Es) a:=rfl
  have hlb:(txt (rls Es) b).length=len (rls Es) b:=rfl
  rw[ht]at k4
  obtain⟨a',rfl⟩:∃z',a=z'+1:=⟨a-1,oO⟩
  obtain⟨en2,hent2⟩:∃y,Es[a']?=some y:=⟨_,List.getElem?_eq_getElem oO⟩
  have htl:en2.t.length=len (rls Es) (a'+1):=by rw[hsay.2.1 a' en2 hent2];rfl
  refine gg7 ?_
  refine uX (jZ hE hent2) O ?_
  rintro _ _⟨rfl,rfl⟩
  simp only[uV,uW]
  rw[htl]
  refine gg3 ?_
  refine uU (cZ (hE.t O) (fun b13=>?_))
  refine gg28 ?_
  refine dS 55 O (fun h2=>?_) (fun h2=>?_)
  ·exfalso;simp[Rl.kind]at h2
  refine gg18 ?_
  refine dS 73 O (fun h3=>?_) (fun h3=>?_)
  ·refine gg14 ?_
   refine bE O (fun h4=>?_) (fun h4=>?_)
   ·refine gg7 ?_
    refine bS (ι:=ScG) (j:=⟨a'+1,f⟩) ⟨ha,by simp only;omega,by simp only;omega,?_⟩ (by simp only;omega) ⟨rfl,rfl,rfl,rfl,rfl,trivial⟩ uI
    rw[←k4,List.drop_append_of_le_length oO,List.take_append_of_le_length (by rw[List.length_drop];omega)]
   refine gg6 ?_
   refine dS 86 O (fun h5=>?_) (fun h5=>?_)
   ·refine gg10 ?_
    refine bE O (fun h6=>?_) (fun h6=>?_)
    ·refine gg11 ?_
     refine bS (ι:=ScG) (j:=⟨b,f-len (rls Es) (a'+1)⟩) ⟨hb,by simp only;omega,by simp only;omega,?_⟩ (by simp only;omega) ⟨rfl,rfl,congrArg some (bW (by simp only;omega)),rfl,rfl,trivial⟩ uI
     have e:(txt (rls Es) (a'+1)).drop f=[]:=List.drop_eq_nil_of_le oO
     rw[←k4,List.drop_append,e,List.nil_append,hla]
    rw[←ht]at k4
    refine gg6 ?_
    refine uX (qNj (Es:=Es) (most:=most) (x:=i+1) (j:=f) (n:=n) (T:=txt (rls Es) (i+1)) hE hB k1 oO oO oO oO) O ?_
    rintro _ _⟨M,id,rfl,hM,hs,rfl⟩
    rw[k4]at hs
    simp only[uV,uW]
    refine gg11 ?_
    exact uZ O (.tmp O (.tmp O .nil)) ⟨M,id,O,oO,hs,O⟩
   exfalso;simp[Rl.kind]at h5
  exfalso;simp[Rl.kind]at h3
end
section
variable {E:Env}{Es:List Ent}{pp tb s most:Nat}
theorem qQc (hE:Seat E)(hB:Base E.w0){x:Nat}(hg:good (rls Es) x):Ct E 85 [uPt pp,.int .i64 (x:Nat)] [cells pp [uPt s,uPt tb] 86,tabP tb s (rls Es),bR s most Es] (fun v Q=>v= .tuple #[.int .i64 (len (rls Es) x:Nat),.nilIface]∧Q=[cells pp [uPt s,uPt tb] 86,tabP tb s (rls Es),bR s most Es]):=by
 have hle:=hg.1
 have hLl:=bQ Es
 rcases Nat.eq_zero_or_pos x with rfl|h0
 ·refine bO (hE.fn Tryz.func85) O O O (fun R=>?_)
  simp only[dR,uV,uW]
  refine gg10 ?_
  refine uX (fK hE) O ?_
  rintro _ _⟨rfl,rfl⟩
  simp only[uV,uW]
  refine gg9 ?_
  refine uX (fK hE) O ?_
  rintro _ _⟨rfl,rfl⟩
  simp only[uV,uW]
  refine gg1 ?_
  refine uX (xV hE) O ?_
  rintro _ _⟨rfl,rfl⟩
  simp only[uV,uW]
  refine gg3 ?_
  refine uU (cZ (hE.t O) (fun b6=>?_))
  refine gg19 ?_
  refine uX (qSm hE) O ?_
  rintro _ _⟨rfl,rfl⟩
  simp only[uV,uW]
  refine gg25 ?_
  exact uZ O (.tmp O (.tmp O .nil)) ⟨O,O⟩
 obtain⟨i,rfl⟩:∃i,x=i+1:=⟨x-1,oO⟩
 obtain⟨en,hent⟩:∃y,Es[i]?=some y:=⟨_,List.getElem?_eq_getElem oO⟩
 refine eO (p:=bR s most Es) uK (fun _ h=>dO h) (fun hsay=>?_)
 have htl:en.t.length=len (rls Es) (i+1):=by rw[hsay.2.1 i en hent];rfl
 refine bO (hE.fn Tryz.func85) O O O (fun R=>?_)
 simp only[dR,uV,uW]
 refine gg10 ?_
 refine uX (fK hE) O ?_
 rintro _ _⟨rfl,rfl⟩
 simp only[uV,uW]
 refine gg9 ?_
 refine uX (fK hE) O ?_
 rintro _ _⟨rfl,rfl⟩
 simp only[uV,uW]
 refine gg1 ?_
 refine uX (jZ hE hent) O ?_
 rintro _ _⟨rfl,rfl⟩
 simp only[uV,uW]
 rw[htl]
 refine gg3 ?_
 refine uU (cZ (hE.t O) (fun b6=>?_))
 refine gg19 ?_
 refine uX (nD hE hB hg) O ?_
 rintro _ _⟨rfl,rfl⟩
 simp only[uV,uW]
 refine gg25 ?_
 exact uZ O (.tmp O (.tmp O .nil)) ⟨O,O⟩
theorem qDp (hE:Seat E)(hB:Base E.w0){x j n:Nat}{T:List UInt8}(hx:Sn (rls Es) T x)(hn:j+n≤T.length)(hlen:T.length≤1000000)(hroom:Es.length+2*T.length≤most):
  Ct E 53 [uPt pp,.int .i64 (x:Nat),.int .i64 (j:Nat),.int .i64 (n:Nat)] [cells pp [uPt s,uPt tb] 86,tabP tb s (rls Es),bR s most Es]
   (fun v Q=>∃M id,v= .tuple #[.int .i64 (id:Nat),.nilIface]∧M.length≤T.length+n∧Sn (rls (Es++M)) ((T.drop j).take n) id∧Q=[cells pp [uPt s,uPt tb] 86,tabP tb s (rls (Es++M)),bR s most (Es++M)]):=by
 have hxl:=hx.len
 refine bO (hE.fn Tryz.func53) O O O (fun R=>?_)
 simp only[dR,uV,uW]
 refine gg10 ?_
 refine uX (qQc hE hB hx.gd) O ?_
 rintro _ _⟨rfl,rfl⟩
 simp only[uV,uW]
 refine gg23 ?_
 refine uX (qNl (f:=j) (n:=n) (l:=len (rls Es) x) hE oO oO) O ?_
 rintro _ _⟨rfl,rfl⟩
 simp only[uV,uW]
 refine gg18 ?_
 refine uX (qQk (Es:=Es) (most:=most) hE hB hx hn hlen hroom) O ?_
 rintro _ _⟨M,id,rfl,hM,hs,rfl⟩
 simp only[uV,uW]
 refine gg7 ?_
 exact uZ O (.tmp O (.tmp O .nil)) ⟨M,id,O,hM,hs,O⟩
end
section
variable {E:Env}{Es:List Ent}{pp tb s most:Nat}
def rmS (N:Nat):Px→Nat
 | .copy f n=>N+n
 | .text x=>0
def rmD (N:Nat)(D:List Px):Nat:=(D.map (rmS N)).sum
def bts (L:List Rl)(T:List UInt8)(p:Px):List UInt8:=(p.out L).bytes T
structure AplG where
 i:Nat
 ids:List Nat
 M:List Ent
 q:Option Addr
 d:Nat
theorem rmD_take {N:Nat}{D:List Px}{i:Nat}{p:Px}(h:D[i]?=some p):rmD N (D.take (i+1))=rmD N (D.take i)+rmS N p:=by
 rw[List.take_add_one,h]
 simp[rmD]
theorem rmD_le {N:Nat}(D:List Px)(i:Nat):rmD N (D.take i)≤rmD N D:=by
 have e:rmD N D=rmD N (D.take i)+rmD N (D.drop i):=by
  unfold rmD
  rw[←List.sum_append,←List.map_append,List.take_append_drop]
 omega
theorem qR {L:List Rl}{T:List UInt8}{D:List Px}(h:∀x∈D,x.ok L T.length):((D.map (bts L T)).flatten).length=asz L D:=by
 induction D with
 |nil=>rfl
 |cons p D ih=>
  rw[List.map_cons,List.flatten_cons,List.length_append,ih fun x hx=>h x (List.mem_cons_of_mem _ hx)]
  have hp:=h p List.mem_cons_self
  have e:(bts L T p).length=p.size L:=by
   cases p with
   |copy f n=>
    have:1≤n∧f+n≤T.length:=hp
    show((T.drop f).take n).length=n
    rw[List.length_take,List.length_drop]
    omega
   |text x=>rfl
  rw[e]
  simp[asz]
theorem ct_Apply (hE:Seat E)(hB:Base E.w0){base g c:Nat}{T:List UInt8}(hx:Sn (rls Es) T base)(hT:T.length≤600){D:List Px}(h0:0<D.length)(hD:∀x∈D,x.ok (rls Es) T.length) (hn:D.length≤600) (hsz:asz (rls Es) D≤600) (hroom:Es.length+rmD T.length D+1200+D.length*600≤most):
  Ct E 23 [uPt pp,.int .i64 (base:Nat),.slice (some ⟨g,0,none⟩) D.length c] [cells pp [uPt s,uPt tb] 86,tabP tb s (rls Es),bR s most Es,sl (some ⟨g,0,none⟩) c 45 4 D.length (pxC D)]
   (fun v Q=>∃M id,v= .tuple #[.int .i64 (id:Nat),.nilIface]∧M.length≤rmD T.length D+D.length*600∧Sn (rls (Es++M)) (D.map (bts (rls Es) T)).flatten id∧Q=[cells pp [uPt s,uPt tb] 86,tabP tb s (rls (Es++M)),bR s most (Es++M),sl (some ⟨g,0,none⟩) c 45 4 D.length (pxC D)]):=by
 have hxl:=hx.len
 have hD2:∀x∈D,x.ok (rls Es) (len (rls Es) base):=by rw[hxl];exact hD
 refine bO (hE.fn Tryz.func23) O O O (fun R=>?_)
 simp only[dR,uV,uW]
 refine gg12 ?_
 refine uX (zO (Es:=Es) (D:=D) hE hB hx.gd oO hD2 oO oO) O ?_
 rintro _ _⟨rfl,rfl⟩
 simp only[uV,uW]
 refine gg26 ?_
 refine jT (gL (t:=24) (sz:=1)) ?_
 refine dV (fun k:AplG=>[(0,uPt pp),(1,.int .i64 (base:Nat)),(9,.slice k.q k.ids.length k.d),(21,.slice (some ⟨g,0,none⟩) D.length c),(22,.int .i64 (D.length:Nat)),(23,.int .i64 (k.i:Nat))]) (fun k=>[cells pp [uPt s,uPt tb] 86,tabP tb s (rls (Es++k.M)),bR s most (Es++k.M),sl (some ⟨g,0,none⟩) c 45 4 D.length (pxC D),sl k.q k.d 24 1 k.ids.length (idC k.ids),R]) (fun k=>D.length-k.i) (fun k=>k.i≤D.length∧Sns (rls (Es++k.M)) ((D.take k.i).map (bts (rls Es) T)) k.ids∧k.M.length≤rmD T.length (D.take k.i)) ⟨0,[],[],none,0⟩ ⟨Nat.zero_le _,.nil,Nat.zero_le _⟩ ⟨O,O,O,O,O,O,trivial⟩ ?_ ?_
 ·rw[List.append_nil]
  exact uI
 rintro⟨i,ids,M,q,d⟩⟨hi,hs,hM⟩
 simp only at hi hs hM ⊢
 have hil:ids.length=i:=by rw[hs.length,List.length_map,List.length_take];omega
 have hel:(Es++M).length=Es.length+M.length:=List.length_append
 refine gg6 ?_
 refine bE O (fun h=>?_) (fun h=>?_)
 ·obtain⟨p,hp⟩:∃p,D[i]?=some p:=⟨_,List.getElem?_eq_getElem oO⟩
  have hok:=hD p (List.mem_of_getElem? hp)
  obtain⟨f0,f1,f2,f3⟩:=tY hp (0+((i:Nat):Int).toNat*4) oO
  have hrt:=rmD_take (N:=T.length) hp
  have hrl:=rmD_le (N:=T.length) D (i+1)
  have htk:(D.take (i+1)).map (bts (rls Es) T)=(D.take i).map (bts (rls Es) T)++[bts (rls Es) T p]:=by
   rw[List.take_add_one,hp,List.map_append]
   rfl
  refine gg8 ?_
  refine uU (cZ (hE.t O) (fun b11=>?_))
  refine gg17 ?_
  cases p with
  |text x=>
   have hsx:Sn (rls (Es++M)) (txt (rls Es) x) x:=hok.2.up
   refine gg6 ?_
   refine uU ?_
   refine aU (hE.t O) (hE.t O) O O O (fun b46=>?_)
   refine uU ?_
   apply bU (hE.t O) (hE.t O) O O O
   ·exact uK
   ·exact uK
   ·rfl
   ·rfl
   ·omega
   ·omega
   ·(unfold maxLen;omega)
   intro g47 c47 n47 x47 hn47 hx47
   refine gg8 ?_
   obtain rfl:x47=idC (ids++[x]):=by rw[hx47,iU];rfl
   obtain rfl:n47=(ids++[x]).length:=by rw[hn47,List.length_append];simp
   refine bS (ι:=AplG) (j:=⟨i+1,ids++[x],M,some ⟨g47,0,none⟩,c47⟩) ⟨by simp only;omega,by simp only;rw[htk];exact hs.append (.one hsx),by simp only;omega⟩ (by simp only;omega) ⟨rfl,rfl,rfl,rfl,rfl,congrArg some (bW (by simp only;omega)),trivial⟩ uI
  |copy f n=>
   have hrs:rmS T.length (.copy f n)=T.length+n:=rfl
   have hok2:1≤n∧f+n≤T.length:=hok
   refine gg14 ?_
   refine uX (qDp (Es:=Es++M) (most:=most) (x:=base) (j:=f) (n:=n) (T:=T) hE hB hx.up hok2.2 oO oO) O ?_
   rintro _ _⟨M2,id,rfl,hM2,hs2,rfl⟩
   rw[List.append_assoc]at hs2 ⊢
   simp only[uV,uW]
   refine gg19 ?_
   refine uU ?_
   refine aU (hE.t O) (hE.t O) O O O (fun b46=>?_)
   refine uU ?_
   apply bU (hE.t O) (hE.t O) O O O
   ·exact uK
   ·exact uK
   ·rfl
   ·rfl
   ·omega
   ·omega
   ·(unfold maxLen;omega)
   intro g47 c47 n47 x47 hn47 hx47
   refine gg8 ?_
   obtain rfl:x47=idC (ids++[id]):=by rw[hx47,iU];rfl
   obtain rfl:n47=(ids++[id]).length:=by rw[hn47,List.length_append];simp
   have hs3:=hs.up (M:=M2)
   rw[List.append_assoc]at hs3
   refine bS (ι:=AplG) (j:=⟨i+1,ids++[id],M++M2,some ⟨g47,0,none⟩,c47⟩) ⟨by simp only;omega,by simp only;rw[htk];exact hs3.append (.one hs2),by simp only;rw[List.length_append];omega⟩ (by simp only;omega) ⟨rfl,rfl,rfl,rfl,rfl,congrArg some (bW (by simp only;omega)),trivial⟩ uI
 obtain rfl:i=D.length:=by omega
 rw[List.take_length]at hs hM
 have hfl:=qR hD
 have hml:=Nat.mul_le_mul_left ids.length (show((D.map (bts (rls Es) T)).flatten).length≤600 by omega)
 rw[hil]at hml
 have hrm:(Es++M).length+ids.length*((D.map (bts (rls Es) T)).flatten).length≤most:=by
  rw[hil,hel]
  omega
 refine jY (p:=sl q d 24 1 ids.length (idC ids)) uK (fun _ h=>fA h oO) ?_
 rintro⟨gq,rfl⟩
 refine gg9 ?_
 refine uX (qAo (Es:=Es++M) (most:=most) hE hB hs oO oO oO (hrm)) O ?_
 rintro _ _⟨M2,id,rfl,hM2,hs2,rfl⟩
 rw[List.append_assoc]at hs2 ⊢
 simp only[uV,uW]
 refine gg7 ?_
 exact uZ O (.tmp O (.tmp O .nil)) ⟨M++M2,id,O,by rw[hil]at hM2;rw[List.length_append];omega,hs2,rfl⟩
end
section
variable {E:Env}{Es:List Ent}{pp tb s most:Nat}
def Px.csize:Px→Nat
 | .copy f n=>n
 | .text x=>0
def csz (D:List Px):Nat:=(D.map Px.csize).sum
theorem qAl (L:List Rl)(D:List Px):csz D+tsz L D=asz L D:=by
 induction D with
 |nil=>rfl
 |cons p D ih=>
  have e:p.csize+p.tsize L=p.size L:=by
   cases p with
   |copy f n=>rfl
   |text x=>exact Nat.zero_add _
  simp only[csz,tsz,asz,List.map_cons,List.sum_cons]at ih ⊢
  omega
theorem sz_take {D:List Px}{i:Nat}{p:Px}(L:List Rl)(h:D[i]?=some p):csz (D.take (i+1))=csz (D.take i)+p.csize∧tsz L (D.take (i+1))=tsz L (D.take i)+p.tsize L∧asz L (D.take i)+p.size L≤asz L D:=by
 refine⟨by rw[List.take_add_one,h];simp[csz],by rw[List.take_add_one,h];simp[tsz],?_⟩
 obtain⟨h1,e1⟩:=List.getElem?_eq_some_iff.1 h
 have e:D=D.take i++(p::D.drop (i+1)):=by rw[←e1,←List.drop_eq_getElem_cons h1,List.take_append_drop]
 have e2:asz L D=asz L (D.take i++(p::D.drop (i+1))):=by rw[←e]
 rw[e2,sK]
 simp[asz]
theorem ct_Cost (hE:Seat E)(hB:Base E.w0){base g c:Nat}{T:List UInt8}(hx:Sn (rls Es) T base)(hT:T.length≤600){D:List Px}(h0:0<D.length)(hD:∀x∈D,x.ok (rls Es) T.length) (hn:D.length≤600) (hsz:asz (rls Es) D≤600):
  Ct E 24 [uPt pp,.int .i64 (base:Nat),.slice (some ⟨g,0,none⟩) D.length c] [cells pp [uPt s,uPt tb] 86,tabP tb s (rls Es),bR s most Es,sl (some ⟨g,0,none⟩) c 45 4 D.length (pxC D)]
   (fun v Q=>v= .tuple #[.int .i64 (csz D:Nat),.int .i64 (tsz (rls Es) D:Nat),.nilIface]∧Q=[cells pp [uPt s,uPt tb] 86,tabP tb s (rls Es),bR s most Es,sl (some ⟨g,0,none⟩) c 45 4 D.length (pxC D)]):=by
 have hxl:=hx.len
 have hD2:∀x∈D,x.ok (rls Es) (len (rls Es) base):=by rw[hxl];exact hD
 refine bO (hE.fn Tryz.func24) O O O (fun R=>?_)
 simp only[dR,uV,uW]
 refine gg13 ?_
 refine uX (zO (Es:=Es) (D:=D) hE hB hx.gd oO hD2 oO oO) O ?_
 rintro _ _⟨rfl,rfl⟩
 simp only[uV,uW]
 refine gg21 ?_
 refine dV (fun i:Nat=>[(0,uPt pp),(6,.int .i64 (csz (D.take i):Nat)),(7,.int .i64 (tsz (rls Es) (D.take i):Nat)),(21,.slice (some ⟨g,0,none⟩) D.length c),(22,.int .i64 (D.length:Nat)),(23,.int .i64 (i:Nat))]) (fun i=>[cells pp [uPt s,uPt tb] 86,tabP tb s (rls Es),bR s most Es,sl (some ⟨g,0,none⟩) c 45 4 D.length (pxC D),R]) (fun i=>D.length-i) (fun i=>i≤D.length) 0 (Nat.zero_le _) ⟨O,O,O,O,O,O,trivial⟩ uI ?_
 rintro i hi
 refine gg6 ?_
 refine bE O (fun h=>?_) (fun h=>?_)
 ·obtain⟨p,hp⟩:∃p,D[i]?=some p:=⟨_,List.getElem?_eq_getElem oO⟩
  have hok:=hD p (List.mem_of_getElem? hp)
  obtain⟨f0,f1,f2,f3⟩:=tY hp (0+((i:Nat):Int).toNat*4) oO
  obtain⟨e1,e2,e3⟩:=sz_take (rls Es) hp
  have e4:=qAl (rls Es) (D.take i)
  refine gg8 ?_
  refine uU (cZ (hE.t O) (fun b11=>?_))
  refine gg7 ?_
  refine uX (nQ (x:=p) hE hok) O ?_
  rintro _ _⟨rfl,rfl⟩
  simp only[uV,uW]
  refine gg23 ?_
  cases p with
  |text x=>
   have e5:(Px.text x).size (rls Es)=(Px.text x).tsize (rls Es):=rfl
   have e6:(Px.text x).csize=0:=rfl
   refine gg13 ?_
   refine bS (ι:=Nat) (j:=i+1) oO oO ⟨O,congrArg some (bW oO),congrArg some (bW oO),O,O,congrArg some (bW oO),trivial⟩ uI
  |copy f n=>
   have e5:(Px.copy f n).size (rls Es)=(Px.copy f n).csize:=rfl
   have e6:(Px.copy f n).tsize (rls Es)=0:=rfl
   refine gg13 ?_
   refine bS (ι:=Nat) (j:=i+1) oO oO ⟨O,congrArg some (bW oO),congrArg some (bW oO),O,O,congrArg some (bW oO),trivial⟩ uI
 obtain rfl:i=D.length:=by omega
 rw[List.take_length]
 refine gg15 ?_
 exact uZ O (.tmp O (.tmp O (.tmp O .nil))) ⟨O,O⟩
end
section
variable {E:Env}{Es:List Ent}{pp tb s most:Nat}
theorem xK (hE:Seat E)(hB:Base E.w0){base d:Nat}{q:Option Addr}(hg:good (rls Es) base):
  Ct E 52 [uPt pp,.int .i64 (base:Nat),.slice q 0 d] [cells pp [uPt s,uPt tb] 86,tabP tb s (rls Es),bR s most Es] (fun v Q=>v= .nilIface∧Q=[cells pp [uPt s,uPt tb] 86,tabP tb s (rls Es),bR s most Es]):=by
 refine bO (hE.fn Tryz.func52) O O O (fun R=>?_)
 simp only[dR,uV,uW]
 refine gg9 ?_
 refine uX (vE hE hB hg) O ?_
 rintro _ _⟨rfl,rfl⟩
 simp only[uV,uW]
 refine gg26 ?_
 refine gU 1 ?_
 refine gg27 ?_
 refine gU 1 ?_
 refine gg19 ?_
 exact uZ O (.tmp O .nil) ⟨O,O⟩
theorem qPm (hE:Seat E)(hB:Base E.w0){base d:Nat}{q:Option Addr}(hg:good (rls Es) base):
  Ct E 23 [uPt pp,.int .i64 (base:Nat),.slice q 0 d] [cells pp [uPt s,uPt tb] 86,tabP tb s (rls Es),bR s most Es] (fun v Q=>v= .tuple #[.int .i64 0,.nilIface]∧Q=[cells pp [uPt s,uPt tb] 86,tabP tb s (rls Es),bR s most Es]):=by
 refine bO (hE.fn Tryz.func23) O O O (fun R=>?_)
 simp only[dR,uV,uW]
 refine gg12 ?_
 refine uX (xK hE hB hg) O ?_
 rintro _ _⟨rfl,rfl⟩
 simp only[uV,uW]
 refine gg26 ?_
 refine gU 1 ?_
 refine gg17 ?_
 refine uX (qPo hE hB) O ?_
 rintro _ _⟨rfl,rfl⟩
 simp only[uV,uW]
 refine gg7 ?_
 exact uZ O (.tmp O (.tmp O .nil)) ⟨O,O⟩
theorem qSj (hE:Seat E)(hB:Base E.w0){base d:Nat}{q:Option Addr}(hg:good (rls Es) base):
  Ct E 24 [uPt pp,.int .i64 (base:Nat),.slice q 0 d] [cells pp [uPt s,uPt tb] 86,tabP tb s (rls Es),bR s most Es] (fun v Q=>v= .tuple #[.int .i64 0,.int .i64 0,.nilIface]∧Q=[cells pp [uPt s,uPt tb] 86,tabP tb s (rls Es),bR s most Es]):=by
 refine bO (hE.fn Tryz.func24) O O O (fun R=>?_)
 simp only[dR,uV,uW]
 refine gg13 ?_
 refine uX (xK hE hB hg) O ?_
 rintro _ _⟨rfl,rfl⟩
 simp only[uV,uW]
 refine gg21 ?_
 refine gU 1 ?_
 refine gg23 ?_
 exact uZ O (.tmp O (.tmp O (.tmp O .nil))) ⟨O,O⟩
end
section
variable {E:Env}{Es:List Ent}{pp tb s most:Nat}
def cpl (l:List Pc):Nat:=(l.map Pc.pn).sum
theorem kK (a b:List Pc):cpl (a++b)=cpl a+cpl b:=by simp[cpl]
theorem pX (x:Pc):cpl [x]=x.pn:=by simp[cpl]
theorem cpl_addP (o:List Pc)(x:Pc):cpl (addP o x)=cpl o+x.pn:=by
 rcases List.eq_nil_or_concat o with rfl|⟨o,y,rfl⟩
 ·rw[qFd,pX];exact(Nat.zero_add _).symm
 rw[List.concat_eq_append]
 cases y with
 |copy f n=>cases x with
  |copy f' n'=>
   by_cases h:f+n=f'
   ·subst h
    rw[qKs,kK,kK,pX,pX]
    show _+(n+n')=_+n+n'
    omega
   rw[qKt _ h,kK,pX]
  |text b=>rw[qKu,kK,pX]
 |text a=>cases x with
  |copy f' n'=>rw[qKv,kK,pX]
  |text b=>rw[qKw,kK,kK,pX,pX];rfl
theorem cpl_nrm (l:List Pc):cpl (nrm l)=cpl l:=by
 induction l using vN with
 |h0=>rfl
 |h1 l a ih=>rw[qGe,cpl_addP,ih,kK,pX]
theorem qSg (L:List Rl)(D:List Px):cpl (D.map (Px.out L))=csz D:=by
 unfold cpl csz
 rw[List.map_map]
 congr 1
 refine List.map_congr_left fun x _=>?_
 cases x<;>rfl
theorem qGo {L:List Rl}{N:Nat}:∀{D:List Px},(∀x∈D,x.ok L N)→rmD N D≤(N+1)*csz D
 |[],_=>Nat.zero_le _
 |p::D,h=>by
  have ih:=qGo (D:=D) fun x hx=>h x (List.mem_cons_of_mem _ hx)
  have hp:=h p List.mem_cons_self
  have e1:rmD N (p::D)=rmS N p+rmD N D:=by simp[rmD]
  have e2:csz (p::D)=p.csize+csz D:=by simp[csz]
  have e3:rmS N p≤(N+1)*p.csize:=by
   cases p with
   |copy f n=>
    have h1:1≤n:=hp.1
    show N+n≤(N+1)*n
    have:=Nat.mul_le_mul_left N h1
    rw[Nat.add_mul]
    omega
   |text x=>exact Nat.zero_le _
  rw[e1,e2,Nat.mul_add]
  omega
theorem qFh (L:List Rl)(T:List UInt8)(D:List Px):(D.map (bts L T)).flatten=desc T (D.map (Px.out L)):=by
 unfold desc
 rw[List.map_map]
 rfl
theorem qLz {M N:List Ent}{tx ty:List UInt8}{x y:Nat}{D out:List Px}(hw:Wf (rls M))(hx:Sn (rls M) tx x)(hy:Sn (rls M) ty y)(hD:D=pcs (rls M) (gW (rls M) x) y)(hJ:Jn M tx.length D D.length N out):
  (out.map (bts (rls (M++N)) tx)).flatten=ty∧asz (rls (M++N)) out=ty.length∧csz out+tsz (rls M) D=ty.length∧D.length≤ty.length∧out.length≤D.length∧N.length≤D.length*tsz (rls M) D:=by
 obtain⟨p1,p2,p3⟩:=sn_pcs hw hx hy
 rw[←hD]at p1 p2 p3
 have hJe:=hJ.eq
 rw[List.take_length,dA,(Px.ok.exts (rls N) p1).2,←dA]at hJe
 have e1:(out.map (bts (rls (M++N)) tx)).flatten=ty:=by
  rw[qFh,hJe,qNr,hD]
  have:=pcs_desc hw (qTt hw x) y hy.gd.1
  rw[hx.tx,hy.tx]at this
  exact this
 have e2:=qR hJ.ok
 rw[e1]at e2
 have e3:=qAl (rls M) D
 have e4:csz out=csz D:=by rw[←qSg (rls (M++N)),hJe,cpl_nrm,qSg]
 have e5:=hy.len
 have e6:=hJ.room
 rw[List.take_length]at e6
 exact⟨e1,e2.symm,oO,oO,hJ.len,e6⟩
theorem qKz {L:List Rl}(M:List Rl){N:Nat}{D:List Px}(h:∀x∈D,x.ok L N):asz (L++M) D=asz L D:=by
 unfold asz
 congr 1
 exact List.map_congr_left fun x hx=>((h x hx).ext M).2.2.1
theorem zP {f:FuncId}{args:List Value}{Pre:List HP}(F:List HP){u:Value}(h:Ct E f args Pre (fun v Q=>v=u∧Q=Pre)):Ct E f args (Pre++F) (fun v Q=>v=u∧Q=Pre++F):=fun R w s=>
 (h (dQ (F++[R])) w (s.imp fun k x=>jS (by rw[List.append_assoc]at x;exact x))).mono fun e w'⟨v,Qs,h1,⟨h2,h3⟩,h4⟩=>⟨v,Pre++F,h1,⟨h2,rfl⟩,by subst h3;rw[List.append_assoc];exact h4.imp fun k x=>lS x⟩
theorem qSi (hE:Seat E)(hB:Base E.w0){base c:Nat}{q:Option Addr}{D:List Px}(hg:good (rls Es) base)(hbl:len (rls Es) base≤100000)(hD:∀x∈D,x.ok (rls Es) (len (rls Es) base)) (hn:D.length≤100000) (hsz:asz (rls Es) D≤1000000):
  Ct E 52 [uPt pp,.int .i64 (base:Nat),.slice q D.length c] [cells pp [uPt s,uPt tb] 86,tabP tb s (rls Es),bR s most Es,sl q c 45 4 D.length (pxC D)] (fun v Q=>v= .nilIface∧Q=[cells pp [uPt s,uPt tb] 86,tabP tb s (rls Es),bR s most Es,sl q c 45 4 D.length (pxC D)]):=by
 rcases Nat.eq_zero_or_pos D.length with h0|h0
 ·obtain rfl:=List.length_eq_zero_iff.1 h0
  exact zP [_] (xK hE hB hg)
 refine eO (p:=sl q c 45 4 D.length (pxC D)) uK (fun _ h=>fA h h0) ?_
 rintro⟨g,rfl⟩
 exact zO hE hB hg hbl hD hn hsz
theorem qAm (hE:Seat E)(hB:Base E.w0){base c:Nat}{q:Option Addr}{T:List UInt8}(hx:Sn (rls Es) T base)(hT:T.length≤600){D:List Px}(hD:∀x∈D,x.ok (rls Es) T.length) (hn:D.length≤600) (hsz:asz (rls Es) D≤600) (hroom:Es.length+rmD T.length D+1200+D.length*600≤most):
  Ct E 23 [uPt pp,.int .i64 (base:Nat),.slice q D.length c] [cells pp [uPt s,uPt tb] 86,tabP tb s (rls Es),bR s most Es,sl q c 45 4 D.length (pxC D)]
   (fun v Q=>∃M id,v= .tuple #[.int .i64 (id:Nat),.nilIface]∧M.length≤rmD T.length D+D.length*600∧Sn (rls (Es++M)) (D.map (bts (rls Es) T)).flatten id∧Q=[cells pp [uPt s,uPt tb] 86,tabP tb s (rls (Es++M)),bR s most (Es++M),sl q c 45 4 D.length (pxC D)]):=by
 rcases Nat.eq_zero_or_pos D.length with h0|h0
 ·obtain rfl:=List.length_eq_zero_iff.1 h0
  refine qAu (zP [_] (qPm hE hB hx.gd)) ?_
  rintro _ _⟨rfl,rfl⟩
  refine⟨_,⟨[],0,O,Nat.zero_le _,Sn.empty _,O⟩,fun R k h=>?_⟩
  rw[List.append_nil]
  exact h
 refine eO (p:=sl q c 45 4 D.length (pxC D)) uK (fun _ h=>fA h h0) ?_
 rintro⟨g,rfl⟩
 exact ct_Apply hE hB hx hT h0 hD hn hsz hroom
theorem ct_CostQ (hE:Seat E)(hB:Base E.w0){base c:Nat}{q:Option Addr}{T:List UInt8}(hx:Sn (rls Es) T base)(hT:T.length≤600){D:List Px}(hD:∀x∈D,x.ok (rls Es) T.length) (hn:D.length≤600) (hsz:asz (rls Es) D≤600):
  Ct E 24 [uPt pp,.int .i64 (base:Nat),.slice q D.length c] [cells pp [uPt s,uPt tb] 86,tabP tb s (rls Es),bR s most Es,sl q c 45 4 D.length (pxC D)]
   (fun v Q=>v= .tuple #[.int .i64 (csz D:Nat),.int .i64 (tsz (rls Es) D:Nat),.nilIface]∧Q=[cells pp [uPt s,uPt tb] 86,tabP tb s (rls Es),bR s most Es,sl q c 45 4 D.length (pxC D)]):=by
 rcases Nat.eq_zero_or_pos D.length with h0|h0
 ·obtain rfl:=List.length_eq_zero_iff.1 h0
  exact zP [_] (qSj hE hB hx.gd)
 refine eO (p:=sl q c 45 4 D.length (pxC D)) uK (fun _ h=>fA h h0) ?_
 rintro⟨g,rfl⟩
 exact ct_Cost hE hB hx hT h0 hD hn hsz
theorem vD (hE:Seat E)(hB:Base E.w0){a b:Tx}(ha:OkT E.w0 a)(hb:OkT E.w0 b):Ct E 6 [.slice a.a a.bs.length a.c,.slice b.a b.bs.length b.c] [] (fun v Q=>v= .bool true∧Q=[]):=by
 have hal:=ha.2.1
 have hbl:=hb.2.1
 refine bO (hE.fn Tryz.func6) O O O (fun R=>?_)
 simp only[dR,uV,uW]
 refine gg12 ?_
 refine dS 19 O (fun h1=>?_) (fun h1=>?_)
 ·refine gg14 ?_
  exact uZ O (.tmp O .nil) ⟨O,O⟩
 refine gg9 ?_
 refine bE O (fun h2=>?_) (fun h2=>?_)
 ·refine gg7 ?_
  exact uZ O (.tmp O .nil) ⟨O,O⟩
 refine gg6 ?_
 refine uX (qNn hE hB ha hb oO oO) O ?_
 rintro _ _⟨pp,s,tb,M,x,y,rfl,hM,hx,hy,rfl⟩
 have hLl:=bQ M
 have hxl:=hx.gd.1
 have hyl:=hy.gd.1
 simp only[uV,uW]
 refine pE (p:=bR s 1048576 M) uK (fun _ h=>dO h) (fun hsay=>?_)
 have hw:=hsay.1
 refine gg26 ?_
 refine uX (qFj (Es:=M) (most:=1048576) hE hB hx hy oO oO oO oO) O ?_
 rintro _ _⟨N,out,q,d,rfl,hJ,rfl⟩
 simp only[uV,uW]
 refine gg22 ?_
 obtain⟨D,hD⟩:∃D,D=pcs (rls M) (gW (rls M) x) y:=⟨_,rfl⟩
 rw[←hD]at hJ
 obtain⟨g1,g2,g3,g4,g5,g6⟩:=qLz hw hx hy hD hJ
 have hok:=hJ.ok
 have hx2:=hx.up (M:=N)
 have hy2:=hy.up (M:=N)
 have hrm:=qGo hok
 have hm1:=Nat.mul_le_mul_right (csz out) (show a.bs.length+1≤601 by omega)
 have hm2:=Nat.mul_le_mul_right (tsz (rls M) D) (show D.length≤600 by omega)
 have hNl:(M++N).length=M.length+N.length:=List.length_append
 refine uX (qAm (Es:=M++N) (most:=1048576) hE hB hx2 oO hok oO oO oO) O ?_
 rintro _ _⟨K,id,rfl,hK,hs,rfl⟩
 rw[g1]at hs
 simp only[uV,uW]
 refine pE (p:=bR s 1048576 (M++N++K)) uK (fun _ h=>dO h) (fun hsay2=>?_)
 obtain rfl:=hs.fn hsay2.1 (hy2.up (M:=K))
 have hok3:∀x∈out,x.ok (rls (M++N++K)) a.bs.length:=by rw[dA (M++N) K];exact(Px.ok.exts (rls K) hok).1
 have hasz:=qKz (rls K) hok
 rw[←dA (M++N) K]at hasz
 have hct:=qAl (rls (M++N++K)) out
 refine gg12 ?_
 refine uX (ct_CostQ (Es:=M++N++K) (most:=1048576) hE hB hx2.up oO hok3 oO oO) O ?_
 rintro _ _⟨rfl,rfl⟩
 simp only[uV,uW]
 refine gg28 ?_
 refine dS 69 O (fun h5=>?_) (fun h5=>?_)
 ·refine gg17 ?_
  exact uZ O (.tmp O .nil) ⟨congrArg Value.bool (decide_eq_true oO),O⟩
 exfalso
 exact h5 O
end
section
theorem qOv {L:List Rl}(hw:Wf L){x:Px}{N:Nat}(h:x.ok L N):1≤x.size L:=by
 cases x with
 |copy f n=>exact h.1
 |text x=>exact(h.2.parts hw h.1).2.2
theorem pI {L:List Rl}(hw:Wf L){N:Nat}:∀{D:List Px},(∀x∈D,x.ok L N)→D.length≤asz L D
 |[],_=>Nat.zero_le _
 |p::D,h=>by
  have ih:=pI hw (D:=D) fun x hx=>h x (List.mem_cons_of_mem _ hx)
  have hp:=qOv hw (h p List.mem_cons_self)
  have e:asz L (p::D)=p.size L+asz L D:=by simp[asz]
  rw[List.length_cons]
  omega
theorem bts_size {L:List Rl}{T:List UInt8}{x:Px}(h:x.ok L T.length):(bts L T x).length=x.size L:=by
 have:=qR (D:=[x]) (L:=L) (T:=T) fun y hy=>by simp at hy;subst hy;exact h
 simpa[asz]using this
theorem bts_cut {L:List Rl}{T:List UInt8}{D:List Px}(hD:∀x∈D,x.ok L T.length) {i:Nat} {p:Px} (hp:D[i]?=some p) {f m:Nat} (h1:asz L (D.take i)≤f) (h2:f+m≤asz L (D.take i)+p.size L):
  (((D.map (bts L T)).flatten).drop f).take m=((bts L T p).drop (f-asz L (D.take i))).take m:=by
 obtain⟨hl,e1⟩:=List.getElem?_eq_some_iff.1 hp
 have e:D=D.take i++(p::D.drop (i+1)):=by rw[←e1,←List.drop_eq_getElem_cons hl,List.take_append_drop]
 have ea:=qR (D:=D.take i) fun x hx=>hD x (List.mem_of_mem_take hx)
 have eb:=bts_size (hD p (List.mem_of_getElem? hp))
 have e2:(D.map (bts L T)).flatten=((D.take i).map (bts L T)).flatten++(bts L T p++((D.drop (i+1)).map (bts L T)).flatten):=by
  conv=>lhs;rw[e]
  rw[List.map_append,List.flatten_append,List.map_cons,List.flatten_cons]
 rw[e2,List.drop_append,List.drop_eq_nil_of_le oO,List.nil_append,ea,List.drop_append_of_le_length oO,List.take_append_of_le_length (by rw[List.length_drop];omega)]
theorem qLa {L:List Rl}(M:List Rl){T:List UInt8}{D:List Px}{N:Nat}(h:∀x∈D,x.ok L N):D.map (bts (L++M) T)=D.map (bts L T):=
 List.map_congr_left fun x hx=>by unfold bts;rw[((h x hx).ext M).2.1]
structure Wi (L0 L:List Rl)(T:List UInt8)(D:List Px)(f n i k:Nat)(W:List Px):Prop where
 le:k≤n
 ok:∀x∈W,x.ok L T.length
 eq:(W.map (bts L T)).flatten=(((D.map (bts L0 T)).flatten).drop f).take k
 nx:k<n→asz L0 (D.take i)≤f+k∧f+k<asz L0 (D.take (i+1))
theorem Wi.lt {L0 L:List Rl}{T:List UInt8}{D:List Px}{f n i k:Nat}{W:List Px}(h:Wi L0 L T D f n i k W)(hk:k<n):i<D.length:=by
 have h1:=h.nx hk
 rcases Nat.lt_or_ge i D.length with h2|h2
 ·exact h2
 rw[List.take_of_length_le h2,List.take_of_length_le oO]at h1
 omega
theorem Wi.step {L0 L:List Rl}(M:List Rl){T:List UInt8}{D:List Px}{f n i k m:Nat}{W:List Px}(h:Wi L0 L T D f n i k W)(hD:∀x∈D,x.ok L0 T.length) (hfn:f+n≤asz L0 D) (hw:Wf L0) (hk:k<n) {p z:Px} (hp:D[i]?=some p)
  (hm:m=min (n-k) (p.size L0-(f+k-asz L0 (D.take i)))) (hz:z.ok (L++M) T.length) (hb:bts (L++M) T z=((bts L0 T p).drop (f+k-asz L0 (D.take i))).take m):1≤m∧k+m≤n∧Wi L0 (L++M) T D f n (i+1) (k+m) (W++[z]):=by
 obtain⟨h1,h2,h3,h4⟩:=h
 obtain⟨g1,g2⟩:=h4 hk
 have e1:=sM (L:=L0) hp
 have hcut:=bts_cut hD hp g1 (m:=m) oO
 refine⟨oO,oO,oO,fun x hx=>?_,?_,fun hlt=>?_⟩
 ·rcases List.mem_append.1 hx with hx|hx
  ·exact((h2 x hx).ext M).1
  simp at hx;subst hx;exact hz
 ·rw[List.map_append,qLa M h2,List.flatten_append,h3,List.map_cons,List.map_nil,List.flatten_cons,List.flatten_nil,List.append_nil,hb,←hcut,List.take_add,List.drop_drop]
 have e2:f+(k+m)=asz L0 (D.take (i+1)):=oO
 have hl:i+1<D.length:=by
  rcases Nat.lt_or_ge (i+1) D.length with hh|hh
  ·exact hh
  rw[List.take_of_length_le hh]at e2
  omega
 obtain⟨q,hq⟩:∃q,D[i+1]?=some q:=⟨_,List.getElem?_eq_getElem hl⟩
 have e3:=sM (L:=L0) hq
 have e4:=qOv hw (hD q (List.mem_of_getElem? hq))
 omega
def ends (L:List Rl)(D:List Px):List Nat:=(List.range D.length).map fun k=>asz L (D.take (k+1))
theorem qFu {L:List Rl}{D:List Px}{k:Nat}(h:k<D.length):(ends L D)[k]?=some (asz L (D.take (k+1))):=by
 unfold ends
 rw[List.getElem?_map,List.getElem?_range h]
 rfl
theorem qBc (L:List Rl)(D:List Px):(ends L D).length=D.length:=by simp[ends]
theorem asz_mono (L:List Rl)(D:List Px){i j:Nat}(h:i≤j):asz L (D.take i)≤asz L (D.take j):=by
 have:=lL L (D.take j) i
 rwa [List.take_take,Nat.min_eq_left h]at this
theorem Wi.start {L0 L:List Rl}{T:List UInt8}{D:List Px}{f n:Nat}(h:f+n≤asz L0 D):∃i,i≤D.length∧(∀k,k<i→asz L0 (D.take (k+1))≤f)∧(∀k,i≤k→k<D.length→f<asz L0 (D.take (k+1)))∧Wi L0 L T D f n i 0 []:=by
 have key:∀d i,d+i=D.length→(∀k,k<i→asz L0 (D.take (k+1))≤f)→∃i,i≤D.length∧(∀k,k<i→asz L0 (D.take (k+1))≤f)∧(∀k,i≤k→k<D.length→f<asz L0 (D.take (k+1))):=by
  intro d
  induction d with
  |zero=>exact fun i hi hk=>⟨i,oO,hk,fun k h1 h2=>by omega⟩
  |succ d ih=>
   intro i hi hk
   rcases Nat.lt_or_ge f (asz L0 (D.take (i+1)))with hl|hl
   ·exact⟨i,oO,hk,fun k h1 h2=>Nat.lt_of_lt_of_le hl (asz_mono L0 D oO)⟩
   refine ih (i+1) oO fun k h1=>?_
   rcases Nat.lt_or_ge k i with h2|h2
   ·exact hk k h2
   obtain rfl:k=i:=by omega
   exact hl
 obtain⟨i,h1,h2,h3⟩:=key D.length 0 oO (fun k hk=>by omega)
 refine⟨i,h1,h2,h3,Nat.zero_le _,fun x hx=>by simp at hx,by simp,fun hn=>⟨?_,?_⟩⟩
 ·cases i with
  |zero=>exact Nat.zero_le _
  |succ i=>exact h2 i oO
 rcases Nat.lt_or_ge i D.length with hl|hl
 ·exact h3 i (Nat.le_refl _) hl
 rw[List.take_of_length_le oO]
 omega
end
section
variable {E:Env}{Es:List Ent}{pp tb s most:Nat}
theorem qLw {l:List Nat}{i u:Nat}(h:l[i]?=some u):l.getD i 0=u:=by rw[List.getD_eq_getElem?_getD,h];rfl
theorem qDc (hE:Seat E){ids:List Nat}{i v u g c b2 b3:Nat}(hu:ids[i]?=some u):Ct E 120 [.int .i64 (i:Nat),uPt b2,uPt b3] [cells b2 [.slice (some ⟨g,0,none⟩) ids.length c] 28,cells b3 [.int .i64 (v:Nat)] 3,sl (some ⟨g,0,none⟩) c 3 1 ids.length (idC ids)] (fun r Q=>r= .bool (decide (v≤u))∧Q=[cells b2 [.slice (some ⟨g,0,none⟩) ids.length c] 28,cells b3 [.int .i64 (v:Nat)] 3,sl (some ⟨g,0,none⟩) c 3 1 ids.length (idC ids)]):=by
 have hil:=(List.getElem?_eq_some_iff.1 hu).1
 have f0:=kJ hu i O
 refine bO (hE.fn Tryz.func120) O O O (fun R=>?_)
 simp only[dR,uV,uW]
 refine gg6 ?_
 refine uH ([cells b2 [.slice (some ⟨g,0,none⟩) ids.length c] 28,cells b3 [.int .i64 (v:Nat)] 3,sl (some ⟨g,0,none⟩) c 3 1 ids.length (idC ids)]) ?_
 refine gg10 ?_
 exact uZ O (.tmp O .nil) ⟨congrArg Value.bool (by simp),O⟩
theorem qFr (hE:Seat E){ids:List Nat}{v m g c:Nat}(hn:ids.length≤1099511627776)(hm:m≤ids.length)(h0:∀i u,i<m→ids[i]?=some u→u<v) (h1:∀i u,m≤i→ids[i]?=some u→v≤u):
  Ct E 96 [.slice (some ⟨g,0,none⟩) ids.length c,.int .i64 (v:Nat)] [sl (some ⟨g,0,none⟩) c 3 1 ids.length (idC ids)] (fun r Q=>r= .int .i64 (m:Nat)∧Q=[sl (some ⟨g,0,none⟩) c 3 1 ids.length (idC ids)]):=by
 have hgo:goFn E.P 120=true:=hE.f oK
 refine bO (hE.fn Tryz.func96) O O O (fun R=>?_)
 simp only[dR,uV,uW]
 refine gg2 ?_
 refine uU ?_
 refine iQ O (fun b2=>?_)
 refine uU ?_
 refine iQ O (fun b3=>?_)
 refine gg8 ?_
 have hcl:∀i,i<ids.length→Ct E 120 (.int .i64 (i:Nat)::[uPt b2,uPt b3]) [dQ [cells b2 [.slice (some ⟨g,0,none⟩) ids.length c] 28,cells b3 [.int .i64 (v:Nat)] 3,sl (some ⟨g,0,none⟩) c 3 1 ids.length (idC ids)]] (fun r Q=>r= .bool (decide (v≤ids.getD i 0))∧Q=[dQ [cells b2 [.slice (some ⟨g,0,none⟩) ids.length c] 28,cells b3 [.int .i64 (v:Nat)] 3,sl (some ⟨g,0,none⟩) c 3 1 ids.length (idC ids)]]):=by
  intro i hi
  obtain⟨u,hu⟩:∃u,ids[i]?=some u:=⟨_,List.getElem?_eq_getElem hi⟩
  rw[qLw hu]
  exact qSv (qDc hE hu)
 have h0':∀i,i<m→decide (v≤ids.getD i 0)=false:=by
  intro i hi
  obtain⟨u,hu⟩:∃u,ids[i]?=some u:=⟨_,List.getElem?_eq_getElem oO⟩
  rw[qLw hu]
  have:=h0 i u hi hu
  exact decide_eq_false oO
 have h1':∀i,m≤i→i<ids.length→decide (v≤ids.getD i 0)=true:=by
  intro i hi hil
  obtain⟨u,hu⟩:∃u,ids[i]?=some u:=⟨_,List.getElem?_eq_getElem hil⟩
  rw[qLw hu]
  exact decide_eq_true (h1 i u hi hu)
 refine uX (qAx (qC hE hgo hn hcl hm h0' h1')) O ?_
 rintro _ _⟨rfl,rfl⟩
 simp only[uV,uW]
 refine gg4 ?_
 exact uZ O (.tmp O .nil) ⟨O,O⟩
theorem cut_copy (T:List UInt8){F n a m:Nat}(h:a+m≤n):(T.drop (F+a)).take m=((((T.drop F).take n).drop a).take m):=by
 rw[List.drop_take,List.drop_drop,List.take_take,Nat.min_eq_left oO]
structure WtG where
 i:Nat
 k:Nat
 M:List Ent
 W:List Px
 q:Option Addr
 d:Nat
theorem qQb (hE:Seat E)(hB:Base E.w0)(hw:Wf (rls Es)){M0:List Ent}{gd cd ge ce d f n:Nat}{q:Option Addr}{T:List UInt8}{D out:List Px}(hT:T.length≤600)(hD:∀x∈D,x.ok (rls Es) T.length) (hDn:D.length≤600) (hDs:asz (rls Es) D≤600) (hon:out.length≤100000) (hn1:1≤n) (hfn:f+n≤asz (rls Es) D) (hroom:Es.length+M0.length+1200*n≤most):
  Ct E 59 [uPt pp,.slice q out.length d,.slice (some ⟨gd,0,none⟩) D.length cd,.slice (some ⟨ge,0,none⟩) D.length ce,.agg ⟨pxV (.copy f n)⟩] [cells pp [uPt s,uPt tb] 86,tabP tb s (rls (Es++M0)),bR s most (Es++M0),sl q d 45 4 (out).length (pxC (out)),sl (some ⟨gd,0,none⟩) cd 45 4 D.length (pxC D),sl (some ⟨ge,0,none⟩) ce 3 1 D.length (idC (ends (rls Es) D))]
   (fun v Q=>∃M W q' d',v= .tuple #[.slice q' (out++W).length d',.nilIface]∧M.length≤1200*n∧(∀x∈W,x.ok (rls (Es++(M0++M))) T.length)∧(W.map (bts (rls (Es++(M0++M))) T)).flatten=(((D.map (bts (rls Es) T)).flatten).drop f).take n∧Q=[cells pp [uPt s,uPt tb] 86,tabP tb s (rls (Es++(M0++M))),bR s most (Es++(M0++M)),sl q' d' 45 4 (out++W).length (pxC (out++W)),sl (some ⟨gd,0,none⟩) cd 45 4 D.length (pxC D),sl (some ⟨ge,0,none⟩) ce 3 1 D.length (idC (ends (rls Es) D))]):=by
 have hel:=qBc (rls Es) D
 obtain⟨i0,g1,g2,g3,g4⟩:=Wi.start (L:=rls (Es++(M0++[]))) (T:=T) hfn
 have hsi:=qFr (E:=E) (ids:=ends (rls Es) D) (v:=f+1) (m:=i0) (g:=ge) (c:=ce) hE oO oO (fun i u hi hu=>by
  rw[qFu oO]at hu
  have:=g2 i hi
  simp at hu
  omega) (fun i u hi hu=>by
  have hil:=(List.getElem?_eq_some_iff.1 hu).1
  rw[qFu oO]at hu
  have:=g3 i hi oO
  simp at hu
  omega)
 rw[hel]at hsi
 have e1:(Px.copy f n).fr=f:=rfl
 refine bO (hE.fn Tryz.func59) O O O (fun R=>?_)
 simp only[dR,uV,uW]
 refine gg2 ?_
 refine uU ?_
 refine iQ O (fun b9=>?_)
 refine gg10 ?_
 refine uX (hsi) O ?_
 rintro _ _⟨rfl,rfl⟩
 simp only[uV,uW]
 refine gg11 ?_
 refine dV (fun x:WtG=>[(0,uPt pp),(1,.slice x.q (out++x.W).length x.d),(2,.slice (some ⟨gd,0,none⟩) D.length cd),(3,.slice (some ⟨ge,0,none⟩) D.length ce),(9,uPt b9),(13,.int .i64 (x.i:Nat))]) (fun x=>[cells b9 (pxV (.copy (f+x.k) (n-x.k))) 45,cells pp [uPt s,uPt tb] 86,tabP tb s (rls (Es++(M0++x.M))),bR s most (Es++(M0++x.M)),sl (some ⟨gd,0,none⟩) cd 45 4 D.length (pxC D),sl (some ⟨ge,0,none⟩) ce 3 1 D.length (idC (ends (rls Es) D)),sl x.q x.d 45 4 (out++x.W).length (pxC (out++x.W)),R]) (fun x=>D.length-x.i) (fun x=>x.i≤D.length∧Wi (rls Es) (rls (Es++(M0++x.M))) T D f n x.i x.k x.W∧x.M.length≤1200*x.k∧x.W.length≤x.k) ⟨i0,0,[],[],q,d⟩ ⟨g1,g4,Nat.zero_le _,Nat.zero_le _⟩ ⟨O,congrArg some (by simp only[List.append_nil]),O,O,O,O,trivial⟩ (by simp only[List.append_nil];(apply ent;(repeat constructor);done)) ?_
 rintro⟨i,k,M,W,q1,d1⟩⟨hi,hW,hM,hWn⟩
 simp only at hi hW hM hWn ⊢
 have hol:(out++W).length=out.length+W.length:=List.length_append
 have hkn:=hW.le
 have e1:(Px.copy (f+k) (n-k)).fr=f+k:=rfl
 have e2:(Px.copy (f+k) (n-k)).nn=n-k:=rfl
 refine gg8 ?_
 refine dS 28 O (fun h1=>?_) (fun h1=>?_)
 ·refine gg9 ?_
  refine bE O (fun h2=>?_) (fun h2=>?_)
  ·have hkl:k<n:=oO
   obtain⟨p,hp⟩:∃p,D[i]?=some p:=⟨_,List.getElem?_eq_getElem oO⟩
   obtain⟨hok1, -,hsz, -⟩:=(hD p (List.mem_of_getElem? hp)).ext (rls (M0++M))
   rw[←dA]at hok1 hsz
   have hok:=hD p (List.mem_of_getElem? hp)
   obtain⟨f0,f1,f2,f3⟩:=tY hp (0+((i:Nat):Int).toNat*4) oO
   have fe:=kJ (qFu (L:=rls Es) (show i<D.length by omega)) (((i:Nat):Int).toNat) oO
   have ea:=sM (L:=rls Es) hp
   obtain⟨n1,n2⟩:=hW.nx hkl
   have hdl:=lL (rls Es) D (i+1)
   obtain⟨a,ha⟩:∃a,a=f+k-asz (rls Es) (D.take i):=⟨_,rfl⟩
   obtain⟨m,hm⟩:∃m,m=min (n-k) (p.size (rls Es)-a):=⟨_,rfl⟩
   have hst:=fun(M2:List Ent)(z:Px)=>hW.step (rls M2) (m:=m) (z:=z) hD hfn hw hkl hp (by rw[←ha];exact hm)
   rw[←ha]at hst
   refine gg11 ?_
   refine uX (nQ (Es:=Es++(M0++M)) (most:=most) (x:=p) hE hok1) O ?_
   rintro _ _⟨rfl,rfl⟩
   simp only[uV,uW]
   rw[hsz]
   refine gg18 ?_
   refine uH ([cells b9 (pxV (.copy (f+k) (n-k))) 45,sl (some ⟨ge,0,none⟩) ce 3 1 D.length (idC (ends (rls Es) D))]) ?_
   refine gg12 ?_
   refine w_eq 16 (.int .i64 (a:Nat)) O (bW oO) ?_
   have em:m=n-k∨m=p.size (rls Es)-a:=oO
   have hm1:1≤m:=oO
   have hmn:k+m≤n:=oO
   refine gg11 ?_
   refine w_eq 14 (.int .i64 (m:Nat)) O (bW oO) ?_
   refine gg6 ?_
   refine l_eq 65 (.int .i64 ((f+(k+m):Nat):Int)) O (bW oO) ?_
   refine gg10 ?_
   refine l_eq 70 (.int .i64 ((n-(k+m):Nat):Int)) O (bW oO) ?_
   refine gg14 ?_
   cases p with
   |copy F n0=>
    obtain⟨u1,u2⟩:=hok
    have es:(Px.copy F n0).size (rls Es)=n0:=rfl
    have e3:(Px.copy F n0).fr=F:=rfl
    obtain⟨-, -,hW2⟩:=hst [] (.copy (F+a) m) ⟨hm1,oO⟩ (cut_copy T oO)
    rw[show rls ([]:List Ent)=[]from rfl,List.append_nil]at hW2
    refine gg11 ?_
    refine l_eq 84 (.int .i64 ((F+a:Nat):Int)) O (bW oO) ?_
    refine gg2 ?_
    refine uU ?_
    refine aU (hE.t O) (hE.t O) O O O (fun b87=>?_)
    refine uU ?_
    apply bU (hE.t O) (hE.t O) O O O
    ·exact uK
    ·exact uK
    ·rfl
    ·rfl
    ·omega
    ·omega
    ·(unfold maxLen;omega)
    intro g88 c88 n88 x88 hn88 hx88
    refine gg12 ?_
    obtain rfl:x88=pxC (out++(W++[.copy (F+a) m])):=by rw[hx88,←List.append_assoc,iF (out++W) [_]];rfl
    obtain rfl:n88=(out++(W++[Px.copy (F+a) m])).length:=by rw[hn88];simp only[List.length_append,List.length_cons,List.length_nil];omega
    refine bS (ι:=WtG) (j:=⟨i+1,k+m,M,W++[.copy (F+a) m],some ⟨g88,0,none⟩,c88⟩) ⟨by simp only;omega,hW2,by simp only;omega,by simp only[List.length_append,List.length_singleton];omega⟩ (by simp only;omega) ⟨rfl,rfl,rfl,rfl,rfl,congrArg some (bW (by simp only;omega)),trivial⟩ uI
   |text y=>
    obtain⟨y0,ys⟩:=hok
    have es:(Px.text y).size (rls Es)=(txt (rls Es) y).length:=rfl
    have hys:=(ys.up (M:=M0++M))
    have e3:(Px.text y).tx=y:=rfl
    have hEl:(Es++(M0++M)).length=Es.length+(M0.length+M.length):=by rw[List.length_append,List.length_append]
    refine gg13 ?_
    refine uX (qDp (Es:=Es++(M0++M)) (most:=most) (x:=y) (j:=a) (n:=m) (T:=txt (rls Es) y) hE hB hys oO oO oO) O ?_
    rintro _ _⟨M2,id,rfl,hM2,hs,rfl⟩
    have hid:id≠0:=fun e=>by
     subst e
     have:=congrArg List.length hs.zero
     rw[List.length_take,List.length_drop,List.length_nil]at this
     omega
    have htx:=hs.tx
    obtain⟨-, -,hW2⟩:=hst M2 (.text id) (by rw[←dA];exact⟨hid,by rw[htx];exact hs⟩) (by rw[←dA];exact htx)
    rw[←dA,List.append_assoc,List.append_assoc]at hW2
    rw[List.append_assoc,List.append_assoc]
    simp only[uV,uW]
    refine gg21 ?_
    refine uU ?_
    refine aU (hE.t O) (hE.t O) O O O (fun b107=>?_)
    refine uU ?_
    apply bU (hE.t O) (hE.t O) O O O
    ·exact uK
    ·exact uK
    ·rfl
    ·rfl
    ·omega
    ·omega
    ·(unfold maxLen;omega)
    intro g108 c108 n108 x108 hn108 hx108
    refine gg9 ?_
    obtain rfl:x108=pxC (out++(W++[.text id])):=by rw[hx108,←List.append_assoc,iF (out++W) [_]];rfl
    obtain rfl:n108=(out++(W++[Px.text id])).length:=by rw[hn108];simp only[List.length_append,List.length_cons,List.length_nil];omega
    refine bS (ι:=WtG) (j:=⟨i+1,k+m,M++M2,W++[.text id],some ⟨g108,0,none⟩,c108⟩) ⟨by simp only;omega,hW2,by simp only[List.length_append];omega,by simp only[List.length_append,List.length_singleton];omega⟩ (by simp only;omega) ⟨rfl,rfl,rfl,rfl,rfl,congrArg some (bW (by simp only;omega)),trivial⟩ uI
  obtain rfl:k=n:=by omega
  refine gg13 ?_
  exact uZ O (.tmp O (.tmp O .nil)) ⟨M,W,q1,d1,O,hM,hW.ok,hW.eq,O⟩
 have hkn2:¬k<n:=fun h=>absurd (hW.lt h) oO
 obtain rfl:k=n:=by omega
 refine gg20 ?_
 exact uZ O (.tmp O (.tmp O .nil)) ⟨M,W,q1,d1,O,hM,hW.ok,hW.eq,O⟩
end
section
variable {E:Env}{Es:List Ent}{pp tb s most:Nat}
theorem qQa (hE:Seat E){q:Option Addr}{d:Nat}:Ct E 60 [uPt pp,.slice q 0 d] [cells pp [uPt s,uPt tb] 86,tabP tb s (rls Es),bR s most Es] (fun v Q=>v= .tuple #[.slice none 0 0,.nilIface]∧Q=[cells pp [uPt s,uPt tb] 86,tabP tb s (rls Es),bR s most Es]):=by
 refine bO (hE.fn Tryz.func60) O O O (fun R=>?_)
 simp only[dR,uV,uW]
 refine gg18 ?_
 refine gU 1 ?_
 refine gg24 ?_
 exact uZ O (.tmp O (.tmp O .nil)) ⟨O,O⟩
theorem qSp (hE:Seat E)(hB:Base E.w0){N c:Nat}{q:Option Addr}{D:List Px}(hN:N≤100000)(hD:∀x∈D,x.ok (rls Es) N) (hn:D.length≤100000) (hsz:tsz (rls Es) D≤1000000) (hroom:Es.length+D.length*tsz (rls Es) D≤most):
  Ct E 60 [uPt pp,.slice q D.length c] [cells pp [uPt s,uPt tb] 86,tabP tb s (rls Es),bR s most Es,sl q c 45 4 D.length (pxC D)]
   (fun v Q=>∃M out q2 d,v= .tuple #[.slice q2 out.length d,.nilIface]∧Jn Es N D D.length M out∧Q=[cells pp [uPt s,uPt tb] 86,tabP tb s (rls (Es++M)),bR s most (Es++M),sl q c 45 4 D.length (pxC D),sl q2 d 45 4 out.length (pxC out)]):=by
 rcases Nat.eq_zero_or_pos D.length with h0|h0
 ·obtain rfl:=List.length_eq_zero_iff.1 h0
  refine qAu (zP [_] (qQa hE)) ?_
  rintro _ _⟨rfl,rfl⟩
  refine⟨_,⟨[],[],none,0,O,⟨O,fun x h=>by simp at h,Nat.le_refl _,Nat.zero_le _⟩,rfl⟩,fun R k h=>?_⟩
  rw[List.append_nil]
  exact dX (fun k h=>dX (fun k h=>dX (fun k h=>dX (fun k h=>gL k h) h) h) h) h
 refine eO (p:=sl q c 45 4 D.length (pxC D)) uK (fun _ h=>fA h h0) ?_
 rintro⟨g,rfl⟩
 exact qNh hE hB hN hD hn hsz hroom
theorem join_bts {Es M:List Ent}{N:Nat}{T:List UInt8}{D out:List Px}(hD:∀x∈D,x.ok (rls Es) T.length) (hJ:Jn Es N D D.length M out):(out.map (bts (rls (Es++M)) T)).flatten=(D.map (bts (rls Es) T)).flatten:=by
 have hJe:=hJ.eq
 rw[List.take_length,dA,(Px.ok.exts (rls M) hD).2,←dA]at hJe
 rw[qFh,hJe,qNr,qFh]
structure CmpG where
 i:Nat
 M:List Ent
 W:List Px
 q:Option Addr
 d:Nat
theorem qPn (hE:Seat E)(hB:Base E.w0){base cd ce:Nat}{qd qe:Option Addr}{T:List UInt8}{D F:List Px}(hx:Sn (rls Es) T base)(hT:T.length≤200)(hD:∀x∈D,x.ok (rls Es) T.length) (hDs:asz (rls Es) D≤200) (hF:∀x∈F,x.ok (rls Es) (asz (rls Es) D)) (hFs:asz (rls Es) F≤200) (hroom:Es.length+500000≤most):
  Ct E 26 [uPt pp,.int .i64 (base:Nat),.slice qd D.length cd,.slice qe F.length ce] [cells pp [uPt s,uPt tb] 86,tabP tb s (rls Es),bR s most Es,sl qd cd 45 4 D.length (pxC D),sl qe ce 45 4 F.length (pxC F)]
   (fun v Q=>∃M out q d,v= .tuple #[.slice q out.length d,.nilIface]∧M.length≤500000∧(∀x∈out,x.ok (rls (Es++M)) T.length)∧(out.map (bts (rls (Es++M)) T)).flatten=(F.map (bts (rls Es) (D.map (bts (rls Es) T)).flatten)).flatten∧Q=[cells pp [uPt s,uPt tb] 86,tabP tb s (rls (Es++M)),bR s most (Es++M),sl qd cd 45 4 D.length (pxC D),sl qe ce 45 4 F.length (pxC F),sl q d 45 4 out.length (pxC out)]):=by
 refine eO (p:=bR s most Es) uK (fun _ h=>dO h) (fun hsay=>?_)
 have hw:=hsay.1
 obtain⟨Y,hY⟩:∃Y,Y=(D.map (bts (rls Es) T)).flatten:=⟨_,rfl⟩
 have hYl:Y.length=asz (rls Es) D:=by rw[hY];exact qR hD
 rw[←hY]
 rw[←hYl]at hF
 have hDn:=pI hw hD
 have hFn:=pI hw hF
 have hrm:=qGo hD
 have hct:=qAl (rls Es) D
 have hm1:=Nat.mul_le_mul (show T.length+1≤201 by omega) (show csz D≤200 by omega)
 have hel:=qBc (rls Es) D
 have hml:D.length≤maxLen:=by unfold maxLen;omega
 refine bO (hE.fn Tryz.func26) O O O (fun R=>?_)
 simp only[dR,uV,uW]
 refine gg11 ?_
 refine uX (qAm (Es:=Es) (most:=most) hE hB hx oO hD oO oO oO) O ?_
 rintro _ _⟨M1,y,rfl,hM1,hy,rfl⟩
 rw[←hY]at hy
 simp only[uV,uW]
 refine gg23 ?_
 have hyl:=hy.len
 have hF1:=(Px.ok.exts (rls M1) hF).1
 rw[←dA,←hyl]at hF1
 have hFs1:=qKz (rls M1) hF
 rw[←dA]at hFs1
 refine uX (qSi (Es:=Es++M1) (most:=most) (D:=F) hE hB hy.gd oO hF1 oO oO) O ?_
 rintro _ _⟨rfl,rfl⟩
 simp only[uV,uW]
 refine gg16 ?_
 refine uU ?_
 refine qUi (c:=D.length) (hE.t O) (hE.t O) O oO oO (by(unfold maxLen;omega)) (fun b41=>?_)
 refine gg17 ?_
 have ez:List.replicate D.length (Value.int .i64 0)=idC (tkS (ends (rls Es) D) 0):=by
  have:=tkS_zero (ends (rls Es) D)
  rwa [hel]at this
 rw[ez]
 refine dV (fun i:Nat=>[(0,uPt pp),(2,.slice qd D.length cd),(3,.slice qe F.length ce),(13,.slice (some ⟨b41,0,none⟩) D.length D.length),(14,.int .i64 (asz (rls Es) (D.take i):Nat)),(42,.slice qd D.length cd),(43,.int .i64 (D.length:Nat)),(44,.int .i64 (i:Nat))]) (fun i=>[cells pp [uPt s,uPt tb] 86,tabP tb s (rls (Es++M1)),bR s most (Es++M1),sl qd cd 45 4 D.length (pxC D),sl qe ce 45 4 F.length (pxC F),sl (some ⟨b41,0,none⟩) D.length 3 1 D.length (idC (tkS (ends (rls Es) D) i)),R]) (fun i=>D.length-i) (fun i=>i≤D.length) 0 (Nat.zero_le _) ⟨O,O,O,O,O,O,O,O,trivial⟩ uI ?_
 rintro i hi
 refine gg6 ?_
 refine bE O (fun h1=>?_) (fun h1=>?_)
 ·have hil:i<D.length:=oO
  obtain⟨p,hp⟩:∃p,D[i]?=some p:=⟨_,List.getElem?_eq_getElem hil⟩
  obtain⟨hok1, -,hsz, -⟩:=(hD p (List.mem_of_getElem? hp)).ext (rls M1)
  rw[←dA]at hok1 hsz
  obtain⟨f0,f1,f2,f3⟩:=tY hp (0+((i:Nat):Int).toNat*4) oO
  have ea:=sM (L:=rls Es) hp
  have hdl:=lL (rls Es) D (i+1)
  refine jY (p:=sl qd cd 45 4 D.length (pxC D)) uK (fun _ h=>fA h oO) ?_
  rintro⟨gd,rfl⟩
  refine gg9 ?_
  refine uU (cZ (hE.t O) (fun b16=>?_))
  refine gg8 ?_
  refine uX (nQ (Es:=Es++M1) (most:=most) (x:=p) hE hok1) O ?_
  rintro _ _⟨rfl,rfl⟩
  simp only[uV,uW]
  rw[hsz]
  refine gg38 ?_
  rw[tkS_set (k:=i) (qFu (L:=rls Es) hil) (((i:Nat):Int).toNat) oO oO]
  refine bS (ι:=Nat) (j:=i+1) oO oO ⟨O,O,O,O,congrArg some (bW oO),O,O,congrArg some (bW oO),trivial⟩ uI
 obtain rfl:i=D.length:=by omega
 have ez2:=tkS_all (ends (rls Es) D)
 rw[hel]at ez2
 rw[ez2]
 clear h1 hi
 refine gg19 ?_
 refine jT (gL (t:=45) (sz:=4)) ?_
 refine dV (fun x:CmpG=>[(0,uPt pp),(2,.slice qd D.length cd),(13,.slice (some ⟨b41,0,none⟩) D.length D.length),(19,.slice x.q x.W.length x.d),(66,.slice qe F.length ce),(67,.int .i64 (F.length:Nat)),(68,.int .i64 (x.i:Nat))]) (fun x=>[cells pp [uPt s,uPt tb] 86,tabP tb s (rls (Es++x.M)),bR s most (Es++x.M),sl qd cd 45 4 D.length (pxC D),sl qe ce 45 4 F.length (pxC F),sl (some ⟨b41,0,none⟩) D.length 3 1 D.length (idC (ends (rls Es) D)),sl x.q x.d 45 4 x.W.length (pxC x.W),R]) (fun x=>F.length-x.i) (fun x=>x.i≤F.length∧(∀z∈x.W,z.ok (rls (Es++x.M)) T.length)∧(x.W.map (bts (rls (Es++x.M)) T)).flatten=((F.take x.i).map (bts (rls Es) Y)).flatten∧x.M.length≤160400+1200*asz (rls Es) (F.take x.i)) ⟨0,M1,[],none,0⟩ ⟨Nat.zero_le _,fun z h=>by simp at h,rfl,by simp only;omega⟩ ⟨rfl,rfl,rfl,rfl,rfl,rfl,rfl,trivial⟩ uI ?_
 rintro⟨i,M,W,q,d⟩⟨hi,hWo,hWe,hM⟩
 simp only at hi hWo hWe hM ⊢
 have hWl:=qR hWo
 have hFl:=qR (D:=F.take i) fun x hx=>hF x (List.mem_of_mem_take hx)
 rw[hWe,hFl]at hWl
 have hle:=lL (rls Es) F i
 refine jY (p:=bR s most (Es++M)) uK (fun _ h=>dO h) (fun hsay2=>?_)
 have hWn:=pI hsay2.1 hWo
 refine gg6 ?_
 refine bE O (fun h2=>?_) (fun h2=>?_)
 ·have hil:i<F.length:=oO
  obtain⟨p,hp⟩:∃p,F[i]?=some p:=⟨_,List.getElem?_eq_getElem hil⟩
  obtain⟨f0,f1,f2,f3⟩:=tY hp (0+((i:Nat):Int).toNat*4) oO
  have ea:=sM (L:=rls Es) hp
  have hdl:=lL (rls Es) F (i+1)
  have hokp:=hF p (List.mem_of_getElem? hp)
  have htk:((F.take (i+1)).map (bts (rls Es) Y)).flatten=((F.take i).map (bts (rls Es) Y)).flatten++bts (rls Es) Y p:=by
   rw[qCq hp,List.map_append,List.flatten_append]
   simp
  refine jY (p:=sl qe ce 45 4 F.length (pxC F)) uK (fun _ h=>fA h oO) ?_
  rintro⟨gf,rfl⟩
  refine gg8 ?_
  refine uU (cZ (hE.t O) (fun b21=>?_))
  refine gg11 ?_
  cases p with
  |text y=>
   obtain⟨z0,z1⟩:=hokp.ext (rls M)
   rw[←dA]at z0 z1
   refine gg5 ?_
   refine uU ?_
   refine aU (hE.t O) (hE.t O) O O O (fun b77=>?_)
   refine uU ?_
   apply bU (hE.t O) (hE.t O) O O O
   ·exact uK
   ·exact uK
   ·rfl
   ·rfl
   ·omega
   ·omega
   ·(unfold maxLen;omega)
   intro g78 c78 n78 x78 hn78 hx78
   refine gg11 ?_
   obtain rfl:x78=pxC (W++[.text y]):=by rw[hx78,iF];rfl
   obtain rfl:n78=(W++[Px.text y]).length:=by simp;omega
   refine bS (ι:=CmpG) (j:=⟨i+1,M,W++[.text y],some ⟨g78,0,none⟩,c78⟩) ⟨by simp only;omega,fun z hz=>?_,?_,by simp only;omega⟩ (by simp only;omega) ⟨rfl,rfl,rfl,rfl,rfl,rfl,congrArg some (bW (by simp only;omega)),trivial⟩ uI
   ·rcases List.mem_append.1 hz with hz|hz
    ·exact hWo z hz
    simp at hz;subst hz;exact z0
   simp only
   rw[List.map_append,List.flatten_append,hWe,htk]
   simp only[List.map_cons,List.map_nil,List.flatten_cons,List.flatten_nil,List.append_nil]
   unfold bts
   rw[z1.1]
   rfl
  |copy f n=>
   obtain⟨c1,c2⟩:=hokp
   have es:(Px.copy f n).size (rls Es)=n:=rfl
   have hDp:0<D.length:=by
    rcases Nat.eq_zero_or_pos D.length with h0|h0
    ·obtain rfl:=List.length_eq_zero_iff.1 h0
     have:asz (rls Es) ([]:List Px)=0:=rfl
     omega
    exact h0
   refine jY (p:=sl qd cd 45 4 D.length (pxC D)) uK (fun _ h=>fA h hDp) ?_
   rintro⟨gd,rfl⟩
   refine gg10 ?_
   refine uX (qQb (Es:=Es) (M0:=M) (T:=T) (D:=D) (out:=W) (f:=f) (n:=n) (most:=most) hE hB hw oO hD oO oO oO c1 oO oO) O ?_
   rintro _ _⟨M2,W2,q2,d2,rfl,hM2,h5,h6,rfl⟩
   rw[←hY]at h6
   simp only[uV,uW]
   refine gg21 ?_
   have hx2:=Px.ok.exts (rls M2) hWo
   have hb2:=qLa (rls M2) (T:=T) hWo
   rw[←dA,List.append_assoc]at hx2 hb2
   refine bS (ι:=CmpG) (j:=⟨i+1,M++M2,W++W2,q2,d2⟩) ⟨by simp only;omega,fun z hz=>?_,?_,by simp only;rw[List.length_append];omega⟩ (by simp only;omega) ⟨rfl,rfl,rfl,rfl,rfl,rfl,congrArg some (bW (by simp only;omega)),trivial⟩ uI
   ·rcases List.mem_append.1 hz with hz|hz
    ·exact hx2.1 z hz
    exact h5 z hz
   simp only
   rw[List.map_append,List.flatten_append,hb2,hWe,htk,h6]
   rfl
 obtain rfl:i=F.length:=by omega
 rw[List.take_length]at hWe hM hFl hWl
 have hts:=qWk (rls (Es++M)) W
 have hm2:=Nat.mul_le_mul (show W.length≤200 by omega) (show tsz (rls (Es++M)) W≤200 by omega)
 have hEl:(Es++M).length=Es.length+M.length:=List.length_append
 refine gg9 ?_
 refine uX (qSp (Es:=Es++M) (N:=T.length) (D:=W) (most:=most) hE hB oO hWo oO oO oO) O ?_
 rintro _ _⟨K,out,q2,d2,rfl,hJ,rfl⟩
 have hbj:=join_bts hWo hJ
 have hok:=hJ.ok
 have hrK:=hJ.room
 rw[List.take_length]at hrK
 rw[List.append_assoc]at hbj hok ⊢
 simp only[uV,uW]
 refine gg7 ?_
 exact uZ O (.tmp O (.tmp O .nil)) ⟨M++K,out,q2,d2,O,by rw[List.length_append];omega,hok,hbj.trans hWe,rfl⟩
end
section
variable {E:Env}{Es:List Ent}{pp tb s most:Nat}
theorem tK (hE:Seat E)(hB:Base E.w0){a b c:Tx}(ha:OkT E.w0 a)(hb:OkT E.w0 b)(hc:OkT E.w0 c):Ct E 7 [.slice a.a a.bs.length a.c,.slice b.a b.bs.length b.c,.slice c.a c.bs.length c.c] [] (fun v Q=>v= .bool true∧Q=[]):=by
 have hal:=ha.2.1
 have hbl:=hb.2.1
 have hcl:=hc.2.1
 refine bO (hE.fn Tryz.func7) O O O (fun R=>?_)
 simp only[dR,uV,uW]
 refine gg12 ?_
 refine dS 24 O (fun h1=>?_) (fun h1=>?_)
 ·refine gg19 ?_
  exact uZ O (.tmp O .nil) ⟨O,O⟩
 refine gg8 ?_
 refine dS 29 O (fun h2=>?_) (fun h2=>?_)
 ·refine gg14 ?_
  exact uZ O (.tmp O .nil) ⟨O,O⟩
 refine gg9 ?_
 refine bE O (fun h3=>?_) (fun h3=>?_)
 ·refine gg7 ?_
  exact uZ O (.tmp O .nil) ⟨O,O⟩
 refine gg6 ?_
 refine uX (qNn hE hB ha hb oO oO) O ?_
 rintro _ _⟨pp,s,tb,M0,x,y,rfl,hM0,hx0,hy0,rfl⟩
 simp only[uV,uW]
 refine gg24 ?_
 refine uU ?_
 refine lY (hE.t O) (fun b46=>?_)
 refine gg1 ?_
 refine tX qTo ?_
 have hb1:(0+(byC c.bs).length)*1≤140737488355328:=by
  rw[jV]
  omega
 have hb2:0+(byC c.bs).length≤maxLen:=by
  rw[jV]
  unfold maxLen
  omega
 refine uU ?_
 refine qK (us:=byC c.bs) (q:=old) (hE.t O) (hE.t O) O O O (jV _).symm (qVg hc) uK uK (qAg _) hb1 hb2 (fun pt ct m1 x1 hm1 hx1=>?_)
 obtain rfl:m1=c.bs.length:=by rw[hm1,jV,Nat.zero_add]
 obtain rfl:x1=byC c.bs:=hx1
 refine pE (p:=sl pt ct 5 1 c.bs.length (byC c.bs)) uK (fun _ h=>fun hpos=>fA h hpos) (fun hpt=>?_)
 have hqs:Rdb E.w0 pt (byC c.bs) (sl pt ct 5 1 c.bs.length (byC c.bs)):=qVf (jV _) hpt
 refine uX (qNg (Es:=M0) (s:=s) (most:=1048576) (tb:=tb) (pp:=pp) (a:=pt) (c:=ct) (q:=sl pt ct 5 1 c.bs.length (byC c.bs)) (bs:=c.bs) hE hB (fun hne=>hqs (qSc hne)) oO oO) O ?_
 rintro _ _⟨M1,z,rfl,hM1,tz1,gz,sz,rfl⟩
 have hz:Sn (rls (M0++M1)) c.bs z:=⟨sz,tz1,gz⟩
 have hx:=hx0.up (M:=M1)
 have hy:=hy0.up (M:=M1)
 obtain⟨Es,hEs⟩:∃Es,Es=M0++M1:=⟨_,rfl⟩
 have hEl:Es.length≤1200:=by rw[hEs,List.length_append];omega
 rw[←hEs]at hx hy hz ⊢
 clear hqs hpt
 simp only[uV,uW]
 refine pE (p:=bR s 1048576 Es) uK (fun _ h=>dO h) (fun hsay=>?_)
 have hw:=hsay.1
 refine gg12 ?_
 refine uX (qFj (Es:=Es) (most:=1048576) hE hB hx hy oO oO oO oO) O ?_
 rintro _ _⟨N1,o1,q1,d1,rfl,hJ1,rfl⟩
 obtain⟨D1,hD1⟩:∃D,D=pcs (rls Es) (gW (rls Es) x) y:=⟨_,rfl⟩
 rw[←hD1]at hJ1
 obtain⟨a1,a2,a3,a4,a5,a6⟩:=qLz hw hx hy hD1 hJ1
 have hm1:=Nat.mul_le_mul (show D1.length≤200 by omega) (show tsz (rls Es) D1≤200 by omega)
 have hE1:(Es++N1).length=Es.length+N1.length:=List.length_append
 have hok1:=hJ1.ok
 simp only[uV,uW]
 refine pE (p:=bR s 1048576 (Es++N1)) uK (fun _ h=>dO h) (fun hsay1=>?_)
 have hw1:=hsay1.1
 refine gg12 ?_
 refine uX (qFj (Es:=Es++N1) (most:=1048576) hE hB (hy.up (M:=N1)) (hz.up (M:=N1)) oO oO oO oO) O ?_
 rintro _ _⟨N2,o2,q2,d2,rfl,hJ2,rfl⟩
 obtain⟨D2,hD2⟩:∃D,D=pcs (rls (Es++N1)) (gW (rls (Es++N1)) y) z:=⟨_,rfl⟩
 rw[←hD2]at hJ2
 obtain⟨b1,b2,b3,b4,b5,b6⟩:=qLz hw1 (hy.up (M:=N1)) (hz.up (M:=N1)) hD2 hJ2
 have hm2:=Nat.mul_le_mul (show D2.length≤200 by omega) (show tsz (rls (Es++N1)) D2≤200 by omega)
 have hE2:(Es++N1++N2).length=(Es++N1).length+N2.length:=List.length_append
 have hok2:=hJ2.ok
 have k1:=(Px.ok.exts (rls N2) hok1).1
 have k2:=qLa (rls N2) (T:=a.bs) hok1
 have k3:=qKz (rls N2) hok1
 rw[←dA]at k1 k2 k3
 rw[a2]at k3
 rw[←k3]at hok2
 simp only[uV,uW]
 refine gg35 ?_
 refine uX (qPn (Es:=Es++N1++N2) (most:=1048576) (T:=a.bs) (D:=o1) (F:=o2) hE hB ((hx.up (M:=N1)).up (M:=N2)) oO k1 oO hok2 oO oO) O ?_
 rintro _ _⟨N3,out,q3,d3,rfl,hN3,hok3,he3,rfl⟩
 rw[k2,a1,b1]at he3
 have hE3:(Es++N1++N2++N3).length=(Es++N1++N2).length+N3.length:=List.length_append
 have hl3:=qR hok3
 rw[he3]at hl3
 simp only[uV,uW]
 refine pE (p:=bR s 1048576 (Es++N1++N2++N3)) uK (fun _ h=>dO h) (fun hsay3=>?_)
 have hol:=pI hsay3.1 hok3
 have hrm:=qGo hok3
 have hct:=qAl (rls (Es++N1++N2++N3)) out
 have hm3:=Nat.mul_le_mul (show a.bs.length+1≤201 by omega) (show csz out≤200 by omega)
 refine gg22 ?_
 refine uX (qAm (Es:=Es++N1++N2++N3) (most:=1048576) (T:=a.bs) (D:=out) hE hB (((hx.up (M:=N1)).up (M:=N2)).up (M:=N3)) oO hok3 oO oO oO) O ?_
 rintro _ _⟨K,id,rfl,hK,hs,rfl⟩
 rw[he3]at hs
 simp only[uV,uW]
 refine pE (p:=bR s 1048576 (Es++N1++N2++N3++K)) uK (fun _ h=>dO h) (fun hsay4=>?_)
 obtain rfl:=hs.fn hsay4.1 ((((hz.up (M:=N1)).up (M:=N2)).up (M:=N3)).up (M:=K))
 refine gg23 ?_
 exact uZ O (.tmp O .nil) ⟨congrArg Value.bool (decide_eq_true O),O⟩
end
end Go.Proofs.YtblljbllmnbiaaaGreatDoor
