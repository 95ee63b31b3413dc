import Derived.Test.YtlmpojkmeglepaaGreatDoorQ34
set_option linter.all false
set_option maxHeartbeats 1000000
namespace Go.Proofs.YtlmpojkmeglepaaGreatDoor
open Go Go.RowKit Sl Eg
set_option maxRecDepth 10000
section
theorem wH {L:List Rl}(M:List Rl)(hw:Wf L)(hw2:Wf (L++M)){l:Nat}:∀x,x≤L.length→expd (L++M) l x=expd L l x:=by
 intro x
 induction x using Nat.strongRecOn with
 |_ x ih=>
  intro hx
  rcases Nat.eq_zero_or_pos x with rfl|h1
  ·rfl
  obtain⟨i,rfl⟩:∃i,x=i+1:=⟨x-1,oO⟩
  have el:=jX M hx
  by_cases h:lvl L (i+1)≤(l:Nat)
  ·rw[dZ h1 h,dZ h1 (by rw[el];exact h)]
  have hr:L[i]?=some (L[i]'oO):=List.getElem?_eq_getElem oO
  generalize L[i]'oO=r at hr
  have hk:=hw.ok i r hr
  have hr2:=vH M hr
  cases r with
  |letter b=>have:=(fT hr).2;omega
  |pair a b=>
   obtain⟨g1,g2,g3,g4⟩:=hk
   rw[fK hw hr oO,fK hw2 hr2 oO,ih a oO oO,ih b oO oO]
  |power y k=>
   obtain⟨g1,g2,g3⟩:=hk
   rw[fO hw hr oO,fO hw2 hr2 oO,ih y oO oO]
theorem qRt {L:List Rl}(M:List Rl)(hw:Wf L)(hw2:Wf (L++M)){l:Nat}{ids:List Nat}(h:∀x∈ids,x≤L.length):fF (L++M) l ids=fF L l ids:=by
 induction ids with
 |nil=>rfl
 |cons x ids ih=>
  have e:∀K,fF K l (x::ids)=expd K l x++fF K l ids:=fun K=>by simp[fF]
  rw[e,e,ih fun y hy=>h y (by simp[hy]),wH M hw hw2 x (h x (by simp))]
theorem restR_le {L:List Rl}(hw:Wf L){bh:Bool}{x hv:Nat}{r:Rl}(h1:1≤x)(hr:L[x-1]?=some r):∀y∈rA bh hv r,y≤L.length:=by
 intro y hy
 have hx:=(List.getElem?_eq_some_iff.1 hr).1
 have hk:=hw.ok _ r hr
 cases r with
 |letter b=>simp[rA]at hy
 |pair a b=>
  obtain⟨g1,g2,g3,g4⟩:=hk
  simp only[rA]at hy
  split at hy
  ·have:=List.mem_singleton.1 hy
   split at this<;>omega
  simp at hy
 |power z k=>
  obtain⟨g1,g2,g3⟩:=hk
  have:=(List.mem_replicate.1 hy).2
  omega
theorem qTf {L:List Rl}(M:List Rl)(hw:Wf L)(hw2:Wf (L++M)){bh:Bool}{l root x:Nat}{fs:List Fm}(h:Lk L bh root x fs):mZ (L++M) bh l fs=mZ L bh l fs:=by
 induction h with
 |nil=>rfl
 | @snoc x hv fs r h1 h2 h3 h4 h5 h6 ih=>
  rw[iO,iO,ih,iU h3,iU (vH M h3),qRt M hw hw2 (restR_le hw h2 h3)]
theorem Lk.ext {L:List Rl}(M:List Rl){bh:Bool}{root x:Nat}{fs:List Fm}(h:Lk L bh root x fs):Lk (L++M) bh root x fs:=by
 induction h with
 |nil=>exact .nil
 |snoc h1 h2 h3 h4 h5 h6 ih=>exact .snoc ih h2 (vH M h3) h4 h5 h6
theorem Sig.ext {L:List Rl}(M:List Rl)(hw:Wf L)(hw2:Wf (L++M)){x:Nat}(h:Sig L x):Sig (L++M) x:=by
 refine⟨h.pos,by have:=h.le;rw[List.length_append];omega,by rw[jX M h.le];exact h.lv,fun k hk=>?_,fun k hk=>?_⟩
 ·rw[wH M hw hw2 x h.le];exact(h.inv k hk).ext M hw2
 rw[wH M hw hw2 x h.le,wH M hw hw2 x h.le]
 exact(h.step k hk).ext M fun y hy=>((h.inv k hk).ok y hy).2.1
theorem EO.ext {L:List Rl}(M:List Rl)(hw:Wf L){bh:Bool}{l root x:Nat}{fs:List Fm}(hs:Sig L root)(h:EO L bh l root x fs):EO (L++M) bh l root x fs:=by
 obtain⟨i1,i2⟩:=h.ids hw hs
 refine⟨?_,fun f hf=>by rw[jX M (i2 f hf).2];exact h.hi f hf⟩
 rcases h.lk with h0|⟨h1,h2,h3⟩
 ·exact .inl h0
 exact .inr ⟨h1,h2.ext M,by rw[jX M i1];exact h3⟩
theorem EO.seq_ext {L:List Rl}(M:List Rl)(hw:Wf L)(hw2:Wf (L++M)){bh:Bool}{l root x:Nat}{fs:List Fm}(hs:Sig L root)(h:EO L bh l root x fs):seqE (L++M) bh l x fs=seqE L bh l x fs:=by
 obtain⟨i1,i2⟩:=h.ids hw hs
 rcases h.lk with⟨rfl,rfl⟩|⟨h1,h2,h3⟩
 ·rw[kC,kC]
 unfold seqE
 rw[wH M hw hw2 x i1,qTf M hw hw2 h2]
theorem upF_ext {L:List Rl}(M:List Rl){lv x:Nat}{fs:List Fm}(h:∀f∈fs,1≤f.id∧f.id≤L.length):upF (L++M) lv x fs=upF L lv x fs:=by
 rcases List.eq_nil_or_concat fs with rfl|⟨gs,f,rfl⟩
 ·rfl
 rw[List.concat_eq_append]at*
 have hf:=h f (by simp)
 rw[kT,kT,jX M hf.2,qFt M hf.1 hf.2]
theorem BB.ext {L:List Rl}(M:List Rl){lv:Nat}{fs:List Fm}(hi:∀f∈fs,1≤f.id∧f.id≤L.length) (h:BB L lv fs):BB (L++M) lv fs:=fun f hf hl=>by
 have:=hi f hf
 rw[qFt M this.1 this.2]
 rw[jX M this.2]at hl
 exact h f hf hl
theorem RL.ext {L:List Rl}(M:List Rl)(hw:Wf L)(hw2:Wf (L++M)){l root x:Nat}{fs:List Fm}{Z:List Nat}(hs:Sig L root)(h:RL L l root x fs Z)(hz:∀y∈Z,y≤L.length):RL (L++M) l root x fs Z:=by
 obtain⟨i1,i2⟩:=h.eo.ids hw hs
 refine⟨h.eo.ext M hw hs,h.bb.ext M i2,?_⟩
 rw[h.eo.seq_ext M hw hw2 hs,upF_ext M i2,(h.eo.up hw hs h.bb).1.seq_ext M hw hw2 hs]
 intro u v e1 e2
 have hu:u≤L.length:=(h.eo.mem hw hs u (List.mem_of_getLast? e1)).2.1
 have hv:v≤L.length:=hz v (List.mem_of_head? e2)
 have:=h.bd u v e1 e2
 rw[fQ M hu,fQ M hv]
 exact this
theorem RR.ext {L:List Rl}(N:List Rl)(hw:Wf L)(hw2:Wf (L++N)){l root x:Nat}{fs:List Fm}{M:List Nat}(hs:Sig L root)(h:RR L l root x fs M)(hz:∀y∈M,y≤L.length):RR (L++N) l root x fs M:=by
 obtain⟨i1,i2⟩:=h.eo.ids hw hs
 refine⟨h.eo.ext N hw hs,h.bb.ext N i2,?_⟩
 rw[h.eo.seq_ext N hw hw2 hs]
 intro u v e1 e2
 have hu:u≤L.length:=hz u (List.mem_of_getLast? e1)
 have hv:v≤L.length:=(h.eo.mem hw hs v (List.mem_of_head? e2)).2.1
 have:=h.bd u v e1 e2
 rw[fQ N hu,fQ N hv]
 exact this
theorem Sq.le {L:List Rl}{lv:Nat}{ids o:List Nat}(h:Sq L lv ids o):o.length≤ids.length:=by
 unfold Sq at h
 split at h
 ·induction h with
  |nil=>simp
  |run h1 _ _ _ ih=>simp;omega
 induction h with
 |nil=>simp
 |one _ _ ih=>simp;omega
 |two _ _ _ ih=>simp;omega
theorem Sq.none {L:List Rl}{lv:Nat}{ids:List Nat}(h:Sq L lv ids []):ids=[]:=by
 unfold Sq at h
 cases ids with
 |nil=>rfl
 |cons x r=>
  split at h
  ·exact absurd O h.nonempty
  exact absurd O h.nonempty
theorem Sq.text {L:List Rl}(hw:Wf L){lv:Nat}{ids o:List Nat}(h:Sq L lv ids o):rowT L o=rowT L ids:=by
 unfold Sq at h
 split at h
 ·obtain⟨rs,rfl,_,_,h4⟩:=h.rns
  exact h4.text hw
 obtain⟨a,o',h1,rfl⟩:=h.prs
 exact h1.text hw
theorem qDd {its:List It}(hs:Sng its)(h:dS its=[]):its=[]:=by
 cases its with
 |nil=>rfl
 |cons it its=>
  have:=qHv (its:=it::its) (it:=it) (by simp) (hs it (by simp)).2
  rw[h]at this
  simp at this
theorem Grw.pot {its its':List It}(h:Grw its its'):Go.Proofs.YtlmpojkmeglepaaGreatDoor.pot its'≤Go.Proofs.YtlmpojkmeglepaaGreatDoor.pot its+4:=by
 obtain⟨a,b,rfl,h1,h2⟩:=h
 have h3:=qSb a
 have h4:=qSb b
 rw[lX,lX]
 have e1:Go.Proofs.YtlmpojkmeglepaaGreatDoor.pot a=a.length+hvy a:=rfl
 have e2:Go.Proofs.YtlmpojkmeglepaaGreatDoor.pot b=b.length+hvy b:=rfl
 omega
theorem qUd {L:List Rl}{its:List It}{X Y:List Nat}{lv:Nat}(hi:Inv L lv (X++(dS its++Y)))(hev:lv%2=0)(hit:ItT L its)(hd:Dk L):∀it∈its,it.next=0∧it.times=1:=fun it hm=>by
 obtain⟨h1,h2,h3⟩:=hit it hm
 by_cases hn:it.next=0
 ·exact⟨hn,h2 hn⟩
 exfalso
 obtain⟨m,hm2⟩:∃m,it.times=m+1:=⟨it.times-1,oO⟩
 obtain⟨a,b,rfl⟩:=List.append_of_mem hm
 have e:itF it=it.id::it.next::(List.replicate m [it.id,it.next]).flatten:=by
  unfold itF
  rw[if_neg hn,hm2,List.replicate_succ,List.flatten_cons]
  rfl
 have er:X++(dS (a++it::b)++Y)=(X++dS a)++(it.id::it.next::((List.replicate m [it.id,it.next]).flatten++(dS b++Y))):=by
  rw[fM,iK,e];simp
 rw[er]at hi
 have o1:=hi.ok it.id (by simp)
 have o2:=hi.ok it.next (by simp)
 have eq:it.next=it.id:=hd _ _ o2.1 o2.2.1 o1.1 o1.2.1 (h3 hn)
 rw[eq]at hi
 have:=(hi.same (X++dS a).length it.id (by rw[List.getElem?_append_right (Nat.le_refl _),Nat.sub_self];rfl) (by rw[List.getElem?_append_right oO,Nat.add_sub_cancel_left];rfl)).1
 omega
theorem qDl {its:List It}(h:∀it∈its,it.next=0∧it.times=1):(dS its).length=its.length:=by
 induction its with
 |nil=>rfl
 |cons x l ih=>
  have hx:=h x (by simp)
  rw[iK,lG hx.1,hx.2,List.length_append,ih fun y hy=>h y (by simp[hy])]
  simp
  omega
theorem Rch.down {L:List Rl}(hw:Wf L){bs:List UInt8}{lv:Nat}{out:List Nat}(h:Rch L bs (lv+1) out)(h1:1≤lv):2≤(fF L (lv-1) out).length:=by
 generalize e:lv+1=k at h
 cases h with
 |start _=>omega
 |odd h' g1 g2 g3=>
  obtain rfl:=Nat.succ.inj e
  have hs:Stp L lv _ out:= .inl ⟨g1,g3⟩
  rw[hs.down (h'.rows hw).1 h1]
  exact g2
 |even h' g1 g2 g3 g4=>
  obtain rfl:=Nat.succ.inj e
  have hs:Stp L lv _ _:= .inr ⟨g1,_,_,g4,O⟩
  rw[hs.down (h'.rows hw).1 h1]
  exact g2
def rowS (L:List Rl)(l:Nat)(A B:Sd)(M:Md):List Nat:=seqE L false l A.x A.fs++(dS M.its++seqE L true l B.x B.fs)
structure SpI (L:List Rl)(bs:List UInt8)(l a b:Nat)(A B:Sd)(M:Md):Prop where
 sa:Sig L a
 sb:Sig L b
 ea:EO L false l a A.x A.fs
 eb:EO L true l b B.x B.fs
 ch:Rch L bs (l+1) (rowS L l A B M)
 tx:rowT L (rowS L l A B M)=bs
 sng:Sng M.its
 one:(l+1)%2=0→∀it∈M.its,it.times=1
 ne:M.its=[]→A.x≠0∧B.x≠0
def upS (L:List Rl)(lv:Nat)(A:Sd):Sd:=⟨(upF L lv A.x A.fs).1,(upF L lv A.x A.fs).2,A.p,A.c⟩
theorem up_ne {L:List Rl}{lv x:Nat}{fs:List Fm}(h:∀f∈fs,1≤f.id∧f.id≤L.length) (hx:x≠0):(upF L lv x fs).1≠0:=by
 rcases List.eq_nil_or_concat fs with rfl|⟨gs,f,rfl⟩
 ·exact hx
 rw[List.concat_eq_append]at*
 have hf:=h f (by simp)
 rw[kT]
 split
 ·show f.id≠0;omega
 exact hx
theorem shp_ne {L:List Rl}{lv:Nat}{its:List It}(h:Shp L lv its)(hf:dS its=[]):its=[]:=by
 have hp:∀it∈its,1≤it.times:=fun it hit=>by
  unfold Shp at h
  split at h
  ·exact(h it hit).2
  split at h
  ·exact(h it hit).1
  exact(h.1 it hit).2
 cases its with
 |nil=>rfl
 |cons it its=>
  have:=qHv (its:=it::its) (it:=it) (by simp) (hp it (by simp))
  rw[hf]at this
  simp at this
theorem SpI.mem {L:List Rl}(hw:Wf L){bs:List UInt8}{l a b:Nat}{A B:Sd}{M:Md}(h:SpI L bs l a b A B M):∀y∈rowS L l A B M,1≤y∧y≤L.length:=fun y hy=>by
 have:=(h.ch.rows hw).1.ok y hy
 exact⟨this.1,this.2.1⟩
theorem Rdy.same {L:List Rl}{l a b:Nat}{A B A' B':Sd}{M M':Md}(h:Rdy L l a b A B M A' B' M'):rowS L l A' B' M'=rowS L l A B M:=h.row
theorem SpI.step {L:List Rl}(N:List Rl)(hw:Wf L)(hw2:Wf (L++N)){bs:List UInt8}{l a b:Nat}{A B A' B':Sd}{M M':Md}(h:SpI L bs l a b A B M)(h2:2≤(rowS L l A B M).length)(hr:Rdy L l a b A B M A' B' M'){M2:Md}(hs:Sq (L++N) (l+1) (dS M'.its) (dS M2.its))(hsn:Sng M2.its)(h1:(l+1+1)%2=0→∀it∈M2.its,it.times=1) (hn:N.length+(dS M2.its).length≤(dS M'.its).length):
  SpI (L++N) bs (l+1) a b (upS (L++N) (l+1) A') (upS (L++N) (l+1) B') M2∧N.length+(rowS (L++N) (l+1) (upS (L++N) (l+1) A') (upS (L++N) (l+1) B') M2).length≤(rowS L l A B M).length:=by
 have hmem:=h.mem hw
 rw[←hr.same]at hmem
 have sa2:=h.sa.ext N hw hw2
 have sb2:=h.sb.ext N hw hw2
 have rl2:=hr.left.ext N hw hw2 h.sa (fun y hy=>(hmem y (by unfold rowS;rw[List.mem_append];exact .inr hy)).2)
 have rr2:=hr.right.ext N hw hw2 h.sb (fun y hy=>(hmem y (by unfold rowS;simp[hy])).2)
 have eA:=hr.left.eo.seq_ext N hw hw2 h.sa
 have eB:=hr.right.eo.seq_ext N hw hw2 h.sb
 have hst:=qLg hw2 sa2 sb2 (by rw[eB];exact rl2) rr2 hs
 have ua:=rl2.eo.up hw2 sa2 rl2.bb
 have ub:=rr2.eo.up hw2 sb2 rr2.bb
 have erow:seqE (L++N) false l A'.x A'.fs++(dS M'.its++seqE (L++N) true l B'.x B'.fs)=rowS L l A B M:=by rw[eA,eB];exact hr.row
 have hch:=h.ch.ext N
 have htx:rowT (L++N) (rowS L l A B M)=bs:=by rw[qNe N fun y hy=>(h.mem hw y hy).2];exact h.tx
 rw[←erow]at hch htx h2
 refine⟨⟨sa2,sb2,ua.1,ub.1,?_,?_,hsn,h1,fun e=>?_⟩,?_⟩
 ·exact hch.next h2 (fun y hy=>by rw[erow]at hy;have:=(h.mem hw y hy).2;rw[List.length_append];omega) hst
 ·rw[←htx];exact hst.text hw2
 ·rw[e]at hs
  obtain⟨e1,rfl,rfl⟩:=hr.ne (shp_ne hr.shp hs.none)
  obtain⟨n1,n2⟩:=h.ne e1
  exact⟨up_ne (rl2.eo.ids hw2 sa2).2 n1,up_ne (rr2.eo.ids hw2 sb2).2 n2⟩
 rw[←erow]
 have la:=ua.2.le
 have lb:=ub.2.le
 unfold rowS upS
 simp only[List.length_append]
 omega
theorem SpI.one_left {L:List Rl}(hw:Wf L){bs:List UInt8}{l a b:Nat}{A B:Sd}{M:Md}(h:SpI L bs l a b A B M)(hA:A.x=0)(hB:B.x=0){it:It}(hM:M.its=[it])(ht:it.times=1):Sg L bs it.id∧1≤it.id∧it.id≤L.length∧0≤lvl L it.id∧txt L it.id=bs∧(rowS L l A B M).length=1∧(1≤l→(l:Int)≤lvl L it.id):=by
 have e:rowS L l A B M=[it.id]:=by
  have h1:=h.ea
  have h2:=h.eb
  rw[hA]at h1
  rw[hB]at h2
  unfold rowS
  rw[hA,hB,h1.zero,h2.zero,kC,kC,hM,jG,lG (h.sng it (by rw[hM];simp)).1,ht]
  rfl
 have hc:=h.ch
 have hi:=(hc.rows hw).1
 have ht2:=h.tx
 rw[e]at hc hi ht2
 have:=hi.ok it.id (by simp)
 refine⟨.inr ⟨_,hc⟩,this.1,this.2.1,this.2.2.1,by rw[←ht2,rC],by rw[e];rfl,fun hl=>?_⟩
 apply Classical.byContradiction
 intro hn
 have hdn:=hc.down hw hl
 rw[fD,dZ this.1 oO]at hdn
 simp at hdn
theorem SpI.two_left {L:List Rl}{bs:List UInt8}{l a b:Nat}{A B:Sd}{M:Md}(h:SpI L bs l a b A B M)(hx:¬(A.x=0∧B.x=0∧∃it,M.its=[it]∧it.times=1)):2≤(rowS L l A B M).length:=by
 have la:A.x≠0→1≤(seqE L false l A.x A.fs).length:=fun hA=>by
  have:=h.ea.last hA
  cases e:seqE L false l A.x A.fs with
  |nil=>rw[e]at this;simp at this
  |cons c d=>simp
 have lb:B.x≠0→1≤(seqE L true l B.x B.fs).length:=fun hB=>by
  have:=h.eb.head hB
  cases e:seqE L true l B.x B.fs with
  |nil=>rw[e]at this;simp at this
  |cons c d=>simp
 unfold rowS
 simp only[List.length_append]
 have hm:=nN (its:=M.its) fun it hit=>(h.sng it hit).2
 by_cases hM:M.its=[]
 ·obtain⟨n1,n2⟩:=h.ne hM
  have:=la n1
  have:=lb n2
  omega
 have hm1:1≤M.its.length:=List.length_pos_iff.2 hM
 by_cases hA:A.x=0
 ·by_cases hB:B.x=0
  ·rcases Nat.lt_or_ge 1 M.its.length with h2|h2
   ·omega
   obtain⟨it,e⟩:=List.length_eq_one_iff.1 (Nat.le_antisymm h2 hm1)
   have ht:it.times≠1:=fun ht=>hx ⟨hA,hB,it,e,ht⟩
   have h1:=h.sng it (by rw[e];simp)
   rw[e,jG,lG h1.1,List.length_replicate]
   omega
  have:=lb hB;omega
 have:=la hA;omega
end
section
variable {E:Env}{Es:List Ent}{pp tb s most S:Nat}
theorem pg_sq {L:List Rl}{lv:Nat}{ids o:List Nat}(h:lv%2=0)(hp:Pg L (num lv) ids o):Sq L lv ids o:=by
 unfold Sq
 rw[if_neg oO]
 exact hp
theorem rg_sq {L:List Rl}{lv:Nat}{ids o:List Nat}(h:lv%2=1)(hp:Rg L ids o):Sq L lv ids o:=by
 unfold Sq
 rw[if_pos h]
 exact hp
theorem row_run {L:List Rl}{X A B Y:List Nat}{x t:Nat}:len L x*t≤(rowT L (X++(A++List.replicate t x++B++Y))).length:=by
 have:=qFw (L:=L) (A:=X++A) (B:=B++Y) (x:=x) (t:=t)
 rw[len]
 simpa[List.append_assoc]using this
theorem row_two {L:List Rl}{X A B Y:List Nat}{x y:Nat}:len L x+len L y≤(rowT L (X++(A++[x,y]++B++Y))).length:=by
 have:=qFx (L:=L) (ids:=X++(A++[x,y]++B++Y)) (i:=X.length+A.length) (x:=x) (y:=y) (by rw[List.getElem?_append_right oO];simp) (by rw[List.getElem?_append_right oO];simp[Nat.add_assoc,Nat.add_sub_cancel_left];exact ap_1)
 rw[len,len]
 exact this
theorem ones_sng (out:List Nat):Sng (kM out)∧∀it∈kM out,it.times=1:=by
 refine⟨fun it h=>?_,fun it h=>?_⟩
 ·obtain⟨x,_,rfl⟩:=List.mem_map.1 h;exact⟨rfl,Nat.le_refl _⟩
 obtain⟨x,_,rfl⟩:=List.mem_map.1 h;rfl
theorem ct_merge (hE:Seat E)(hB:Base E.w0){bs:List UInt8}{l a b:Nat}{A0 B0 A B:Sd}{M0 M:Md}(hI:SpI (rls Es) bs l a b A0 B0 M0)(h2:2≤(rowS (rls Es) l A0 B0 M0).length)(hr:Rdy (rls Es) l a b A0 B0 M0 A B M)(hb:bs.length≤dC)(hn:(rowS (rls Es) l A0 B0 M0).length≤1000000000)(hroom:Es.length+(rowS (rls Es) l A0 B0 M0).length≤most)(hll:l+1<1000000000000):
  Ct E 167 [uPt S,.int .i64 ((l+1:Nat):Int)] [cells pp [uPt s,uPt tb] 97,tabP tb s (rls Es),bR s most Es,cells S [uPt pp,uPt pp,.bool false,.slice A.p A.fs.length A.c,.int .i64 (A.x:Nat),.int .u64 (key (rls Es) A.x:Nat),uPt pp,.bool true,.slice B.p B.fs.length B.c,.int .i64 (B.x:Nat),.int .u64 (key (rls Es) B.x:Nat),.slice M.p M.its.length M.c] 257,sl A.p A.c 266 8 A.fs.length (dW (rls Es) A.fs),sl B.p B.c 266 8 B.fs.length (dW (rls Es) B.fs),sl M.p M.c 278 4 M.its.length (itsC (rls Es) M.its)]
   (fun v Q=>∃(N:List Ent)(A' B':Sd)(M':Md),v= .nilIface∧SpI (rls (Es++N)) bs (l+1) a b A' B' M'∧N.length+(rowS (rls (Es++N)) (l+1) A' B' M').length≤(rowS (rls Es) l A0 B0 M0).length∧(Dk (rls Es)→N.length+pot M'.its≤pot M0.its+4)∧Q=[cells pp [uPt s,uPt tb] 97,tabP tb s (rls (Es++N)),bR s most (Es++N),cells S [uPt pp,uPt pp,.bool false,.slice A'.p A'.fs.length A'.c,.int .i64 (A'.x:Nat),.int .u64 (key (rls (Es++N)) A'.x:Nat),uPt pp,.bool true,.slice B'.p B'.fs.length B'.c,.int .i64 (B'.x:Nat),.int .u64 (key (rls (Es++N)) B'.x:Nat),.slice M'.p M'.its.length M'.c] 257,sl A'.p A'.c 266 8 A'.fs.length (dW (rls (Es++N)) A'.fs),sl B'.p B'.c 266 8 B'.fs.length (dW (rls (Es++N)) B'.fs),sl M'.p M'.c 278 4 M'.its.length (itsC (rls (Es++N)) M'.its)]):=by
 refine eQ (p:=bR s most Es) uK (fun _ h=>dR h) (fun hsay=>?_)
 have hw:=hsay.1
 have hrow:=hr.same
 have hmem:=hI.mem hw
 have htx:=hI.tx
 rw[←hrow]at hmem hn hroom htx
 have hR:∀x∈dS M.its,1≤x∧x≤(rls Es).length:=fun x hx=>hmem x (by unfold rowS;simp[hx])
 have hfl:(dS M.its).length≤(rowS (rls Es) l A B M).length:=by unfold rowS;simp;omega
 have hadj:∀P x y R,dS M.its=P++[x,y]++R→len (rls Es) x+len (rls Es) y≤dC:=fun P x y R e=>by
  unfold rowS at htx
  rw[e]at htx
  have:=row_two (L:=rls Es) (X:=seqE (rls Es) false l A.x A.fs) (A:=P) (B:=R) (Y:=seqE (rls Es) true l B.x B.fs) (x:=x) (y:=y)
  rw[htx]at this
  omega
 have hrun:∀P x t R,dS M.its=P++List.replicate t x++R→len (rls Es) x*t≤dC:=fun P x t R e=>by
  unfold rowS at htx
  rw[e]at htx
  have:=row_run (L:=rls Es) (X:=seqE (rls Es) false l A.x A.fs) (A:=P) (B:=R) (Y:=seqE (rls Es) true l B.x B.fs) (x:=x) (t:=t)
  rw[htx]at this
  omega
 have hrm:Es.length+(dS M.its).length≤most:=oO
 have hfl9:(dS M.its).length≤1000000000:=oO
 have hinv:=(hI.ch.rows hw).1
 rw[←hrow]at hinv
 unfold rowS at hinv
 have hshp:=hr.shp
 unfold Shp at hshp
 refine bO (hE.fn Tryz.func167) O O O (fun R=>?_)
 simp only[dU,uV,uW]
 refine gg10 ?_
 refine nS (fun q:List Ent×Md=>[(0,uPt S),(1,.int .i64 ((l+1:Nat):Int)),(5,.nilIface)]) (fun q=>[cells pp [uPt s,uPt tb] 97,tabP tb s (rls (Es++q.1)),bR s most (Es++q.1),cells S [uPt pp,uPt pp,.bool false,.slice A.p A.fs.length A.c,.int .i64 (A.x:Nat),.int .u64 (key (rls Es) A.x:Nat),uPt pp,.bool true,.slice B.p B.fs.length B.c,.int .i64 (B.x:Nat),.int .u64 (key (rls Es) B.x:Nat),.slice q.2.p q.2.its.length q.2.c] 257,sl A.p A.c 266 8 A.fs.length (dW (rls Es) A.fs),sl B.p B.c 266 8 B.fs.length (dW (rls Es) B.fs),sl q.2.p q.2.c 278 4 q.2.its.length (itsC (rls (Es++q.1)) q.2.its),R]) (fun q=>Sq (rls (Es++q.1)) (l+1) (dS M.its) (dS q.2.its)∧Sng q.2.its∧((l+1+1)%2=0→∀it∈q.2.its,it.times=1)∧q.1.length+(dS q.2.its).length≤(dS M.its).length∧(Dk (rls Es)→q.1.length+pot q.2.its≤pot M.its)) ?_ ?_
 ·refine gg7 ?_
  refine bE O (fun h0=>?_) (fun h0=>?_)
  ·have hodd:(l+1)%2=1:=oO
   rw[if_pos hodd]at hshp
   refine gg3 ?_
   refine uX (yM hE hB (pp:=pp) (S:=S) (cs:=[uPt pp,uPt pp,.bool false,.slice A.p A.fs.length A.c,.int .i64 (A.x:Nat),.int .u64 (key (rls Es) A.x:Nat),uPt pp,.bool true,.slice B.p B.fs.length B.c,.int .i64 (B.x:Nat),.int .u64 (key (rls Es) B.x:Nat),.slice M.p M.its.length M.c]) (its:=M.its) (p:=M.p) (c:=M.c) O O hshp hfl9 hR hrun hrm) O ?_
   rintro _ _⟨N,out,p',c',rfl,hN,hN2,hrg,rfl⟩
   simp only[uV,uW]
   have hlo:(kM out).length=out.length:=by simp[kM]
   rw[←hlo]at*
   refine gg8 ?_
   obtain⟨o1,o2⟩:=ones_sng out
   refine fJ (ι:=List Ent×Md) (N,⟨kM out,p',c'⟩) ⟨rg_sq hodd (by show Rg _ _ (dS (kM out));rw[xO];exact hrg),o1,fun _=>o2,by show _+(dS (kM out)).length≤_;rw[xO];omega,fun _=>by have:=qFp o1;rw[xO]at this;show N.length+pot (kM out)≤_;omega⟩ ⟨rfl,rfl,rfl,trivial⟩ ?_
   exact uI
  have hev:(l+1)%2=0:=oO
  have hodd:¬(l+1)%2=1:=oO
  have h2l:2≤l+1:=oO
  have hlt:l+1<1099511627776:=oO
  rw[if_neg hodd]at hshp
  refine gg3 ?_
  refine uX (vY hE h2l hev hlt) O ?_
  rintro _ _⟨⟨q1,q2,d,rfl,hd⟩,rfl⟩
  simp only[uV,uW]
  refine gg14 ?_
  cases d with
  |true=>
   have hnm:=hd.1 O
   rw[if_pos hnm]at hshp
   refine gg4 ?_
   refine uX (pV hE hB (pp:=pp) (S:=S) (cs:=[uPt pp,uPt pp,.bool false,.slice A.p A.fs.length A.c,.int .i64 (A.x:Nat),.int .u64 (key (rls Es) A.x:Nat),uPt pp,.bool true,.slice B.p B.fs.length B.c,.int .i64 (B.x:Nat),.int .u64 (key (rls Es) B.x:Nat),.slice M.p M.its.length M.c]) (its:=M.its) (p:=M.p) (c:=M.c) O O hshp hfl9 hR hadj hrm) O ?_
   rintro _ _⟨N,l2,p',c',rfl,hN,hpg,hsn,rfl⟩
   simp only[uV,uW]
   refine gg8 ?_
   refine fJ (ι:=List Ent×Md) (N,⟨l2,p',c'⟩) ⟨pg_sq hev (by rw[hnm];exact hpg),hsn,(fun h=>by omega),hN,fun hd=>by have h1:=qFp hsn;have h2:=qDl (qUd hinv hev hshp hd);show N.length+pot l2≤_;unfold pot at h1 ⊢;omega⟩ ⟨rfl,rfl,rfl,trivial⟩ ?_
   exact uI
  |false=>
   have hnm:num (l+1)≠122:=fun h=>by have:=hd.2 h;cases this
   rw[if_neg hnm]at hshp
   refine gg5 ?_
   refine uX (vW hE hB (pp:=pp) (S:=S) (cs:=[uPt pp,uPt pp,.bool false,.slice A.p A.fs.length A.c,.int .i64 (A.x:Nat),.int .u64 (key (rls Es) A.x:Nat),uPt pp,.bool true,.slice B.p B.fs.length B.c,.int .i64 (B.x:Nat),.int .u64 (key (rls Es) B.x:Nat),.slice M.p M.its.length M.c]) (its:=M.its) (p:=M.p) (c:=M.c) O O hshp.1 hshp.2 hfl9 hR hadj hrm h2l hev hlt) O ?_
   rintro _ _⟨N,l2,p',c',rfl,hN,hpg,hsn,rfl⟩
   simp only[uV,uW]
   refine gg8 ?_
   refine fJ (ι:=List Ent×Md) (N,⟨l2,p',c'⟩) ⟨pg_sq hev hpg,hsn,(fun h=>by omega),hN,fun _=>by have h1:=qFp hsn;have h2:=qDl (its:=M.its) fun it hit=>⟨(hshp.1 it hit).1,hshp.2 it hit⟩;show N.length+pot l2≤_;unfold pot at h1 ⊢;omega⟩ ⟨rfl,rfl,rfl,trivial⟩ ?_
   exact uI
 rintro⟨N,M'⟩⟨q1,q2,q3,q4,q5⟩
 simp only at q1 q2 q3 q4 q5 ⊢
 refine iJ (p:=bR s most (Es++N)) uK (fun _ h=>dR h) ?_
 rintro⟨hw2, -, -, -⟩
 have eL:=dB Es N
 rw[eL]at hw2 q1
 obtain⟨i1,i2⟩:=hr.left.eo.ids hw hI.sa
 obtain⟨j1,j2⟩:=hr.right.eo.ids hw hI.sb
 have sa2:Sig (rls (Es++N)) a:=by rw[eL];exact hI.sa.ext _ hw hw2
 have sb2:Sig (rls (Es++N)) b:=by rw[eL];exact hI.sb.ext _ hw hw2
 have ea2:EO (rls (Es++N)) false l a A.x A.fs:=by rw[eL];exact hr.left.eo.ext _ hw hI.sa
 have eb2:EO (rls (Es++N)) true l b B.x B.fs:=by rw[eL];exact hr.right.eo.ext _ hw hI.sb
 have hst:=hI.step (rls N) hw hw2 h2 hr q1 q2 q3 (by rw[bQ];exact q4)
 rw[←eL,bQ]at hst
 have k1:key (rls (Es++N)) A.x=key (rls Es) A.x:=by rw[eL];exact fQ _ i1
 have k2:key (rls (Es++N)) B.x=key (rls Es) B.x:=by rw[eL];exact fQ _ j1
 have k3:dW (rls (Es++N)) A.fs=dW (rls Es) A.fs:=by rw[eL];exact qIj _ i2
 have k4:dW (rls (Es++N)) B.fs=dW (rls Es) B.fs:=by rw[eL];exact qIj _ j2
 rw[←k1,←k2,←k3,←k4]
 refine gg6 ?_
 refine uX (qJz hE hB (Es:=Es++N) (b:=S) (pre:=[uPt pp]) (suf:=[uPt pp,.bool true,.slice B.p B.fs.length B.c,.int .i64 (B.x:Nat),.int .u64 (key (rls (Es++N)) B.x:Nat),.slice M'.p M'.its.length M'.c]) (fs:=A.fs) sa2 ea2) O ?_
 rintro _ _⟨rfl,rfl⟩
 simp only[uV,uW]
 refine gg8 ?_
 refine uX (qJz hE hB (Es:=Es++N) (b:=S) (pre:=[uPt pp,uPt pp,.bool false,.slice (upS (rls (Es++N)) (l+1) A).p (upS (rls (Es++N)) (l+1) A).fs.length (upS (rls (Es++N)) (l+1) A).c,.int .i64 ((upS (rls (Es++N)) (l+1) A).x:Nat),.int .u64 (key (rls (Es++N)) (upS (rls (Es++N)) (l+1) A).x:Nat)]) (suf:=[.slice M'.p M'.its.length M'.c]) (fs:=B.fs) sb2 eb2) O ?_
 rintro _ _⟨rfl,rfl⟩
 simp only[uV,uW]
 refine gg9 ?_
 exact uZ O (.tmp O .nil) ⟨N,upS (rls (Es++N)) (l+1) A,upS (rls (Es++N)) (l+1) B,M',O,hst.1,hst.2,(fun hd=>by have h1:=q5 hd;have h2:=(hr.grow hd).pot;show N.length+pot M'.its≤_;omega),rfl⟩
end
section
variable {E:Env}{Es:List Ent}{pp tb s most:Nat}
structure Sn (L:List Rl)(bs:List UInt8)(id:Nat):Prop where
 sg:Sg L bs id
 tx:txt L id=bs
 gd:good L id
theorem Sn.ext {L:List Rl}(M:List Rl){bs:List UInt8}{id:Nat}(h:Sn L bs id):Sn (L++M) bs id:=⟨h.sg.ext M,by rw[gN M h.gd.1];exact h.tx,by have:=h.gd.1;rw[List.length_append];omega,by rw[jX M h.gd.1];exact h.gd.2⟩
theorem Sn.parts {L:List Rl}(hw:Wf L){bs:List UInt8}{id:Nat}(h:Sn L bs id)(h0:id≠0):Sig L id∧Lts L (expd L 0 id) bs∧1≤bs.length:=by
 rcases h.sg with⟨_,e⟩|⟨lv,hc⟩
 ·exact absurd e h0
 obtain⟨h1,h2⟩:=hc.sig hw
 exact⟨h1,h2,List.length_pos_iff.2 hc.nonempty⟩
theorem Sn.lv {L:List Rl}(hw:Wf L){bs:List UInt8}{id:Nat}(h:Sn L bs id)(hb:bs.length≤dC):lvl L id≤25544:=by
 by_cases h0:id=0
 ·subst h0
  show(0:Int)≤25544
  omega
 obtain⟨h1,h2,_⟩:=h.parts hw h0
 exact h1.lv_le hw h2 hb
end
section
variable {E:Env}{Es:List Ent}{pp tb s most:Nat}
theorem ct_ladd (hE:Seat E){a b:Nat}(h:a+b≤dC):Ct E 77 [.int .i64 (a:Nat),.int .i64 (b:Nat)] [] (fun v Q=>v= .tuple #[.int .i64 ((a+b:Nat):Int),.nilIface]∧Q=[]):=by
 apply xM
 intro w
 rw[hE.P]
 exact xR a b w h
end
end Go.Proofs.YtlmpojkmeglepaaGreatDoor
