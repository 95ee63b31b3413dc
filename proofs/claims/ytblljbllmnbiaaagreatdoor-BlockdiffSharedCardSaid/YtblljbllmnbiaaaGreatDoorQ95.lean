import Derived.Test.YtblljbllmnbiaaaGreatDoorQ94
set_option linter.all false
set_option maxHeartbeats 1000000
namespace Go.Proofs.YtblljbllmnbiaaaGreatDoor
set_option maxRecDepth 10000
section
open Go Go.RowKit Sl Eg
variable {E:Env}{Es:List Ent}{pp tb s most:Nat}
theorem ct_imp {f:FuncId}{args:List Value}{Pre:List HP}{Φ Φ':Value→List HP→Prop}(h:Ct E f args Pre Φ)(hi:∀v Q,Φ v Q→∃Q',Φ' v Q'∧∀(R:HP)k,dP (Q++[R]) k→dP (Q'++[R]) k):Ct E f args Pre Φ':=fun R w s=>
 (h R w s).mono fun e w'⟨v,Qs,h1,h2,h3⟩=>let⟨Q',a,b⟩:=hi v Qs h2;⟨v,Q',h1,a,h3.imp (b R)⟩
theorem qGv (hE:Seat E){id g:Nat}(h2:id≤Es.length)(hn:Es.length<65536):
  Ct E 41 [uPt s,.slice (some ⟨g,0,none⟩) 1 1] [bR s most Es,cells g [.int .i64 (id:Nat)] 24]
   (fun v Q=>∃p c V,v= .tuple #[.slice p V.length c,.nilIface]∧V.Pairwise (· < ·)∧(∀x,x∈V↔Rea (rls Es) id x)∧Q=[bR s most Es,sl p c 24 1 V.length (idC V)]):=by
 rcases Nat.eq_zero_or_pos id with rfl|h1
 ·refine ct_imp (qGu hE hn) ?_
  rintro _ _⟨rfl,rfl⟩
  refine⟨_,⟨none,0,[],O,List.Pairwise.nil,fun x=>⟨fun h=>?_,fun h=>?_⟩,O⟩,fun R k h=>dY (fun k h=>gZ k h) h⟩
  ·cases h
  cases h
 refine ct_imp (qLx hE h1 h2 hn) ?_
 rintro _ _⟨p,c,V,rfl,hd,hp,hv,rfl⟩
 refine⟨_,⟨some ⟨p,0,none⟩,c,V,O,?_,hv,O⟩,fun R k h=>h⟩
 exact List.Pairwise.imp₂ (fun a b h1 h2=>Nat.lt_of_le_of_ne h1 h2) hp hd
theorem ct_nanC (hE:Seat E){x:Nat}:Ct E 109 [.int .i64 (x:Nat)] [] (fun v Q=>v= .bool false∧Q=[]):=by
 refine bO (hE.fn Tryz.func109) O O O (fun R=>?_)
 simp only[dR,uV,uW]
 refine gg14 ?_
 exact uZ O (.tmp O .nil) ⟨congrArg Value.bool (by simp),O⟩
theorem ct_nanS (hE:Seat E){x:Nat}:Ct E 77 [.int .i64 (x:Nat)] [] (fun v Q=>v= .bool false∧Q=[]):=by
 refine bO (hE.fn Tryz.func77) O O O (fun R=>?_)
 simp only[dR,uV,uW]
 refine gg14 ?_
 exact uZ O (.tmp O .nil) ⟨congrArg Value.bool (by simp),O⟩
theorem ct_lessI (hE:Seat E){a b:Nat}:Ct E 76 [.int .i64 (a:Nat),.int .i64 (b:Nat)] [] (fun v Q=>v= .bool (decide (a<b))∧Q=[]):=by
 refine bO (hE.fn Tryz.func76) O O O (fun R=>?_)
 simp only[dR,uV,uW]
 refine gg8 ?_
 refine uX (ct_nanC hE) O ?_
 rintro _ _⟨rfl,rfl⟩
 simp only[uV,uW]
 refine gg17 ?_
 exact uZ O (.tmp O .nil) ⟨congrArg Value.bool (decide_eq_decide.2 oO),O⟩
theorem bin_mem {V:List Nat}(hV:V.Pairwise (· < ·)){x m:Nat}(h0:∀k u,V[k]?=some u→k<m→u<x) (h1:∀k u,V[k]?=some u→m≤k→x≤u):x∈V↔V[m]?=some x:=by
 constructor
 ·intro h
  obtain⟨k,hk⟩:=List.getElem?_of_mem h
  rcases Nat.lt_or_ge k m with h2|h2
  ·have:=h0 k x hk h2;omega
  rcases Nat.eq_or_lt_of_le h2 with rfl|h3
  ·exact hk
  have hkl:=(List.getElem?_eq_some_iff.1 hk).1
  have e:=List.getElem?_eq_getElem (l:=V) (i:=m) oO
  have e1:=h1 m _ e (Nat.le_refl _)
  have e2:=List.pairwise_iff_getElem.1 hV m k oO hkl h3
  have e3:=(List.getElem?_eq_some_iff.1 hk).2
  omega
 intro h;exact List.mem_of_getElem? h
theorem ct_BinS (hE:Seat E){V:List Nat}(hV:V.Pairwise (· < ·))(hn:V.length<65536){p:Option Addr}{c x:Nat}:Ct E 42 [.slice p V.length c,.int .i64 (x:Nat)] [sl p c 24 1 V.length (idC V)]
  (fun v Q=>∃m:Nat,v= .tuple #[.int .i64 (m:Nat),.bool (decide (x∈V))]∧Q=[sl p c 24 1 V.length (idC V)]):=by
 refine bO (hE.fn Tryz.func42) O O O (fun R=>?_)
 simp only[dR,uV,uW]
 refine gg22 ?_
 refine dV (fun y:Nat×Nat=>[(0,.slice p V.length c),(1,.int .i64 (x:Nat)),(6,.int .i64 (V.length:Nat)),(7,.int .i64 (y.1:Nat)),(8,.int .i64 (y.2:Nat))]) (fun y=>[sl p c 24 1 V.length (idC V),R]) (fun y=>y.2-y.1) (fun y=>y.1≤y.2∧y.2≤V.length∧(∀k u,V[k]?=some u→k<y.1→u<x)∧∀k u,V[k]?=some u→y.2≤k→x≤u) (0,V.length) ⟨Nat.zero_le _,Nat.le_refl _,fun k u h1 h2=>by simp only at h2;omega,fun k u h1 h2=>by have:=(List.getElem?_eq_some_iff.1 h1).1;simp only at h2;omega⟩ ⟨rfl,rfl,rfl,rfl,rfl,trivial⟩ uI ?_
 rintro⟨i,j⟩⟨hi,hj,h0,h1⟩
 simp only at hi hj h0 h1 ⊢
 refine gg8 ?_
 refine bE O (fun h2=>?_) (fun h2=>?_)
 ·refine jU (p:=sl p c 24 1 V.length (idC V)) uK (fun _ h=>fB h oO) ?_
  rintro⟨g,rfl⟩
  refine gg8 ?_
  refine l_eq 18 (.int .i64 ((i+j:Nat):Int)) O (bW oO) ?_
  refine uB (dH O (hE.t O) (hE.t O) (wrU _ oO)) ?_
  refine uB (y_shr1 O O) ?_
  refine uB (dH O (hE.t O) (hE.t O) (dI oO oO)) ?_
  obtain⟨h,eh⟩:∃h:Nat,h=(i+j)/2:=⟨_,rfl⟩
  rw[←eh]
  obtain⟨u,hu⟩:∃u,V[h]?=some u:=⟨_,List.getElem?_eq_getElem oO⟩
  have f0:=jL hu (((h:Nat):Int).toNat) oO
  refine gg10 ?_
  refine uX (ct_lessI hE) O ?_
  rintro _ _⟨rfl,rfl⟩
  simp only[uV,uW]
  refine gg2 ?_
  refine bE O (fun h3=>?_) (fun h3=>?_)
  ·refine gg6 ?_
   refine bS (ι:=Nat×Nat) (j:=(h+1,j)) ⟨by show h+1≤j;omega,hj,fun k v h4 h5=>?_,h1⟩ (by show j-(h+1)<j-i;omega) ⟨rfl,rfl,rfl,congrArg some (bW oO),rfl,trivial⟩ uI
   rcases Nat.eq_or_lt_of_le (show k≤h by simp only at h5;omega)with rfl|h6
   ·rw[hu]at h4;cases h4;exact h3
   have e3:=List.pairwise_iff_getElem.1 hV k h (List.getElem?_eq_some_iff.1 h4).1 oO h6
   have e4:=(List.getElem?_eq_some_iff.1 h4).2
   have e5:=(List.getElem?_eq_some_iff.1 hu).2
   omega
  refine gg5 ?_
  refine bS (ι:=Nat×Nat) (j:=(i,h)) ⟨by show i≤h;omega,by show h≤V.length;omega,h0,fun k v h4 h5=>?_⟩ (by show h-i<j-i;omega) ⟨rfl,rfl,rfl,rfl,rfl,trivial⟩ uI
  rcases Nat.eq_or_lt_of_le (show h≤k by exact h5)with rfl|h6
  ·rw[hu]at h4;cases h4;omega
  have e3:=List.pairwise_iff_getElem.1 hV h k oO (List.getElem?_eq_some_iff.1 h4).1 h6
  have e4:=(List.getElem?_eq_some_iff.1 h4).2
  have e5:=(List.getElem?_eq_some_iff.1 hu).2
  omega
 obtain rfl:i=j:=by omega
 have hm:=bin_mem hV h0 h1
 refine gg12 ?_
 refine dS 35 O (fun h5=>?_) (fun h5=>?_)
 ·refine xH (p:=sl p c 24 1 V.length (idC V)) uK (fun _ h=>fB h oO) ?_
  rintro⟨g,rfl⟩
  obtain⟨u,hu⟩:∃u,V[i]?=some u:=⟨_,List.getElem?_eq_getElem oO⟩
  have f0:=jL hu (((i:Nat):Int).toNat) oO
  rw[hu,Option.some_inj]at hm
  refine gg14 ?_
  refine dS 42 O (fun h6=>?_) (fun h6=>?_)
  ·refine gg17 ?_
   exact uZ O (.tmp O (.tmp O .nil)) ⟨i,congrArg (fun b=>Value.tuple #[.int .i64 (i:Nat),.bool b]) (decide_eq_true (hm.2 oO)).symm,O⟩
  skip
  refine gg9 ?_
  refine uX (ct_nanS hE) O ?_
  rintro _ _⟨rfl,rfl⟩
  simp only[uV,uW]
  refine gg14 ?_
  exact uZ O (.tmp O (.tmp O .nil)) ⟨i,congrArg (fun b=>Value.tuple #[.int .i64 (i:Nat),.bool b]) (decide_eq_false (fun h=>h6 (by have:=hm.1 h;omega))).symm,O⟩
 skip
 rw[List.getElem?_eq_none oO]at hm
 refine gg23 ?_
 exact uZ O (.tmp O (.tmp O .nil)) ⟨i,congrArg (fun b=>Value.tuple #[.int .i64 (i:Nat),.bool b]) (decide_eq_false (fun h=>by have:=hm.1 h;cases this)).symm,rfl⟩
structure ShG where
 i:Nat
 out:List Nat
 q:Option Addr
 d:Nat
theorem qQh {V W:List Nat}{i x:Nat}(hx:V[i]?=some x):(V.take (i+1)).filter (fun x=>decide (x∈W))=(V.take i).filter (fun x=>decide (x∈W))++if x∈W then[x]else[]:=by
 rw[List.take_succ,hx,List.filter_append]
 congr 1
 by_cases h:x∈W<;>simp[h]
theorem qQo (hE:Seat E){a b:Nat}(ha:a≤Es.length)(hb:b≤Es.length)(hn:Es.length<65536):
  Ct E 16 [uPt pp,.int .i64 (a:Nat),.int .i64 (b:Nat)] [cells pp [uPt s,uPt tb] 86,tabP tb s (rls Es),bR s most Es]
   (fun v Q=>∃q d X,v= .tuple #[.slice q X.length d,.nilIface]∧X.Pairwise (· < ·)∧(∀x,x∈X↔Rea (rls Es) a x∧Rea (rls Es) b x)∧Q=[cells pp [uPt s,uPt tb] 86,tabP tb s (rls Es),bR s most Es,sl q d 24 1 X.length (idC X)]):=by
 refine fF (p:=bR s most Es) uK (fun _ h=>dQ h) (fun hsay=>?_)
 have hw:=hsay.1
 have hLl:=bQ Es
 refine bO (hE.fn Tryz.func16) O O O (fun R=>?_)
 simp only[dR,uV,uW]
 refine gg11 ?_
 refine uU ?_
 refine aU (hE.t O) (hE.t O) O O O (fun b21=>?_)
 refine uX (qCg (Es:=Es) (most:=most) (tb:=tb) (x:=a) (y:=b) hE ha hb oO) O ?_
 rintro _ _⟨rfl,rfl⟩
 simp only[uV,uW]
 refine gg21 ?_
 refine uU ?_
 refine aU (hE.t O) (hE.t O) O O O (fun b31=>?_)
 refine uX (qGv hE ha hn) O ?_
 rintro _ _⟨p,c,V,rfl,hV,hVm,rfl⟩
 simp only[uV,uW]
 refine gg21 ?_
 refine uU ?_
 refine aU (hE.t O) (hE.t O) O O O (fun b41=>?_)
 refine uX (qGv hE hb hn) O ?_
 rintro _ _⟨p2,c2,W,rfl,hW,hWm,rfl⟩
 simp only[uV,uW]
 refine gg31 ?_
 have hVl:V.length≤Es.length:=by
  have:=nG (A:=V) (B:=(List.range Es.length).map (· +1)) (hV.imp fun h=>Nat.ne_of_lt h) (fun x hx=>List.mem_map.2 ⟨x-1,List.mem_range.2 (by have:=((hVm x).1 hx).pos;omega),by have:=((hVm x).1 hx).pos;omega⟩)
  simpa using this
 have hWl:W.length≤Es.length:=by
  have:=nG (A:=W) (B:=(List.range Es.length).map (· +1)) (hW.imp fun h=>Nat.ne_of_lt h) (fun x hx=>List.mem_map.2 ⟨x-1,List.mem_range.2 (by have:=((hWm x).1 hx).pos;omega),by have:=((hWm x).1 hx).pos;omega⟩)
  simpa using this
 refine jR (gZ (t:=24) (sz:=1)) ?_
 refine dV (fun x:ShG=>[(10,.slice p V.length c),(11,.slice p2 W.length c2),(12,.slice x.q x.out.length x.d),(48,.slice p V.length c),(49,.int .i64 (V.length:Nat)),(50,.int .i64 (x.i:Nat))]) (fun x=>[cells pp [uPt s,uPt tb] 86,tabP tb s (rls Es),bR s most Es,sl p c 24 1 V.length (idC V),sl p2 c2 24 1 W.length (idC W),sl x.q x.d 24 1 x.out.length (idC x.out),R]) (fun x=>V.length-x.i) (fun x=>x.i≤V.length∧x.out=(V.take x.i).filter (fun y=>decide (y∈W))) ⟨0,[],none,0⟩ ⟨Nat.zero_le _,O⟩ ⟨O,O,O,O,O,O,trivial⟩ uI ?_
 rintro⟨i,out,q,d⟩⟨hi,ho⟩
 simp only at hi ho ⊢
 refine gg6 ?_
 refine bE O (fun h=>?_) (fun h=>?_)
 ·obtain⟨x,hx⟩:∃x,V[i]?=some x:=⟨_,List.getElem?_eq_getElem oO⟩
  have hnx:=qQh (W:=W) hx
  have hol:out.length≤V.length:=by rw[ho];exact Nat.le_trans (List.length_filter_le _ _) (by rw[List.length_take];omega)
  refine jU (p:=sl p c 24 1 V.length (idC V)) uK (fun _ h=>fB h oO) ?_
  rintro⟨g,rfl⟩
  have f0:=jL hx (((i:Nat):Int).toNat) oO
  refine gg15 ?_
  refine uX (ct_BinS hE hW oO) O ?_
  rintro _ _⟨m,rfl,rfl⟩
  simp only[uV,uW]
  refine gg12 ?_
  by_cases hxW:x∈W
  ·rw[if_pos hxW,←ho]at hnx
   rw[decide_eq_true hxW]
   refine gg4 ?_
   refine uU ?_
   refine aU (hE.t O) (hE.t O) O O O (fun b63=>?_)
   refine uU ?_
   apply bU (hE.t O) (hE.t O) O O O
   ·exact uK
   ·exact uK
   ·rfl
   ·rfl
   ·omega
   ·omega
   ·(unfold maxLen;omega)
   intro g64 c64 n64 x64 hn64 hx64
   refine gg8 ?_
   obtain rfl:x64=idC (out++[x]):=by rw[hx64,iK];rfl
   obtain rfl:n64=(out++[x]).length:=by simp;omega
   refine bS (ι:=ShG) (j:=⟨i+1,out++[x],some ⟨g64,0,none⟩,c64⟩) ⟨by simp only;omega,hnx.symm⟩ (by simp only;omega) ⟨rfl,rfl,rfl,rfl,rfl,congrArg some (bW (by simp only;omega)),trivial⟩ uI
  rw[if_neg hxW,←ho,List.append_nil]at hnx
  rw[decide_eq_false hxW]
  refine gg8 ?_
  refine bS (ι:=ShG) (j:=⟨i+1,out,q,d⟩) ⟨by simp only;omega,hnx.symm⟩ (by simp only;omega) ⟨rfl,rfl,rfl,rfl,rfl,congrArg some (bW (by simp only;omega)),trivial⟩ uI
 obtain rfl:i=V.length:=by omega
 rw[List.take_length]at ho
 subst ho
 refine gg13 ?_
 exact uZ O (.tmp O (.tmp O .nil)) ⟨q,d,_,O,hV.filter _,fun x=>by rw[List.mem_filter,decide_eq_true_iff,hVm,hWm],rfl⟩
end
section
open Go Eg
theorem Lts.snoc_inv {L:List Rl}{ids:List Nat}{bs:List UInt8}{b:UInt8}(h:Lts L ids (bs++[b])):∃ids' i,ids=ids'++[i+1]∧Lts L ids' bs∧L[i]?=some (.letter b):=by
 generalize hc:bs++[b]=cs at h
 cases h with
 |nil=>simp at hc
 |snoc h1 h2=>
  obtain⟨e1,e2⟩:=List.append_inj' hc rfl
  subst e1
  cases e2
  exact⟨_,_,O,h1,h2⟩
theorem qKu {L:List Rl}(hw:Wf L){a:UInt8}:∀{k:Nat}{ids:List Nat},Lts L ids (List.replicate (k+1) a)→∃m,L[m]?=some (.letter a)∧ids=List.replicate (k+1) (m+1)
 |0,ids,h=>by
  obtain⟨i',m,rfl,h1,h2⟩:=Lts.snoc_inv (bs:=[]) (b:=a) h
  exact⟨m,h2,by rw[h1.nil_inv];rfl⟩
 |k+1,ids,h=>by
  rw[List.replicate_succ']at h
  obtain⟨i',m,rfl,h1,h2⟩:=Lts.snoc_inv h
  obtain⟨m',h3,rfl⟩:=qKu hw h1
  obtain rfl:=hw.nodup _ _ _ h2 h3
  exact⟨m,h2,List.replicate_succ'.symm⟩
theorem Rns.nil_out {L:List Rl}{o:List Nat}(h:Rns L [] o):o=[]:=by
 generalize hc:([]:List (Nat×Nat))=cs at h
 cases h with
 |nil=>rfl
 |snoc h1 h2=>simp at hc
theorem aw_y {L:List Rl}(hw:Wf L){a:UInt8}{k lv:Nat}{ids:List Nat}(h:Rch L (List.replicate (k+2) a) lv ids):∃m,L[m]?=some (.letter a)∧((lv=1∧ids=List.replicate (k+2) (m+1))∨(2≤lv∧∃n,ids=[n+1]∧L[n]?=some (.power (m+1) (k+2)))):=by
 induction h with
 |start h=>
  obtain⟨m,h1,rfl⟩:=qKu hw h
  exact⟨m,h1,.inl ⟨O,O⟩⟩
 |odd h h1 h2 h3 ih=>
  obtain⟨m,hm,⟨rfl,rfl⟩|⟨_,n,rfl,_⟩⟩:=ih
  ·have e:=mW (l:=[]) (a:=[]) O (x:=m+1) (fun y t h=>by simp at h) (k+1)
   rw[List.nil_append,List.nil_append]at e
   rw[e]at h3
   obtain⟨id,o,rfl,h4,h5⟩:=h3.uncons
   obtain rfl:=h5.nil_out
   rcases h4 with⟨h6,_⟩|⟨_,i,rfl,h7⟩
   ·simp at h6
   exact⟨m,hm,.inr ⟨oO,i,O,h7⟩⟩
  simp at h2
 |even h h1 h2 h3 h4 ih=>
  obtain⟨m,hm,⟨rfl,rfl⟩|⟨_,n,rfl,_⟩⟩:=ih
  ·omega
  simp at h2
theorem aw_x {L:List Rl}(hw:Wf L){a b:UInt8}(hab:a≠b){k lv:Nat}{ids:List Nat}(h:Rch L (List.replicate (k+2) a++[b]) lv ids):∃m n,L[m]?=some (.letter a)∧L[n]?=some (.letter b)∧((lv=1∧ids=List.replicate (k+2) (m+1)++[n+1])∨(2≤lv∧∃p,L[p]?=some (.power (m+1) (k+2))∧(ids=[p+1,n+1]∨∃j,ids=[j+1]∧L[j]?=some (.pair (p+1) (n+1))))):=by
 induction h with
 |start h=>
  obtain⟨i',n,rfl,h1,h2⟩:=Lts.snoc_inv h
  obtain⟨m,h3,rfl⟩:=qKu hw h1
  exact⟨m,n,h3,h2,.inl ⟨O,O⟩⟩
 |odd h h1 h2 h3 ih=>
  obtain⟨m,n,hm,hn,⟨rfl,rfl⟩|⟨hlv,p,hp,rfl|⟨j,rfl,_⟩⟩⟩:=ih
  ·have hmn:m≠n:=fun e=>by subst e;rw[hm]at hn;cases hn;exact hab rfl
   have e:=mW (l:=[]) (a:=[]) O (x:=m+1) (fun y t h=>by simp at h) (k+1)
   have e2:=mW e (x:=n+1) (fun y t h=>by simp at h;omega) 0
   rw[List.nil_append,List.nil_append]at e2
   rw[show List.replicate (0+1) (n+1)=[n+1]from rfl]at e2
   rw[e2]at h3
   obtain⟨id,o,rfl,h4,h5⟩:=h3.uncons
   obtain⟨id2,o2,rfl,h6,h7⟩:=h5.uncons
   obtain rfl:=h7.nil_out
   rcases h6 with⟨_,rfl⟩|⟨h6,_⟩
   ·rcases h4 with⟨h8,_⟩|⟨_,i,rfl,h9⟩
    ·simp at h8
    exact⟨m,n,hm,hn,.inr ⟨oO,i,h9,.inl O⟩⟩
   simp at h6
  ·have hpn:p≠n:=fun e=>by subst e;rw[hp]at hn;cases hn
   have e:dD [p+1,n+1]=[(p+1,1),(n+1,1)]:=by simp[dD,tK,hpn]
   rw[e]at h3
   obtain⟨id,o,rfl,h4,h5⟩:=h3.uncons
   obtain⟨id2,o2,rfl,h6,h7⟩:=h5.uncons
   obtain rfl:=h7.nil_out
   rcases h6 with⟨_,rfl⟩|⟨h6,_⟩
   ·rcases h4 with⟨_,rfl⟩|⟨h8,_⟩
    ·exact⟨m,n,hm,hn,.inr ⟨oO,p,hp,.inl O⟩⟩
    simp at h8
   simp at h6
  simp at h2
 |even h h1 h2 h3 h4 ih=>
  obtain⟨m,n,hm,hn,⟨rfl,rfl⟩|⟨hlv,p,hp,rfl|⟨j,rfl,_⟩⟩⟩:=ih
  ·omega
  ·have hg:=pg_of h4
   generalize hq:_++List.drop _ _=out at hg ⊢
   refine⟨m,n,hm,hn,.inr ⟨oO,p,hp,?_⟩⟩
   cases hg with
   |one g1 g2=>
    cases g2 with
    |one g3 g4=>
     cases g4
     exact .inl O
   |two g1 g2 g3=>
    cases g3
    exact .inr ⟨_,O,g2⟩
  simp at h2
theorem vP {f:Nat→Option Nat}{k a x:Nat}(h:f x=some 0):fput f k a x=some 0:=by
 unfold fput
 by_cases e:x=k
 ·rw[if_pos e,←e,h];simp
 rw[if_neg e,h]
theorem qOu {L:List Rl}{f:Nat→Option Nat}{a x:Nat}{r:Rl}(h:f x=some 0):xC L f a r x=some 0:=by
 cases r with
 |letter b=>exact h
 |pair l r=>exact vP (vP h)
 |power y k=>exact vP h
theorem qOv {L:List Rl}{i:Nat}{f:Nat→Option Nat}{x:Nat}(h:f x=some 0):nJ L i f x=some 0:=by
 rcases pM L i f with⟨a,r,_,_,e⟩| e
 ·rw[e];exact qOu h
 rw[e];exact h
theorem qCt {L:List Rl}{x:Nat}:∀{i:Nat}{f:Nat→Option Nat},f x=some 0→vL L i f x=some 0
 |0,f,h=>h
 |i+1,f,h=>qCt (i:=i) (qOv h)
theorem qOr {L:List Rl}{j l r:Nat}(hr:L[j]?=some (.pair l r))(hl:l≠0):fG L (j+1) l=some 0:=by
 unfold fG
 show vL L j (nJ L j (jK (j+1))) l=some 0
 refine qCt ?_
 have e:jK (j+1) (j+1)=some 0:=by simp[jK]
 rw[vQ e hr]
 show fput (fput (jK (j+1)) l 0) r (0+len L l) l=some 0
 refine vP ?_
 unfold fput
 rw[if_pos rfl]
 cases h:jK (j+1) l with
 |none=>rfl
 |some b=>simp
theorem aw_pcs {L:List Rl}(hw:Wf L){x y:Nat}(hx:Sn L [97,97,97,97,97,98] x)(hy:Sn L [97,97,97] y):pcs L (fG L x) y=[.copy 0 3]:=by
 have hel:len L y=3:=hy.len
 rcases hx.sg with⟨h,_⟩|⟨lv,h⟩
 ·cases h
 rcases hy.sg with⟨h',_⟩|⟨lv',h'⟩
 ·cases h'
 obtain⟨m,n,hm,hn,⟨_,e⟩|⟨_,p,hp,e|⟨j,e,hj⟩⟩⟩:=aw_x hw (a:=97) (b:=98) (by decide) (k:=3) h
 ·simp at e
 ·simp at e
 obtain⟨m',hm',⟨_,e'⟩|⟨_,n',e',hp'⟩⟩:=aw_y hw (a:=97) (k:=1) h'
 ·simp at e'
 obtain rfl:=hw.nodup _ _ _ hm hm'
 cases e
 cases e'
 have hjl:=(List.getElem?_eq_some_iff.1 hj).1
 have hf:fG L (j+1) (p+1)=some 0:=qOr hj oO
 have hno:fG L (j+1) (n'+1)=none:=by
  cases hc:fG L (j+1) (n'+1)with
  |none=>rfl
  |some a=>
   exfalso
   have hr:Rea L (j+1) (n'+1):=rR hw oO (n'+1) (by rw[hc];simp)
   cases hr with
   |self _=>rw[hj]at hp';cases hp'
   |kid h1 h2 h3=>
    rw[hj]at h1
    cases h1
    simp only[kids,List.mem_cons,List.not_mem_nil,or_false]at h2
    rcases h2 with rfl|rfl
    ·cases h3 with
     |self _=>rw[hp]at hp';cases hp'
     |kid h1 h2 h3=>
      rw[hp]at h1
      cases h1
      simp only[kids,List.mem_cons,List.not_mem_nil,or_false]at h2
      subst h2
      cases h3 with
      |self _=>rw[hm]at hp';cases hp'
      |kid h1 h2 h3=>rw[hm]at h1;cases h1;simp[kids]at h2
    cases h3 with
    |self _=>rw[hn]at hp';cases hp'
    |kid h1 h2 h3=>rw[hn]at h1;cases h1;simp[kids]at h2
 rw[wC hno hp',hel]
 have hb:best L (fG L (j+1)) (m+1) (1+2)=some 0:=qQf ⟨p,by simp[hit,hp,hf]⟩ (fun i b _=>Nat.zero_le b)
 rw[hb]
end
section
open Go Go.RowKit Sl Eg
variable {E:Env}{Es:List Ent}{pp tb s most:Nat}
theorem underPc:Tryz.prog.underlying 45=some (.struct (Tryz.prog.fieldsOf 45)):=by kernel_rfl
theorem heldPc:Tryz.prog.stoodInHeld 45=false:=by kernel_rfl
theorem fieldsPc : (Tryz.prog.fieldsOf 45).toList = [⟨"Copy", 4, 0, false, "", "", 0⟩, ⟨"From", 3, 1, false, "", "", 8⟩, ⟨"N", 3, 2, false, "", "", 16⟩, ⟨"Text", 24, 3, false, "", "", 24⟩] := by kernel_rfl
theorem pc_equal (a b c:Int)(w:World):(Op.equal 45 (.agg #[.bool true,.int .i64 a,.int .i64 b,.int .i64 c]) (.agg #[.bool true,.int .i64 a,.int .i64 b,.int .i64 c])).run Tryz.prog w= .ok true w:=by
 unfold Op.equal Op.maxDepth
 rw[show(10000:Nat)=9999+1 from rfl,run_equalIn_struct _ _ _ _ _ underPc heldPc,fieldsPc]
 simp only[Op.eqFields]
 simp[go_sem]
theorem y_eq_pc (hE:Seat E){n:Nat}{L:Fr}{S:List HP}{ty:TypeId}{pos:String}{af:Array Edge}{d:Option Nat}{gd:Option (Nat×Bool)}{x y:Operand}{yt:TypeId}{a b c:Int}(hx:ev L x=some (.agg #[.bool true,.int .i64 a,.int .i64 b,.int .i64 c]))(hy:ev L y=some (.agg #[.bool true,.int .i64 a,.int .i64 b,.int .i64 c])):
  Yl E n L S ⟨d,.binOp .eql 45 x y yt,ty,pos,af,gd⟩ (.bool true):=fun ac w g _=>by
 have h1:(eqGuard .eql 45 x y (.agg #[.bool true,.int .i64 a,.int .i64 b,.int .i64 c]) (.agg #[.bool true,.int .i64 a,.int .i64 b,.int .i64 c])).run E.P w= .ok () w:=by
  have hg:E.P.eqGuardType E.P.depth 45=false:=by rw[hE.P];kernel_rfl
  unfold eqGuard
  simp[program,Sem.run,hg]
 have h2:∀u v:Value,binOp .eql 45 (.agg #[.bool true,.int .i64 a,.int .i64 b,.int .i64 c]) (.agg #[.bool true,.int .i64 a,.int .i64 b,.int .i64 c])=(do pure (.bool (←Op.equal 45 (.agg #[.bool true,.int .i64 a,.int .i64 b,.int .i64 c]) (.agg #[.bool true,.int .i64 a,.int .i64 b,.int .i64 c])))):=fun _ _=>O
 have h3:=pc_equal a b c w
 rw[←hE.P]at h3
 simp[execOp,h1,h2 (.bool true) (.bool true),h3,g.ev hx,g.ev hy]
theorem jn_one {M N:List Ent}{out:List Px}{D:List Px}{n:Nat}(h:Jn M n D D.length N out)(hD:D=[.copy 0 3]):out=[.copy 0 3]:=by
 subst hD
 have e:=h.eq
 match out,e with
 |[],e=>cases e
 |[.copy f n],e=>simp[nrm,addP,Px.out]at e;rw[e.1,e.2]
 |[.text x],e=>simp[nrm,addP,Px.out]at e
 |_::_::_,e=>simp[nrm,addP]at e
theorem qOc (hE:Seat E)(hB:Base E.w0):Ct E 29 [] [] (fun v Q=>v= .bool true∧Q=[]):=by
 refine bO (hE.fn Tryz.func29) O O O (fun R=>?_)
 simp only[dR,uV,uW]
 refine gg7 ?_
 refine uX (qHa (most:=1048576) hE (Nat.le_refl _)) O ?_
 rintro _ _⟨s,rfl,rfl⟩
 simp only[uV,uW]
 refine uX (qHh hE) O ?_
 rintro _ _⟨pp,tb,rfl,rfl⟩
 simp only[uV,uW]
 refine gg6 ?_
 refine uU ?_
 refine aU (hE.t O) (hE.t O) O O O (fun b12=>?_)
 refine uU ?_
 refine qSg O (hE.t O) (hE.t O) uK ?_
 have n1:([97,97,97,97,97,98]:List UInt8).length≤65536:=by decide
 have r1:([]:List Ent).length+2*([97,97,97,97,97,98]:List UInt8).length≤1048576:=by decide
 refine uX (ct_Of (bs:=[97,97,97,97,97,98]) hE hB n1 r1) O ?_
 rintro _ _⟨M1,x,rfl,hM1,tx1,gx,sx,rfl⟩
 simp only[uV,uW]
 have hx:Sn (rls ([]++M1)) [97,97,97,97,97,98] x:=⟨sx,tx1,gx⟩
 refine gg10 ?_
 refine uU ?_
 refine aU (hE.t O) (hE.t O) O O O (fun b19=>?_)
 refine uU ?_
 refine qSg O (hE.t O) (hE.t O) uK ?_
 have n2:([97,97,97]:List UInt8).length≤65536:=by decide
 have r2:([]++M1:List Ent).length+2*([97,97,97]:List UInt8).length≤1048576:=by simp at hM1 ⊢;omega
 refine uX (ct_Of (bs:=[97,97,97]) hE hB n2 r2) O ?_
 rintro _ _⟨M2,y,rfl,hM2,ty1,gy,sy,rfl⟩
 simp only[uV,uW]
 have hy:Sn (rls ([]++M1++M2)) [97,97,97] y:=⟨sy,ty1,gy⟩
 have hx2:Sn (rls ([]++M1++M2)) [97,97,97,97,97,98] x:=by rw[dA];exact hx.ext _
 have n3:([97,97,97,97,97,98]:List UInt8).length≤600:=by decide
 have n4:([97,97,97]:List UInt8).length≤600:=by decide
 have n5:([]++M1++M2:List Ent).length<65536:=by simp at hM1 hM2 ⊢;omega
 have n6:([]++M1++M2:List Ent).length+360000≤1048576:=by simp at hM1 hM2 ⊢;omega
 refine xH (p:=bR s 1048576 ([]++M1++M2)) uK (fun _ h=>dQ h) (fun hsay=>?_)
 have hpc:=aw_pcs hsay.1 hx2 hy
 refine gg12 ?_
 refine uX (ct_bdOf hE hB hx2 hy n3 n4 n5 n6) O ?_
 rintro _ _⟨M,out,q,d,rfl,hJ,rfl⟩
 obtain rfl:=jn_one hJ hpc
 simp only[uV,uW]
 refine xH (p:=sl q d 45 4 [Px.copy 0 3].length (pxC [Px.copy 0 3])) uK (fun _ h=>fB h (by decide)) ?_
 rintro⟨g,rfl⟩
 have hl1:[Px.copy 0 3].length=1:=rfl
 refine gg41 ?_
 refine uB (y_eq_pc hE O O) ?_
 refine gg5 ?_
 exact uZ O (.tmp O .nil) ⟨O,O⟩
theorem rdb_tx {w0:World}{t:Tx}(h:OkT w0 t):Rdb w0 t.a (byC t.bs) old:=fun hne=>h.1.rd (fun e=>hne (by rw[e];rfl))
theorem ct_two42 (hE:Seat E)(hB:Base E.w0){a b:Tx}(ha:OkT E.w0 a)(hb:OkT E.w0 b)(la:a.bs.length≤600)(lb:b.bs.length≤600):Ct E 8 [.slice a.a a.bs.length a.c,.slice b.a b.bs.length b.c] []
  (fun v Q=>∃pp s tb M x y,v= .tuple #[uPt pp,.int .i64 (x:Nat),.int .i64 (y:Nat),.bool true]∧M.length≤2*(a.bs.length+b.bs.length)∧Sn (rls M) a.bs x∧Sn (rls M) b.bs y∧Q=[cells pp [uPt s,uPt tb] 86,tabP tb s (rls M),bR s 1048576 M]):=by
 refine bO (hE.fn Tryz.func8) O O O (fun R=>?_)
 simp only[dR,uV,uW]
 refine gg10 ?_
 refine uX (qHa (most:=1048576) hE (Nat.le_refl _)) O ?_
 rintro _ _⟨s,rfl,rfl⟩
 simp only[uV,uW]
 refine uX (qHh hE) O ?_
 rintro _ _⟨pp,tb,rfl,rfl⟩
 simp only[uV,uW]
 refine gg6 ?_
 refine uU ?_
 refine nK (hE.t O) (fun b17=>?_)
 refine gg1 ?_
 refine vU ent_old ?_
 have r1:([]:List Ent).length+2*a.bs.length≤1048576:=by rw[List.length_nil];omega
 have hb1:(0+(byC a.bs).length)*1≤140737488355328:=by
  rw[mM]
  omega
 have hb2:0+(byC a.bs).length≤maxLen:=by
  rw[mM]
  unfold maxLen
  omega
 refine uU ?_
 refine vV (us:=byC a.bs) (q:=old) (hE.t O) (hE.t O) O O O (mM _).symm (rdb_tx ha) uK uK (qGn _) hb1 hb2 (fun pt ct m1 x1 hm1 hx1=>?_)
 obtain rfl:m1=a.bs.length:=by rw[hm1,mM,Nat.zero_add]
 obtain rfl:x1=byC a.bs:=hx1
 refine xH (p:=sl pt ct 5 1 a.bs.length (byC a.bs)) uK (fun _ h=>fun hpos=>fB h hpos) (fun hpt=>?_)
 have hqs:Rdb E.w0 pt (byC a.bs) (sl pt ct 5 1 a.bs.length (byC a.bs)):=rdb_sl (mM _) hpt
 refine uX (qQn (Es:=[]) (s:=s) (most:=1048576) (tb:=tb) (pp:=pp) (a:=pt) (c:=ct) (q:=sl pt ct 5 1 a.bs.length (byC a.bs)) (bs:=a.bs) hE hB (fun hne=>hqs (byC_ne hne)) oO r1) O ?_
 rintro _ _⟨M1,x,rfl,hM1,tx1,gx,sx,rfl⟩
 clear hqs hpt
 simp only[uV,uW]
 have hx:Sn (rls ([]++M1)) a.bs x:=⟨sx,tx1,gx⟩
 refine gg10 ?_
 refine uU ?_
 refine nK (hE.t O) (fun b25=>?_)
 refine gg1 ?_
 have hb1:(0+(byC b.bs).length)*1≤140737488355328:=by
  rw[mM]
  omega
 have hb2:0+(byC b.bs).length≤maxLen:=by
  rw[mM]
  unfold maxLen
  omega
 refine uU ?_
 refine vV (us:=byC b.bs) (q:=old) (hE.t O) (hE.t O) O O O (mM _).symm (rdb_tx hb) uK uK (qGn _) hb1 hb2 (fun pt ct m1 x1 hm1 hx1=>?_)
 obtain rfl:m1=b.bs.length:=by rw[hm1,mM,Nat.zero_add]
 obtain rfl:x1=byC b.bs:=hx1
 refine xH (p:=sl pt ct 5 1 b.bs.length (byC b.bs)) uK (fun _ h=>fun hpos=>fB h hpos) (fun hpt=>?_)
 have hqs:Rdb E.w0 pt (byC b.bs) (sl pt ct 5 1 b.bs.length (byC b.bs)):=rdb_sl (mM _) hpt
 have r2:([]++M1:List Ent).length+2*b.bs.length≤1048576:=by rw[List.nil_append];omega
 refine uX (qQn (Es:=[]++M1) (s:=s) (most:=1048576) (tb:=tb) (pp:=pp) (a:=pt) (c:=ct) (q:=sl pt ct 5 1 b.bs.length (byC b.bs)) (bs:=b.bs) hE hB (fun hne=>hqs (byC_ne hne)) oO r2) O ?_
 rintro _ _⟨M2,y,rfl,hM2,ty1,gy,sy,rfl⟩
 simp only[uV,uW]
 have hy:Sn (rls ([]++M1++M2)) b.bs y:=⟨sy,ty1,gy⟩
 have hx2:Sn (rls ([]++M1++M2)) a.bs x:=by rw[dA];exact hx.ext _
 refine gg22 ?_
 refine uX (qOc hE hB) O ?_
 rintro _ _⟨rfl,rfl⟩
 simp only[uV,uW]
 refine gg8 ?_
 exact uZ O (.tmp O (.tmp O (.tmp O (.tmp O .nil)))) ⟨pp,s,tb,[]++M1++M2,x,y,O,by rw[List.nil_append,List.length_append];omega,hx2,hy,rfl⟩
end
end Go.Proofs.YtblljbllmnbiaaaGreatDoor
