import Derived.Test.YtblljbllmnbiaaaGreatDoorQ18
import Derived.Test.YtblljbllmnbiaaaGreatDoorQ37
import Derived.Test.YtblljbllmnbiaaaGreatDoorQ93
set_option linter.all false
set_option maxHeartbeats 1000000
namespace Go.Proofs.YtblljbllmnbiaaaGreatDoor
open Go Go.RowKit Sl Eg
set_option maxRecDepth 10000
section
theorem qTf {L:List Rl}(hw:Wf L){l:Nat}:∀x,x≤L.length→rowT L (expd L l x)=txt L x:=by
 intro x
 induction x using Nat.strongRecOn with
 |_ x ih=>
  intro hx
  rcases Nat.eq_zero_or_pos x with rfl|h1
  ·rw[qAb];rfl
  obtain⟨i,rfl⟩:∃i,x=i+1:=⟨x-1,oO⟩
  by_cases h:lvl L (i+1)≤(l:Nat)
  ·rw[iF h1 h,mE]
  have hr:L[i]?=some (L[i]'oO):=List.getElem?_eq_getElem oO
  generalize L[i]'oO=r at hr
  have hk:=hw.ok i r hr
  cases r with
  |letter b=>have:=(jE hr).2;omega
  |pair a b=>
   obtain⟨g1,g2,g3,g4⟩:=hk
   rw[iP hw hr oO,iE,ih a oO oO,ih b oO oO,wI hr ⟨g1,g2,g3,g4⟩]
  |power y k=>
   obtain⟨g1,g2,g3⟩:=hk
   rw[iQ hw hr oO,rC hr ⟨g1,g2,g3⟩]
   have e:∀m,rowT L (List.replicate m (expd L l y)).flatten=(List.replicate m (txt L y)).flatten:=fun m=>by
    induction m with
    |zero=>rfl
    |succ m ihm=>rw[List.replicate_succ,List.flatten_cons,List.replicate_succ,List.flatten_cons,iE,ihm,ih y oO oO]
   exact e k
theorem lts_of {L:List Rl}(hw:Wf L):∀ids:List Nat,(∀y∈ids,1≤y∧y≤L.length∧lvl L y=0)→Lts L ids (rowT L ids):=by
 intro ids
 induction ids using qBh with
 |h0=>exact fun _=> .nil
 |h1 ids y ih=>
  intro h
  obtain⟨h1,h2,h3⟩:=h y (by simp)
  obtain⟨i,rfl⟩:∃i,y=i+1:=⟨y-1,oO⟩
  obtain⟨b,hb⟩:=lvl_zero hw (i:=i) oO h3
  rw[iE,mE,nW hb]
  exact .snoc (ih fun z hz=>h z (by simp[hz])) hb
theorem Sig.lts {L:List Rl}(hw:Wf L){x:Nat}(h:Sig L x):Lts L (expd L 0 x) (txt L x):=by
 have:=lts_of hw (expd L 0 x) fun y hy=>by
  have:=(h.inv 1 (Nat.le_refl _)).ok y hy
  exact⟨this.1,this.2.1,oO⟩
 rwa [qTf hw x h.le]at this
theorem Sig.sn {L:List Rl}(hw:Wf L){x:Nat}(h:Sig L x):Sn L (txt L x) x:=by
 refine⟨.inr ?_,O,h.le,h.lv⟩
 obtain⟨m,hm⟩:∃m:Nat,lvl L x=m:=⟨(lvl L x).toNat,by have:=h.lv;omega⟩
 have key:∀k:Nat,k≤m→Rch L (txt L x) (k+1) (expd L k x):=by
  intro k
  induction k with
  |zero=>exact fun _=> .start (h.lts hw)
  |succ k ih=>
   intro hk
   have hs:=h.step (k+1) oO
   rw[Nat.add_sub_cancel]at hs
   exact(ih oO).next ((nA hw x h.pos h.le).2 oO) (fun y hy=>((h.inv (k+1) oO).ok y hy).2.1) hs
 have:=key m (Nat.le_refl _)
 rw[iF h.pos oO]at this
 exact⟨_,this⟩
theorem Sn.sig {L:List Rl}(hw:Wf L){bs:List UInt8}{x:Nat}(h:Sn L bs x)(h0:x≠0):Sig L x:=(h.parts hw h0).1
theorem Sn.reach {L:List Rl}(hw:Wf L){bs:List UInt8}{k x:Nat}(h:Sn L bs k)(hx:Rea L k x):Sn L (txt L x) x:=by
 have hk:k≠0:=by have:=hx;intro e;subst e;cases this
 exact((h.sig hw hk).reach hw hx).sn hw
end
section
variable {E:Env}{Es:List Ent}{pp tb s most:Nat}
theorem qLu {K:List Nat}{P:Nat→Option Addr×Nat}{X:Nat→List (Nat×Nat)}{y:Nat}{H:List HP}(hn:K.Nodup)(h:y∈K):∀k,dP (slP (P y) (X y)::bag (K.erase y) P X::H) k→dP (bag K P X::H) k:=fun k x=>by
 have:=qQd hn h (P y).1 (P y).2 (X y) k x
 rwa [qLj X y rfl,qLj P y rfl]at this
theorem ct_find1 (hE:Seat E){b1 b5 g c y t i:Nat}{l:List (Nat×Nat)}{p:Nat×Nat}(hl:l.length≤65536)(hp:l[i]?=some p):
  Ct E 104 [.int .i64 (i:Nat),uPt b1,uPt b5] [cells b1 [.slice (some ⟨g,0,none⟩) l.length c] 141,cells b5 [.int .i64 (Rl.kind ((Rl.power y t)):Nat),.int .u8 (Rl.byte ((Rl.power y t)):Nat),.int .i64 (Rl.left ((Rl.power y t)):Nat),.int .i64 (Rl.right ((Rl.power y t)):Nat),.int .i64 (Rl.times ((Rl.power y t)):Nat)] 74,sl (some ⟨g,0,none⟩) c 143 2 l.length (pwC l)] (fun v Q=>v= .bool (decide (t≤p.1))∧Q=[cells b1 [.slice (some ⟨g,0,none⟩) l.length c] 141,cells b5 [.int .i64 (Rl.kind ((Rl.power y t)):Nat),.int .u8 (Rl.byte ((Rl.power y t)):Nat),.int .i64 (Rl.left ((Rl.power y t)):Nat),.int .i64 (Rl.right ((Rl.power y t)):Nat),.int .i64 (Rl.times ((Rl.power y t)):Nat)] 74,sl (some ⟨g,0,none⟩) c 143 2 l.length (pwC l)]):=by
 have hil:=(List.getElem?_eq_some_iff.1 hp).1
 obtain⟨f0,f0'⟩:=qMv hp (0+((i:Nat):Int).toNat*2) oO
 refine bO (hE.fn Tryz.func104) O O O (fun R=>?_)
 simp only[dR,uV,uW]
 refine gg19 ?_
 exact uZ O (.tmp O .nil) ⟨congrArg Value.bool (decide_eq_decide.2 (by simp only[Rl.times];omega)),O⟩
def fnd (L:List Rl)(f:Nat→Option Nat)(id:Nat)(r:Rl):Option Nat:=match f id with
 |some a=>some a
 |none=>match r with
  | .power y t=>best L f y t
  |_=>none
theorem ct_find (hE:Seat E){bx bm bp id:Nat}{f:Nat→Option Nat}{K:List Nat}{P:Nat→Option Addr×Nat}{X:Nat→List (Nat×Nat)}(hI:IxOk (rls Es) f K X){r:Rl}:
  Ct E 68 [uPt bx,.int .i64 (id:Nat),.agg #[.int .i64 (Rl.kind (r):Nat),.int .u8 (Rl.byte (r):Nat),.int .i64 (Rl.left (r):Nat),.int .i64 (Rl.right (r):Nat),.int .i64 (Rl.times (r):Nat)]] [cells bx [uPt s,.map (some bm),.map (some bp)] 140,mapF bm .i64 (mapN f),mapF bp .i64 (jM K P X),bag K P X] (fun v Q=>v= .tuple #[.int .i64 (((fnd (rls Es) f id r).getD 0:Nat):Int),.bool (fnd (rls Es) f id r).isSome]∧Q=[cells bx [uPt s,.map (some bm),.map (some bp)] 140,mapF bm .i64 (mapN f),mapF bp .i64 (jM K P X),bag K P X]):=by
 have hm1:E.P.underlying 135=some (.map 24 3):=by rw[hE.P];kernel_rfl
 have hm2:E.P.underlying 24=some (.int .i64):=by rw[hE.P];kernel_rfl
 have hm3:∀w,(zeroValue 3).run E.P w= .ok (.int .i64 0) w:=fun w=>by rw[hE.P];kernel_rfl
 have hgo:goFn E.P 104=true:=hE.f oK
 have hf:=zB f id
 cases hfi:f id with
 |some a=>
  rw[hfi]at hf
  have e:fnd (rls Es) f id r=some a:=by unfold fnd;rw[hfi]
  rw[e]
  refine bO (hE.fn Tryz.func68) O O O (fun R=>?_)
  simp only[dR,uV,uW]
  refine gg2 ?_
  refine uU ?_
  refine jC O (fun b5=>?_)
  refine gg12 ?_
  refine uB (rG (ok:=true) hm1 hm2 hm3 O O uK hf) ?_
  simp only[Option.map_some,qAf,Option.getD_some,Option.isSome_some,if_true]
  refine gg22 ?_
  exact uZ O (.tmp O (.tmp O .nil)) ⟨O,O⟩
 |none=>
  rw[hfi]at hf
  refine bO (hE.fn Tryz.func68) O O O (fun R=>?_)
  simp only[dR,uV,uW]
  refine gg2 ?_
  refine uU ?_
  refine jC O (fun b5=>?_)
  refine gg12 ?_
  refine uB (rG (ok:=true) hm1 hm2 hm3 O O uK hf) ?_
  simp only[Option.map_none,qAf,Option.getD_none,Option.isSome_none,if_true]
  refine gg23 ?_
  cases r with
  |letter b=>
   have e:fnd (rls Es) f id (.letter b)=none:=by unfold fnd;rw[hfi]
   rw[e]
   refine bE O (fun h1=>?_) (fun h1=>?_)
   ·refine gg8 ?_
    exact uZ O (.tmp O (.tmp O .nil)) ⟨O,O⟩
   exfalso;simp[Rl.kind]at h1
  |pair a b=>
   have e:fnd (rls Es) f id (.pair a b)=none:=by unfold fnd;rw[hfi]
   rw[e]
   refine bE O (fun h1=>?_) (fun h1=>?_)
   ·refine gg8 ?_
    exact uZ O (.tmp O (.tmp O .nil)) ⟨O,O⟩
   exfalso;simp[Rl.kind]at h1
  |power y t=>
   have e:fnd (rls Es) f id (.power y t)=best (rls Es) f y t:=by unfold fnd;rw[hfi]
   rw[e]
   refine bE O (fun h1=>?_) (fun h1=>?_)
   ·exfalso;simp[Rl.kind]at h1
   refine gg2 ?_
   by_cases hyK:y∈K
   ·obtain⟨hne,hXl,Q,hXQ,hPQ⟩:=hI.inn y hyK
    have hpos:0<(X y).length:=List.length_pos_iff.2 hne
    have hlk:=zC (P:=P) (X:=X) hyK
    obtain⟨m,hm,hm0,hm1'⟩:=hPQ.cut t
    have hQl:(X y).length=Q.length:=by rw[hXQ,mH]
    have hfd:=hPQ.find hm0 hm1'
    have hsx:=qFo Q
    rw[←hXQ]at hfd hsx
    apply qBn hyK
    ·exact uK
    refine jU (p:=sl (P y).1 (P y).2 143 2 (X y).length (pwC (X y))) uK (fun _ h=>fB h hpos) ?_
    rintro⟨g,hg⟩
    have hP:P y=(some ⟨g,0,none⟩,(P y).2):=by rw[←hg]
    rw[hg]at hlk
    rw[hg]
    refine gg1 ?_
    refine uN 8 ([cells bx [uPt s,.map (some bm),.map (some bp)] 140,cells b5 [.int .i64 (Rl.kind ((Rl.power y t)):Nat),.int .u8 (Rl.byte ((Rl.power y t)):Nat),.int .i64 (Rl.left ((Rl.power y t)):Nat),.int .i64 (Rl.right ((Rl.power y t)):Nat),.int .i64 (Rl.times ((Rl.power y t)):Nat)] 74,mapF bp .i64 (jM K P X)]) ?_
    refine gg6 ?_
    refine uT 6 O (rG (kt:=24) (et:=141) (z:= .slice none 0 0) (by rw[hE.P];kernel_rfl) (by rw[hE.P];kernel_rfl) (fun w=>by rw[hE.P];kernel_rfl) rfl rfl (by((repeat constructor);done)) (by assumption)) ?_
    apply dX 7 O oK O
    refine cZ (hE.t O) (fun b10=>?_)
    refine uE ?_
    apply gJ O oK oK O
    refine uS ?_
    refine gg6 ?_
    have hcl:=fun(i:Nat)(hi:i<(X y).length)=>ct_pack (ct_find1 (E:=E) (b1:=b10) (b5:=b5) (g:=g) (c:=(P y).2) (y:=y) (t:=t) hE hXl (List.getElem?_eq_getElem hi))
    have hss:=qHi (vB (n:=(X y).length) (m:=m) (P:=fun i=>decide (t≤((X y)[i]?.getD (0,0)).1)) (pre:=dP [cells b10 [.slice (some ⟨g,0,none⟩) (X y).length (P y).2] 141,cells b5 [.int .i64 (Rl.kind ((Rl.power y t)):Nat),.int .u8 (Rl.byte ((Rl.power y t)):Nat),.int .i64 (Rl.left ((Rl.power y t)):Nat),.int .i64 (Rl.right ((Rl.power y t)):Nat),.int .i64 (Rl.times ((Rl.power y t)):Nat)] 74,sl (some ⟨g,0,none⟩) (P y).2 143 2 (X y).length (pwC (X y))]) hE hgo oO (fun i hi=>by
     have:=hcl i hi
     rw[List.getElem?_eq_getElem hi]
     exact this) oO (fun i hi=>by
     obtain⟨p,hp⟩:∃p,(X y)[i]?=some p:=⟨_,List.getElem?_eq_getElem oO⟩
     obtain⟨⟨q,hq,hq1⟩,_⟩:=hsx i p hp
     have:=hm0 i q hi hq
     rw[hp]
     exact decide_eq_false (by show ¬t≤p.1;omega)) (fun i hi hi2=>by
     obtain⟨p,hp⟩:∃p,(X y)[i]?=some p:=⟨_,List.getElem?_eq_getElem oO⟩
     obtain⟨⟨q,hq,hq1⟩,_⟩:=hsx i p hp
     have:=hm1' i q hi hq
     rw[hp]
     exact decide_eq_true (by show t≤p.1;omega)))
    refine uX (hss) O ?_
    rintro _ _⟨rfl,rfl⟩
    simp only[uV,uW]
    refine gg12 ?_
    refine bE O (fun h2=>?_) (fun h2=>?_)
    ·have e2:=hfd.1 oO
     rw[e2]
     refine gg8 ?_
     apply cB
     ·rfl
     ·(apply Rs.tmp rfl;apply Rs.tmp rfl;exact Rs.nil)
     ·exact⟨O,O⟩
     refine cO (m:=[slP (P y) (X y),bag (K.erase y) P X,cells bx [uPt s,.map (some bm),.map (some bp)] 140,mapF bm .i64 (mapN f),mapF bp .i64 (jM K P X),R]) (by rw[hP];(apply ent;(repeat constructor);done)) (cO (qLu hI.kn hyK) uI)
    obtain⟨p,hp⟩:∃p,(X y)[m]?=some p:=⟨_,List.getElem?_eq_getElem oO⟩
    have e2:=hfd.2 p hp
    rw[e2]
    obtain⟨f0,f0'⟩:=qMv hp (0+((m:Nat):Int).toNat*2) oO
    refine gg14 ?_
    apply cB
    ·rfl
    ·(apply Rs.tmp rfl;apply Rs.tmp rfl;exact Rs.nil)
    ·exact⟨O,O⟩
    refine cO (m:=[slP (P y) (X y),bag (K.erase y) P X,cells bx [uPt s,.map (some bm),.map (some bp)] 140,mapF bm .i64 (mapN f),mapF bp .i64 (jM K P X),R]) (by rw[hP];(apply ent;(repeat constructor);done)) (cO (qLu hI.kn hyK) uI)
   have hlk:=qIc (P:=P) (X:=X) hyK
   have e2:best (rls Es) f y t=none:=zL.2 fun i=>by
    cases e3:hit (rls Es) f y t i with
    |none=>rfl
    |some a=>
     obtain⟨t',h3,_⟩:=vH.1 e3
     rw[hI.out y hyK i]at h3
     cases h3
   rw[e2]
   refine gg1 ?_
   refine uN 8 ([cells bx [uPt s,.map (some bm),.map (some bp)] 140,cells b5 [.int .i64 (Rl.kind ((Rl.power y t)):Nat),.int .u8 (Rl.byte ((Rl.power y t)):Nat),.int .i64 (Rl.left ((Rl.power y t)):Nat),.int .i64 (Rl.right ((Rl.power y t)):Nat),.int .i64 (Rl.times ((Rl.power y t)):Nat)] 74,mapF bp .i64 (jM K P X)]) ?_
   refine gg6 ?_
   refine uT 6 O (rG (kt:=24) (et:=141) (z:= .slice none 0 0) (by rw[hE.P];kernel_rfl) (by rw[hE.P];kernel_rfl) (fun w=>by rw[hE.P];kernel_rfl) rfl rfl (by((repeat constructor);done)) (by assumption)) ?_
   apply dX 7 O oK O
   refine cZ (hE.t O) (fun b10=>?_)
   refine uE ?_
   apply gJ O oK oK O
   refine uS ?_
   refine gg6 ?_
   have hss:=qHi (l:=[]) (vB (n:=0) (m:=0) (fc:=104) (caps:=[uPt b10,uPt b5]) (P:=fun i=>true) (pre:=dP []) hE hgo oO (fun i hi=>by omega) oO (fun i hi=>by omega) (fun i hi hi2=>by omega))
   refine uX (hss) O ?_
   rintro _ _⟨rfl,rfl⟩
   simp only[uV,uW]
   refine gg12 ?_
   refine bE O (fun h2=>?_) (fun h2=>?_)
   ·refine gg8 ?_
    exact uZ O (.tmp O (.tmp O .nil)) ⟨O,O⟩
   exfalso;omega
end
section
variable {E:Env}{Es:List Ent}{pp tb s most:Nat}
def Px.cp:Px→Bool
 | .copy _ _=>true
 | .text _=>false
def Px.fr:Px→Nat
 | .copy f _=>f
 | .text _=>0
def Px.nn:Px→Nat
 | .copy _ n=>n
 | .text _=>0
def Px.tx:Px→Nat
 | .copy _ _=>0
 | .text x=>x
def pxV (x:Px):List Value:=[.bool x.cp,.int .i64 (x.fr:Nat),.int .i64 (x.nn:Nat),.int .i64 (x.tx:Nat)]
def pxC (l:List Px):List Value:=l.flatMap pxV
theorem jF (a b:List Px):pxC (a++b)=pxC a++pxC b:=by simp[pxC]
theorem pcs_fnd {L:List Rl}{f:Nat→Option Nat}{n a:Nat}{r:Rl}(hr:L[n]?=some r)(h:fnd L f (n+1) r=some a):pcs L f (n+1)=[.copy a (len L (n+1))]:=by
 unfold fnd at h
 cases e:f (n+1)with
 |some b=>rw[e]at h;cases h;exact qIm e
 |none=>
  rw[e]at h
  cases r with
  |letter b=>cases h
  |pair l r=>cases h
  |power y t=>
   simp only at h
   rw[wC e hr,h]
theorem qMj {L:List Rl}{f:Nat→Option Nat}{id:Nat}{r:Rl}(h:fnd L f id r=none):f id=none:=by
 unfold fnd at h
 cases e:f id with
 |some b=>rw[e]at h;cases h
 |none=>rfl
theorem qMu {L:List Rl}{f:Nat→Option Nat}{n:Nat}{r:Rl}(hr:L[n]?=some r)(h:fnd L f (n+1) r=none)(hp:∀a b,r≠ .pair a b):pcs L f (n+1)=[.text (n+1)]:=by
 have e:=qMj h
 unfold fnd at h
 rw[e]at h
 cases r with
 |letter b=>exact qDh e hr
 |pair l r=>exact absurd rfl (hp l r)
 |power y t=>
  simp only at h
  rw[wC e hr,h]
def stM (L:List Rl)(st:List Nat):Nat:=(st.map fun x=>2*len L x-1).sum
theorem xW (L:List Rl)(a b:List Nat):stM L (a++b)=stM L a+stM L b:=by simp[stM]
theorem qLf (L:List Rl)(x:Nat):stM L [x]=2*len L x-1:=by simp[stM]
theorem stM_two (L:List Rl)(x y:Nat):stM L [x,y]=(2*len L x-1)+(2*len L y-1):=by simp[stM]
theorem stM_len {L:List Rl}(hw:Wf L){st:List Nat}(h:∀x∈st,1≤x∧x≤L.length):st.length≤stM L st:=by
 induction st with
 |nil=>exact Nat.le_refl _
 |cons x st ih=>
  have h1:=ih fun y hy=>h y (by simp[hy])
  have h2:=qQ hw x (h x (by simp)).1 (h x (by simp)).2
  simp only[stM,List.map_cons,List.sum_cons,List.length_cons]at h1 ⊢
  omega
structure PcG where
 st:List Nat
 out:List Px
 p:Option Addr
 c:Nat
 q:Option Addr
 d:Nat
theorem qQz (hE:Seat E){bx bm bp b:Nat}{f:Nat→Option Nat}{K:List Nat}{P:Nat→Option Addr×Nat}{X:Nat→List (Nat×Nat)}(hI:IxOk (rls Es) f K X)(hb:b≤Es.length)(hbl:len (rls Es) b≤100000)(hpl:(pcs (rls Es) f b).length≤4096):
  Ct E 35 [uPt bx,.int .i64 (b:Nat)] [bR s most Es,cells bx [uPt s,.map (some bm),.map (some bp)] 140,mapF bm .i64 (mapN f),mapF bp .i64 (jM K P X),bag K P X]
   (fun v Q=>∃q d,v= .tuple #[.slice q (pcs (rls Es) f b).length d,.nilIface]∧(pcs (rls Es) f b=[]→q=none∧d=0)∧Q=[bR s most Es,cells bx [uPt s,.map (some bm),.map (some bp)] 140,mapF bm .i64 (mapN f),mapF bp .i64 (jM K P X),bag K P X,sl q d 45 4 (pcs (rls Es) f b).length (pxC (pcs (rls Es) f b))]):=by
 refine fF (p:=bR s most Es) uK (fun _ h=>dQ h) (fun hsay=>?_)
 have hw:=hsay.1
 have hLl:=bQ Es
 refine bO (hE.fn Tryz.func35) O O O (fun R=>?_)
 simp only[dR,uV,uW]
 refine gg16 ?_
 refine jD (fun q:PcG=>[(0,uPt bx),(6,.slice q.q q.out.length q.d),(7,.slice q.p q.st.length q.c)]) (fun q=>[bR s most Es,cells bx [uPt s,.map (some bm),.map (some bp)] 140,mapF bm .i64 (mapN f),mapF bp .i64 (jM K P X),bag K P X,sl q.p q.c 24 1 q.st.length (idC q.st),sl q.q q.d 45 4 q.out.length (pxC q.out),R]) (fun q=>q.out++(q.st.reverse.flatMap (pcs (rls Es) f))=pcs (rls Es) f b∧(∀x∈q.st,1≤x∧x≤(rls Es).length)∧stM (rls Es) q.st≤200000∧(q.out=[]→q.q=none∧q.d=0)) ?_ ?_
 ·refine gg6 ?_
  refine bE O (fun h0=>?_) (fun h0=>?_)
  ·refine jR (gZ (t:=24) (sz:=1)) ?_
   refine jR (gZ (t:=45) (sz:=4)) ?_
   refine gg3 ?_
   refine uU ?_
   refine aU (hE.t O) (hE.t O) O O O (fun b18=>?_)
   refine uU ?_
   apply bU (hE.t O) (hE.t O) O O O
   ·exact uK
   ·exact uK
   ·rfl
   ·rfl
   ·omega
   ·omega
   ·(unfold maxLen;omega)
   intro g19 c19 n19 x19 hn19 hx19
   refine gg2 ?_
   refine eG (ι:=PcG) ⟨[b],[],some ⟨g19,0,none⟩,c19,none,0⟩ ⟨by simp,fun x hx=>by simp at hx;subst hx;exact⟨oO,oO⟩,by simp only[qLf];omega,fun _=>⟨rfl,rfl⟩⟩ ⟨rfl,rfl,by rw[hn19];rfl,trivial⟩ ?_
   rw[hn19,hx19]
   exact uI
  obtain rfl:b=0:=by omega
  refine jR (gZ (t:=24) (sz:=1)) ?_
  refine jR (gZ (t:=45) (sz:=4)) ?_
  refine gg1 ?_
  refine eG (ι:=PcG) ⟨[],[],none,0,none,0⟩ ⟨by simp[qEz],fun x hx=>by simp at hx,by simp[stM],fun _=>⟨rfl,rfl⟩⟩ ⟨rfl,rfl,rfl,trivial⟩ ?_
  exact uI
 rintro⟨st,out,p,c,q,d⟩⟨hI0,hI1,hI2,hI3⟩
 simp only at hI0 hI1 hI2 hI3 ⊢
 refine gg2 ?_
 refine dV (fun q:PcG=>[(0,uPt bx),(6,.slice q.q q.out.length q.d),(7,.slice q.p q.st.length q.c)]) (fun q=>[bR s most Es,cells bx [uPt s,.map (some bm),.map (some bp)] 140,mapF bm .i64 (mapN f),mapF bp .i64 (jM K P X),bag K P X,sl q.p q.c 24 1 q.st.length (idC q.st),sl q.q q.d 45 4 q.out.length (pxC q.out),R]) (fun q=>stM (rls Es) q.st) (fun q=>q.out++(q.st.reverse.flatMap (pcs (rls Es) f))=pcs (rls Es) f b∧(∀x∈q.st,1≤x∧x≤(rls Es).length)∧stM (rls Es) q.st≤200000∧(q.out=[]→q.q=none∧q.d=0)) ⟨st,out,p,c,q,d⟩ ⟨hI0,hI1,hI2,hI3⟩ ⟨O,O,O,trivial⟩ uI ?_
 clear hI0 hI1 hI2 hI3 st out p c q d
 rintro⟨st,out,p,c,q,d⟩⟨hI0,hI1,hI2,hI3⟩
 simp only at hI0 hI1 hI2 hI3 ⊢
 have hstl:=stM_len hw hI1
 have houtl:=congrArg List.length hI0
 simp only[List.length_append]at houtl
 refine gg8 ?_
 refine bE O (fun h=>?_) (fun h=>?_)
 ·obtain⟨ini,x,rfl⟩:∃ini x,st=ini++[x]:=by
   rcases List.eq_nil_or_concat st with rfl|⟨ini,x,rfl⟩
   ·simp at h
   exact⟨ini,x,by rw[List.concat_eq_append]⟩
  have hil:(ini++[x]).length=ini.length+1:=by simp
  have hini:∀y∈ini,1≤y∧y≤(rls Es).length:=fun y hy=>hI1 y (by simp[hy])
  have hxx:=hI1 x (by simp)
  rw[xW,qLf]at hI2
  rw[List.reverse_append]at hI0
  simp only[List.reverse_cons,List.reverse_nil,List.nil_append,List.cons_append,List.flatMap_cons]at hI0
  obtain⟨i,rfl⟩:∃i,x=i+1:=⟨x-1,oO⟩
  obtain⟨en,hent⟩:∃y,Es[i]?=some y:=⟨_,List.getElem?_eq_getElem oO⟩
  have hri:(rls Es)[i]?=some en.r:=tC hent
  have htl:en.t.length=len (rls Es) (i+1):=by rw[hsay.2.1 i en hent];rfl
  have hlp:=qQ hw (i+1) oO oO
  have hsm:stM (rls Es) (ini++[i+1])=stM (rls Es) ini+(2*len (rls Es) (i+1)-1):=by rw[xW,qLf]
  refine jU (p:=sl p c 24 1 (ini++[i+1]).length (idC (ini++[i+1]))) uK (fun _ h=>And.intro (fB h oO) (qZ h).1) ?_
  rintro⟨⟨g,rfl⟩,hcap⟩
  have f0:=jL (l:=ini++[i+1]) (i:=ini.length) (x:=i+1) (by simp) ((((ini++[i+1]).length:Nat):Int)-1).toNat oO
  refine gg20 ?_
  refine uB (gM ini.length O O (hE.t O) oO oO) ?_
  refine gg3 ?_
  refine jR (cK (p:=sl (some ⟨g,0,none⟩) c 24 1 (ini++[i+1]).length (idC (ini++[i+1]))) (p':=sl (some ⟨g,0,none⟩) c 24 1 ini.length (idC ini)) uK (nT oO (by rw[iK,List.take_append_of_le_length (by simp[idC])];exact List.take_of_length_le (by simp[idC])) (by simp))) ?_
  refine gg7 ?_
  refine uX (pF hE hent) O ?_
  rintro _ _⟨rfl,rfl⟩
  simp only[uV,uW]
  refine gg3 ?_
  refine uU (cZ (hE.t O) (fun b9=>?_))
  refine gg21 ?_
  refine uX (lQ hE hent) O ?_
  rintro _ _⟨rfl,rfl⟩
  simp only[uV,uW]
  rw[htl]
  refine gg3 ?_
  refine uU (cZ (hE.t O) (fun b11=>?_))
  refine gg19 ?_
  refine uX (ct_find (f:=f) hE hI) O ?_
  rintro _ _⟨rfl,rfl⟩
  simp only[uV,uW]
  cases hfd:fnd (rls Es) f (i+1) en.r with
  |some a=>
   have hpc:=pcs_fnd hri hfd
   rw[hpc]at hI0
   simp only[Option.getD_some,Option.isSome_some]
   refine gg22 ?_
   refine uU ?_
   refine aU (hE.t O) (hE.t O) O O O (fun b77=>?_)
   refine uU ?_
   apply bU (hE.t O) (hE.t O) O O O
   ·exact uK
   ·exact uK
   ·rfl
   ·rfl
   ·omega
   ·omega
   ·(unfold maxLen;omega)
   intro g78 c78 n78 x78 hn78 hx78
   refine gg11 ?_
   obtain rfl:x78=pxC (out++[.copy a (len (rls Es) (i+1))]):=by rw[hx78,jF];rfl
   obtain rfl:n78=(out++[Px.copy a (len (rls Es) (i+1))]).length:=by simp;omega
   rw[←List.append_assoc]at hI0
   refine bE O (fun hbig=>?_) (fun hbig=>?_)
   ·exfalso
    have hol:(out++[Px.copy a (len (rls Es) (i+1))]).length=out.length+1:=by simp
    have:=congrArg List.length hI0
    rw[List.length_append,hol]at this
    omega
   refine gg2 ?_
   refine bS (ι:=PcG) (j:=⟨ini,out++[Px.copy a (len (rls Es) (i+1))],some ⟨g,0,none⟩,c,some ⟨g78,0,none⟩,c78⟩) ⟨hI0,hini,by simp only;omega,fun h=>by simp at h⟩ (by simp only;omega) ⟨rfl,rfl,rfl,trivial⟩ uI
  |none=>
   simp only[Option.getD_none,Option.isSome_none]
   refine gg24 ?_
   generalize en.r=r at hri hfd ⊢
   cases r with
   |letter l=>
    rw[qMu hri hfd (fun _ _ e=>by cases e)]at hI0
    rw[←List.append_assoc]at hI0
    refine bE O (fun h2=>?_) (fun h2=>?_)
    ·exfalso;simp[Rl.kind]at h2
    refine gg4 ?_
    refine uU ?_
    refine aU (hE.t O) (hE.t O) O O O (fun b68=>?_)
    refine uU ?_
    apply bU (hE.t O) (hE.t O) O O O
    ·exact uK
    ·exact uK
    ·rfl
    ·rfl
    ·omega
    ·omega
    ·(unfold maxLen;omega)
    intro g69 c69 n69 x69 hn69 hx69
    refine gg11 ?_
    obtain rfl:x69=pxC (out++[.text (i+1)]):=by rw[hx69,jF];rfl
    obtain rfl:n69=(out++[Px.text (i+1)]).length:=by simp;omega
    refine bE O (fun hbig=>?_) (fun hbig=>?_)
    ·exfalso
     have hol:(out++[Px.text (i+1)]).length=out.length+1:=by simp
     have:=congrArg List.length hI0
     rw[List.length_append,hol]at this
     omega
    refine gg2 ?_
    refine bS (ι:=PcG) (j:=⟨ini,out++[Px.text (i+1)],some ⟨g,0,none⟩,c,some ⟨g69,0,none⟩,c69⟩) ⟨hI0,hini,by simp only;omega,fun h=>by simp at h⟩ (by simp only;omega) ⟨rfl,rfl,rfl,trivial⟩ uI
   |power y t=>
    rw[qMu hri hfd (fun _ _ e=>by cases e)]at hI0
    rw[←List.append_assoc]at hI0
    refine bE O (fun h2=>?_) (fun h2=>?_)
    ·exfalso;simp[Rl.kind]at h2
    refine gg4 ?_
    refine uU ?_
    refine aU (hE.t O) (hE.t O) O O O (fun b68=>?_)
    refine uU ?_
    apply bU (hE.t O) (hE.t O) O O O
    ·exact uK
    ·exact uK
    ·rfl
    ·rfl
    ·omega
    ·omega
    ·(unfold maxLen;omega)
    intro g69 c69 n69 x69 hn69 hx69
    refine gg11 ?_
    obtain rfl:x69=pxC (out++[.text (i+1)]):=by rw[hx69,jF];rfl
    obtain rfl:n69=(out++[Px.text (i+1)]).length:=by simp;omega
    refine bE O (fun hbig=>?_) (fun hbig=>?_)
    ·exfalso
     have hol:(out++[Px.text (i+1)]).length=out.length+1:=by simp
     have:=congrArg List.length hI0
     rw[List.length_append,hol]at this
     omega
    refine gg2 ?_
    refine bS (ι:=PcG) (j:=⟨ini,out++[Px.text (i+1)],some ⟨g,0,none⟩,c,some ⟨g69,0,none⟩,c69⟩) ⟨hI0,hini,by simp only;omega,fun h=>by simp at h⟩ (by simp only;omega) ⟨rfl,rfl,rfl,trivial⟩ uI
   |pair l r=>
    have hk:=hw.ok _ _ hri
    have hlr:=yZ hri hk
    rw[qMt hw (qMj hfd) hri,List.append_assoc]at hI0
    obtain⟨k1,k2,k3,k4⟩:=hk
    have l1:=qQ hw l k1 oO
    have l2:=qQ hw r k3 oO
    have hsm2:stM (rls Es) (ini++[r,l])=stM (rls Es) ini+((2*len (rls Es) r-1)+(2*len (rls Es) l-1)):=by rw[xW,stM_two]
    refine bE O (fun h2=>?_) (fun h2=>?_)
    ·refine gg6 ?_
     refine uU ?_
     refine aU (hE.t O) (hE.t O) O O O (fun b88=>?_)
     refine uU ?_
     apply bU (hE.t O) (hE.t O) O O O
     ·exact uK
     ·exact uK
     ·rfl
     ·rfl
     ·omega
     ·omega
     ·(unfold maxLen;omega)
     intro g89 c89 n89 x89 hn89 hx89
     refine gg11 ?_
     obtain rfl:x89=idC (ini++[r,l]):=by rw[hx89,iK];rfl
     obtain rfl:n89=(ini++[r,l]).length:=by simp;omega
     refine bE O (fun hbig=>?_) (fun hbig=>?_)
     ·exfalso;omega
     refine gg2 ?_
     refine bS (ι:=PcG) (j:=⟨ini++[r,l],out,some ⟨g89,0,none⟩,c89,q,d⟩) ⟨by simpa using hI0,fun y hy=>?_,by simp only;omega,hI3⟩ (by simp only;omega) ⟨rfl,rfl,rfl,trivial⟩ uI
     rcases List.mem_append.1 hy with hy|hy
     ·exact hini y hy
     simp at hy
     rcases hy with rfl|rfl<;>constructor <;>omega
    exfalso;simp[Rl.kind]at h2
 obtain rfl:st=[]:=List.eq_nil_of_length_eq_zero oO
 have hd:out=pcs (rls Es) f b:=by simpa using hI0
 subst hd
 refine gg13 ?_
 exact uZ O (.tmp O (.tmp O .nil)) ⟨q,d,O,hI3,O⟩
end
section
variable {E:Env}{Es:List Ent}{pp tb s most:Nat}
theorem qIr {l:List Px}{i:Nat}{x:Px}(h:l[i]?=some x)(o:Nat)(ho:o=0+i*4):(pxC l)[o]?=some (.bool x.cp)∧(pxC l)[o+1]?=some (.int .i64 (x.fr:Nat))∧(pxC l)[o+1+1]?=some (.int .i64 (x.nn:Nat))∧(pxC l)[o+1+1+1]?=some (.int .i64 (x.tx:Nat)):=by
 subst ho
 induction l generalizing i with
 |nil=>simp at h
 |cons q l ih=>
  cases i with
  |zero=>simp at h;subst h;exact⟨rfl,rfl,rfl,rfl⟩
  |succ i=>
   rw[List.getElem?_cons_succ]at h
   have:=ih h
   rw[show 0+(i+1)*4=(0+i*4)+1+1+1+1 by omega]
   exact this
theorem qHg (hE:Seat E){x:Px}{N:Nat}(hx:x.ok (rls Es) N):Ct E 55 [uPt pp,.agg ⟨pxV x⟩] [cells pp [uPt s,uPt tb] 86,tabP tb s (rls Es),bR s most Es] (fun v Q=>v= .tuple #[.int .i64 (x.size (rls Es):Nat),.nilIface]∧Q=[cells pp [uPt s,uPt tb] 86,tabP tb s (rls Es),bR s most Es]):=by
 cases x with
 |copy f n=>
  refine bO (hE.fn Tryz.func55) O O O (fun R=>?_)
  simp only[dR,uV,uW]
  refine gg2 ?_
  refine uU ?_
  refine jC O (fun b3=>?_)
  refine gg22 ?_
  exact uZ O (.tmp O (.tmp O .nil)) ⟨O,O⟩
 |text y=>
  obtain⟨h0,hsn⟩:=hx
  have hle:=hsn.gd.1
  have hLl:=bQ Es
  obtain⟨i,rfl⟩:∃i,y=i+1:=⟨y-1,oO⟩
  obtain⟨en,hent⟩:∃y,Es[i]?=some y:=⟨_,List.getElem?_eq_getElem oO⟩
  refine fF (p:=bR s most Es) uK (fun _ h=>dQ h) (fun hsay=>?_)
  have htl:en.t.length=len (rls Es) (i+1):=by rw[hsay.2.1 i en hent];rfl
  refine bO (hE.fn Tryz.func55) O O O (fun R=>?_)
  simp only[dR,uV,uW]
  refine gg2 ?_
  refine uU ?_
  refine jC O (fun b3=>?_)
  refine gg15 ?_
  refine uN 10 ([cells b3 (pxV (.text (i+1))) 45]) ?_
  refine gg1 ?_
  refine uT 2 O (uBf O) ?_
  refine gg1 ?_
  apply qEt 1 8 O O oK O O
  ·refine uC (gQ hE) O ?_
   rintro _ _⟨rfl,rfl⟩
   simp only[uV,uW]
   refine uE ?_
   apply qEt 4 8 O O oK O O
   ·refine uC (lQ hE hent) O ?_
    rintro _ _⟨rfl,rfl⟩
    simp only[uV,uW]
    rw[htl]
    refine uE ?_
    refine uT 5 O (aB O) ?_
    refine gg2 ?_
    apply dX 8 O oK O
    refine cZ (hE.t O) (fun b6=>?_)
    refine uE ?_
    apply dX 9 O oK O
    refine uS ?_
    refine uE ?_
    apply dF 10 O oK
    ·exact aC O
    ·rfl
    refine gg12 ?_
    exact uZ O (.tmp O (.tmp O .nil)) ⟨O,O⟩
   refine cZ (hE.t O) (fun b6=>?_)
   refine uE ?_
   apply dX 4 O oK O
   refine uC (lQ hE hent) O ?_
   rintro _ _⟨rfl,rfl⟩
   simp only[uV,uW]
   rw[htl]
   refine uE ?_
   apply dF 5 O oK
   ·exact aB O
   ·rfl
   refine gg2 ?_
   apply dX 9 O oK O
   refine uS ?_
   refine uE ?_
   apply dF 10 O oK
   ·exact aC O
   ·rfl
   refine gg12 ?_
   exact uZ O (.tmp O (.tmp O .nil)) ⟨O,O⟩
  refine cZ (hE.t O) (fun b6=>?_)
  refine uE ?_
  apply dX 1 O oK O
  refine uC (gQ hE) O ?_
  rintro _ _⟨rfl,rfl⟩
  simp only[uV,uW]
  refine uE ?_
  apply dX 4 O oK O
  refine uC (lQ hE hent) O ?_
  rintro _ _⟨rfl,rfl⟩
  simp only[uV,uW]
  rw[htl]
  refine uE ?_
  apply dF 5 O oK
  ·exact aB O
  ·rfl
  refine gg2 ?_
  apply dX 9 O oK O
  refine uS ?_
  refine uE ?_
  apply dF 10 O oK
  ·exact aC O
  ·rfl
  refine gg12 ?_
  exact uZ O (.tmp O (.tmp O .nil)) ⟨O,O⟩
theorem zS (hE:Seat E)(hB:Base E.w0){x:Nat}(hg:good (rls Es) x):Ct E 83 [uPt pp,.int .i64 (x:Nat)] [cells pp [uPt s,uPt tb] 86,tabP tb s (rls Es),bR s most Es] (fun v Q=>v= .tuple #[.int .i64 (len (rls Es) x:Nat),.nilIface]∧Q=[cells pp [uPt s,uPt tb] 86,tabP tb s (rls Es),bR s most Es]):=by
 have hle:=hg.1
 have hLl:=bQ Es
 rcases Nat.eq_zero_or_pos x with rfl|h0
 ·refine bO (hE.fn Tryz.func83) O O O (fun R=>?_)
  simp only[dR,uV,uW]
  refine gg15 ?_
  refine uX (gQ hE) O ?_
  rintro _ _⟨rfl,rfl⟩
  simp only[uV,uW]
  refine gg11 ?_
  refine uX (gQ hE) O ?_
  rintro _ _⟨rfl,rfl⟩
  simp only[uV,uW]
  refine gg1 ?_
  refine uX (qCk hE) O ?_
  rintro _ _⟨rfl,rfl⟩
  simp only[uV,uW]
  refine gg3 ?_
  refine uU (cZ (hE.t O) (fun b6=>?_))
  refine gg19 ?_
  refine uX (qD hE hB hg) O ?_
  rintro _ _⟨rfl,rfl⟩
  simp only[uV,uW]
  refine gg25 ?_
  exact uZ O (.tmp O (.tmp O .nil)) ⟨O,O⟩
 obtain⟨i,rfl⟩:∃i,x=i+1:=⟨x-1,oO⟩
 obtain⟨en,hent⟩:∃y,Es[i]?=some y:=⟨_,List.getElem?_eq_getElem oO⟩
 refine fF (p:=bR s most Es) uK (fun _ h=>dQ h) (fun hsay=>?_)
 have htl:en.t.length=len (rls Es) (i+1):=by rw[hsay.2.1 i en hent];rfl
 refine bO (hE.fn Tryz.func83) O O O (fun R=>?_)
 simp only[dR,uV,uW]
 refine gg15 ?_
 refine uX (gQ hE) O ?_
 rintro _ _⟨rfl,rfl⟩
 simp only[uV,uW]
 refine gg11 ?_
 refine uX (gQ hE) O ?_
 rintro _ _⟨rfl,rfl⟩
 simp only[uV,uW]
 refine gg1 ?_
 refine uX (lQ hE hent) O ?_
 rintro _ _⟨rfl,rfl⟩
 simp only[uV,uW]
 rw[htl]
 refine gg3 ?_
 refine uU (cZ (hE.t O) (fun b6=>?_))
 refine gg19 ?_
 refine uX (qD hE hB hg) O ?_
 rintro _ _⟨rfl,rfl⟩
 simp only[uV,uW]
 refine gg25 ?_
 exact uZ O (.tmp O (.tmp O .nil)) ⟨O,O⟩
theorem qEa (hE:Seat E)(hB:Base E.w0){x:Px}{N:Nat}(hN:N≤100000)(hx:x.ok (rls Es) N):Ct E 84 [uPt pp,.int .i64 (N:Nat),.agg ⟨pxV x⟩] [cells pp [uPt s,uPt tb] 86,tabP tb s (rls Es),bR s most Es] (fun v Q=>v= .nilIface∧Q=[cells pp [uPt s,uPt tb] 86,tabP tb s (rls Es),bR s most Es]):=by
 cases x with
 |copy f n=>
  obtain⟨h1,h2⟩:=hx
  refine bO (hE.fn Tryz.func84) O O O (fun R=>?_)
  simp only[dR,uV,uW]
  refine gg2 ?_
  refine uU ?_
  refine jC O (fun b5=>?_)
  refine gg18 ?_
  refine dS 14 O (fun h3=>?_) (fun h3=>?_)
  ·exfalso;simp[Px.tx]at h3
  refine gg9 ?_
  refine bE O (fun h4=>?_) (fun h4=>?_)
  ·exfalso;simp only[Px.nn]at h4;omega
  refine gg9 ?_
  refine uX (ct_lnRng (f:=f) (n:=n) (l:=N) hE oO h2) O ?_
  rintro _ _⟨rfl,rfl⟩
  simp only[uV,uW]
  refine gg5 ?_
  exact uZ O (.tmp O .nil) ⟨O,O⟩
 |text y=>
  obtain⟨h0,hsn⟩:=hx
  refine bO (hE.fn Tryz.func84) O O O (fun R=>?_)
  simp only[dR,uV,uW]
  refine gg2 ?_
  refine uU ?_
  refine jC O (fun b5=>?_)
  refine gg20 ?_
  refine dS 29 O (fun h3=>?_) (fun h3=>?_)
  ·exfalso;simp[Px.fr]at h3
  refine gg8 ?_
  refine dS 34 O (fun h4=>?_) (fun h4=>?_)
  ·exfalso;simp[Px.nn]at h4
  refine gg9 ?_
  refine bE O (fun h5=>?_) (fun h5=>?_)
  ·exfalso;simp only[Px.tx]at h5;omega
  refine gg7 ?_
  refine uX (qD hE hB hsn.gd) O ?_
  rintro _ _⟨rfl,rfl⟩
  simp only[uV,uW]
  refine gg14 ?_
  exact uZ O (.tmp O .nil) ⟨O,O⟩
theorem asz_take {L:List Rl}{D:List Px}{i:Nat}{x:Px}(h:D[i]?=some x):asz L (D.take (i+1))=asz L (D.take i)+x.size L:=by
 rw[List.take_add_one,h,wN]
 simp[asz]
theorem qJu (L:List Rl)(D:List Px)(i:Nat):asz L (D.take i)≤asz L D:=by
 have:=wN L (D.take i) (D.drop i)
 rw[List.take_append_drop]at this
 omega
theorem ct_Check (hE:Seat E)(hB:Base E.w0){base g c:Nat}{D:List Px}(hg:good (rls Es) base)(hbl:len (rls Es) base≤100000)(hD:∀x∈D,x.ok (rls Es) (len (rls Es) base)) (hn:D.length≤100000) (hsz:asz (rls Es) D≤1000000):
  Ct E 52 [uPt pp,.int .i64 (base:Nat),.slice (some ⟨g,0,none⟩) D.length c] [cells pp [uPt s,uPt tb] 86,tabP tb s (rls Es),bR s most Es,sl (some ⟨g,0,none⟩) c 45 4 D.length (pxC D)] (fun v Q=>v= .nilIface∧Q=[cells pp [uPt s,uPt tb] 86,tabP tb s (rls Es),bR s most Es,sl (some ⟨g,0,none⟩) c 45 4 D.length (pxC D)]):=by
 have hmx:dB=1152921504606846976:=rfl
 refine bO (hE.fn Tryz.func52) O O O (fun R=>?_)
 simp only[dR,uV,uW]
 refine gg9 ?_
 refine uX (zS hE hB hg) O ?_
 rintro _ _⟨rfl,rfl⟩
 simp only[uV,uW]
 refine gg26 ?_
 refine dV (fun k:Nat=>[(0,uPt pp),(2,.slice (some ⟨g,0,none⟩) D.length c),(7,.int .i64 (len (rls Es) base:Nat)),(26,.slice (some ⟨g,0,none⟩) D.length c),(27,.int .i64 (D.length:Nat)),(28,.int .i64 (k:Nat))]) (fun _=>[cells pp [uPt s,uPt tb] 86,tabP tb s (rls Es),bR s most Es,sl (some ⟨g,0,none⟩) c 45 4 D.length (pxC D),R]) (fun k=>D.length-k) (fun k=>k≤D.length) 0 (Nat.zero_le _) ⟨O,O,O,O,O,O,trivial⟩ uI ?_
 intro k hk
 refine gg6 ?_
 refine bE O (fun hlt=>?_) (fun hlt=>?_)
 ·obtain⟨x,hx⟩:∃x,D[k]?=some x:=⟨_,List.getElem?_eq_getElem oO⟩
  have hok:=hD x (List.mem_of_getElem? hx)
  obtain⟨f0,f1,f2,f3⟩:=qIr hx (0+((k:Nat):Int).toNat*4) oO
  refine gg8 ?_
  refine uU (cZ (hE.t O) (fun b10=>?_))
  refine gg8 ?_
  refine uX (qEa (x:=x) hE hB hbl hok) O ?_
  rintro _ _⟨rfl,rfl⟩
  simp only[uV,uW]
  refine gg17 ?_
  refine iO 28 (.int .i64 ((k+1:Nat):Int)) O (bW oO) ?_
  refine bS (ι:=Nat) (j:=k+1) oO (by show D.length-(k+1)<D.length-k;omega) ⟨O,O,O,O,O,O,trivial⟩ uI
 obtain rfl:k=D.length:=by omega
 refine gg19 ?_
 refine dV (fun k:Nat=>[(0,uPt pp),(12,.int .i64 (asz (rls Es) (D.take k):Nat)),(40,.slice (some ⟨g,0,none⟩) D.length c),(41,.int .i64 (D.length:Nat)),(42,.int .i64 (k:Nat))]) (fun _=>[cells pp [uPt s,uPt tb] 86,tabP tb s (rls Es),bR s most Es,sl (some ⟨g,0,none⟩) c 45 4 D.length (pxC D),R]) (fun k=>D.length-k) (fun k=>k≤D.length) 0 (Nat.zero_le _) ⟨O,O,O,O,O,trivial⟩ uI ?_
 intro k hk
 refine gg6 ?_
 refine bE O (fun hlt=>?_) (fun hlt=>?_)
 ·obtain⟨x,hx⟩:∃x,D[k]?=some x:=⟨_,List.getElem?_eq_getElem oO⟩
  have hok:=hD x (List.mem_of_getElem? hx)
  have eT:=asz_take (L:=rls Es) hx
  have hTl:=qJu (rls Es) D (k+1)
  obtain⟨f0,f1,f2,f3⟩:=qIr hx (0+((k:Nat):Int).toNat*4) oO
  refine gg8 ?_
  refine uU (cZ (hE.t O) (fun b14=>?_))
  refine gg7 ?_
  refine uX (qHg (x:=x) hE hok) O ?_
  rintro _ _⟨rfl,rfl⟩
  simp only[uV,uW]
  refine gg21 ?_
  refine uX (qQv hE oO) O ?_
  rintro _ _⟨rfl,rfl⟩
  simp only[uV,uW]
  refine gg21 ?_
  rw[←eT]
  refine iO 42 (.int .i64 ((k+1:Nat):Int)) O (bW oO) ?_
  refine bS (ι:=Nat) (j:=k+1) oO (by show D.length-(k+1)<D.length-k;omega) ⟨O,O,O,O,O,trivial⟩ uI
 refine gg11 ?_
 exact uZ O (.tmp O .nil) ⟨O,O⟩
theorem qQl (hE:Seat E)(hB:Base E.w0){base:Nat}(hg:good (rls Es) base):
  Ct E 52 [uPt pp,.int .i64 (base:Nat),.slice none 0 0] [cells pp [uPt s,uPt tb] 86,tabP tb s (rls Es),bR s most Es] (fun v Q=>v= .nilIface∧Q=[cells pp [uPt s,uPt tb] 86,tabP tb s (rls Es),bR s most Es]):=by
 refine bO (hE.fn Tryz.func52) O O O (fun R=>?_)
 simp only[dR,uV,uW]
 refine gg9 ?_
 refine uX (zS hE hB hg) O ?_
 rintro _ _⟨rfl,rfl⟩
 simp only[uV,uW]
 refine gg26 ?_
 refine jW 1 ?_
 refine gg27 ?_
 refine jW 1 ?_
 refine gg19 ?_
 exact uZ O (.tmp O .nil) ⟨O,O⟩
end
section
variable {E:Env}{Es:List Ent}{pp tb s most:Nat}
theorem take_succ {α:Type}{D:List α}{i:Nat}{x:α}(h:D[i]?=some x):D.take (i+1)=D.take i++[x]:=by rw[List.take_add_one,h];rfl
theorem qEx {L:List Rl}{D:List Px}{i:Nat}{x:Px}(h:D[i]?=some x):nrm ((D.take (i+1)).map (Px.out L))=addP (nrm ((D.take i).map (Px.out L))) (x.out L):=by
 rw[take_succ h,List.map_append,List.map_cons,List.map_nil,nrm_snoc]
theorem qFy {L:List Rl}{D:List Px}{i:Nat}{x:Px}(h:D[i]?=some x):tsz L (D.take (i+1))=tsz L (D.take i)+x.tsize L:=by
 rw[take_succ h,qDp];simp[tsz]
theorem qLi (L:List Rl)(D:List Px)(i:Nat):tsz L (D.take i)≤tsz L D:=by
 have:=qDp L (D.take i) (D.drop i)
 rw[List.take_append_drop]at this
 omega
structure Jn (Es:List Ent)(N:Nat)(D:List Px)(i:Nat)(M:List Ent)(out:List Px):Prop where
 eq:out.map (Px.out (rls (Es++M)))=nrm ((D.take i).map (Px.out (rls (Es++M))))
 ok:∀x∈out,x.ok (rls (Es++M)) N
 len:out.length≤i
 room:M.length≤D.length*tsz (rls Es) (D.take i)
def JnF (D:List Px)(i:Nat)(out:List Px):Prop:=∀y z,out.getLast?=some y→D[i]?=some z→¬pjn y z
theorem Jn.text {Es M M1:List Ent}{N i j id:Nat}{D out:List Px}{F:List UInt8}(h:Jn Es N D i M out)(hD':∀x∈D,x.ok (rls (Es++M)) N) (hij:i<j) (h7:nrm ((D.take j).map (Px.out (rls (Es++M))))=out.map (Px.out (rls (Es++M)))++[.text F]) (h8:tsz (rls Es) (D.take j)=tsz (rls Es) (D.take i)+F.length) (hid:id≠0) (hsn:Sn (rls (Es++(M++M1))) F id) (hM1:M1.length≤D.length*F.length):Jn Es N D j (M++M1) (out++[.text id]):=by
 obtain⟨j1,j2,j3,j4⟩:=h
 have e:rls (Es++(M++M1))=rls (Es++M)++rls M1:=by rw[←List.append_assoc,dA]
 obtain⟨a1,a2⟩:=Px.ok.exts (rls M1) j2
 obtain⟨b1,b2⟩:=Px.ok.exts (rls M1) (D:=D.take j) fun x hx=>hD' x (List.mem_of_mem_take hx)
 refine⟨?_,fun x hx=>?_,by simp;omega,?_⟩
 ·rw[List.map_append,e,a2,b2,h7]
  simp only[List.map_cons,List.map_nil,Px.out]
  rw[←e,hsn.tx]
 ·rcases List.mem_append.1 hx with hx|hx
  ·rw[e];exact a1 x hx
  simp at hx
  subst hx
  exact⟨hid,by rw[hsn.tx];exact hsn⟩
 rw[List.length_append,h8,Nat.mul_add]
 omega
theorem flat_ne {L:List Rl}(hw:Wf L){T:List Nat}{y:Nat}(hy:T.head?=some y)(h0:y≠0)(h:Sns L (T.map (txt L)) T):(T.map (txt L)).flatten≠[]:=by
 cases T with
 |nil=>simp at hy
 |cons a T=>
  simp at hy
  subst hy
  rw[List.map_cons]at h ⊢
  cases h with
  |cons h1 _=>
   have:=(h1.parts hw h0).2.2
   intro e
   rw[List.flatten_cons]at e
   have e2:=(List.append_eq_nil_iff.1 e).1
   rw[e2]at this
   simp at this
structure JoG where
 i:Nat
 out:List Px
 M:List Ent
 q:Option Addr
 d:Nat
structure JiG where
 j:Nat
 T:List Nat
 q:Option Addr
 d:Nat
theorem ct_djoin (hE:Seat E)(hB:Base E.w0){N g c:Nat}{D:List Px}(hN:N≤100000)(hD:∀x∈D,x.ok (rls Es) N) (hn:D.length≤100000) (hsz:tsz (rls Es) D≤1000000) (hroom:Es.length+D.length*tsz (rls Es) D≤most):
  Ct E 60 [uPt pp,.slice (some ⟨g,0,none⟩) D.length c] [cells pp [uPt s,uPt tb] 86,tabP tb s (rls Es),bR s most Es,sl (some ⟨g,0,none⟩) c 45 4 D.length (pxC D)]
   (fun v Q=>∃M out q d,v= .tuple #[.slice q out.length d,.nilIface]∧Jn Es N D D.length M out∧Q=[cells pp [uPt s,uPt tb] 86,tabP tb s (rls (Es++M)),bR s most (Es++M),sl (some ⟨g,0,none⟩) c 45 4 D.length (pxC D),sl q d 45 4 out.length (pxC out)]):=by
 have hmx:dB=1152921504606846976:=rfl
 refine bO (hE.fn Tryz.func60) O O O (fun R=>?_)
 simp only[dR,uV,uW]
 refine gg18 ?_
 refine jR (gZ (t:=45) (sz:=4)) ?_
 refine dV (fun x:JoG=>[(0,uPt pp),(1,.slice (some ⟨g,0,none⟩) D.length c),(6,.slice x.q x.out.length x.d),(7,.int .i64 (x.i:Nat))]) (fun x=>[cells pp [uPt s,uPt tb] 86,tabP tb s (rls (Es++x.M)),bR s most (Es++x.M),sl (some ⟨g,0,none⟩) c 45 4 D.length (pxC D),sl x.q x.d 45 4 x.out.length (pxC x.out),R]) (fun x=>D.length-x.i) (fun x=>x.i≤D.length∧Jn Es N D x.i x.M x.out∧JnF D x.i x.out) ⟨0,[],[],none,0⟩ ⟨Nat.zero_le _,⟨O,fun x h=>by simp at h,Nat.le_refl _,Nat.zero_le _⟩,fun y z h=>by simp at h⟩ ⟨rfl,rfl,rfl,rfl,trivial⟩ (by simp only[List.append_nil];(apply ent;(repeat constructor);done)) ?_
 rintro⟨i,out,M,q,d⟩⟨hi,hJ,hF⟩
 simp only at hi hJ hF ⊢
 obtain⟨j1,j2,j3,j4⟩:=hJ
 have eL:=dA Es M
 have hDx:=Px.ok.exts (rls M) hD
 rw[←eL]at hDx
 obtain⟨hD',hDo⟩:=hDx
 refine gg9 ?_
 refine bE O (fun hlt=>?_) (fun hlt=>?_)
 ·obtain⟨x,hx⟩:∃x,D[i]?=some x:=⟨_,List.getElem?_eq_getElem oO⟩
  have hok:=hD' x (List.mem_of_getElem? hx)
  have hok0:=hD x (List.mem_of_getElem? hx)
  obtain⟨f0,f1,f2,f3⟩:=qIr hx (0+((i:Nat):Int).toNat*4) oO
  have hst:nrm ((D.take (i+1)).map (Px.out (rls (Es++M))))=(out++[x]).map (Px.out (rls (Es++M))):=by
   rw[qEx hx,←j1]
   exact addP_pjn fun y hy=>hF y x hy hx
  have hts:=qFy (L:=rls Es) hx
  refine gg9 ?_
  refine uU (cZ (hE.t O) (fun b8=>?_))
  refine gg17 ?_
  clear f0 f1 f2 f3
  cases x with
  |copy f n=>
   obtain⟨h1,h2⟩:=hok
   refine gg3 ?_
   refine dV (fun y:Nat×Nat=>[(0,uPt pp),(1,.slice (some ⟨g,0,none⟩) D.length c),(6,.slice q out.length d),(7,.int .i64 (y.1:Nat)),(8,uPt b8)]) (fun y=>[cells b8 (pxV (.copy f y.2)) 45,cells pp [uPt s,uPt tb] 86,tabP tb s (rls (Es++M)),bR s most (Es++M),sl (some ⟨g,0,none⟩) c 45 4 D.length (pxC D),sl q d 45 4 out.length (pxC out),R]) (fun y=>D.length-y.1) (fun y=>i<y.1∧y.1≤D.length∧1≤y.2∧f+y.2≤N∧nrm ((D.take y.1).map (Px.out (rls (Es++M))))=(out++[Px.copy f y.2]).map (Px.out (rls (Es++M)))∧tsz (rls Es) (D.take y.1)=tsz (rls Es) (D.take i)) (i+1,n) ⟨by simp only;omega,by simp only;omega,h1,h2,hst,by simp only;rw[hts];rfl⟩ ⟨rfl,rfl,rfl,congrArg some (bW (by simp only;omega)),rfl,trivial⟩ uI ?_
   rintro⟨j,m⟩⟨k1,k2,k3,k4,k5,k6⟩
   simp only at k1 k2 k3 k4 k5 k6 ⊢
   have fin:(∀z,D[j]?=some z→¬pjn (.copy f m) z)→Jn Es N D j M (out++[.copy f m])∧JnF D j (out++[.copy f m]):=fun hz=>⟨⟨k5.symm,fun y hy=>by
    rcases List.mem_append.1 hy with hy|hy
    ·exact j2 y hy
    ·simp at hy;subst hy;exact⟨k3,k4⟩,by simp;omega,by rw[k6];exact j4⟩,fun y z hy hz2=>by
    simp at hy
    subst hy
    exact hz z hz2⟩
   have e1:(Px.copy f m).fr=f:=rfl
   have e2:(Px.copy f m).nn=m:=rfl
   refine gg8 ?_
   refine dS 27 O (fun hj=>?_) (fun hj=>?_)
   ·have hjl:j<D.length:=oO
    obtain⟨z,hz⟩:∃z,D[j]?=some z:=⟨_,List.getElem?_eq_getElem hjl⟩
    have hzok:=hD' z (List.mem_of_getElem? hz)
    have hts2:=qFy (L:=rls Es) hz
    have hnt:=qEx (L:=rls (Es++M)) hz
    obtain⟨f0,f1,f2,f3⟩:=qIr hz (0+((j:Nat):Int).toNat*4) oO
    refine gg12 ?_
    cases z with
    |copy f' n2=>
     obtain⟨z1,z2⟩:=hzok
     have e3:(Px.copy f' n2).fr=f':=rfl
     have e4:(Px.copy f' n2).nn=n2:=rfl
     refine gg25 ?_
     refine bE O (fun hc=>?_) (fun hc=>?_)
     ·have hff:f'=f+m:=by simp only[Px.fr,Px.nn]at hc;omega
      subst hff
      refine gg13 ?_
      refine l_eq 54 (.int .i64 ((m+n2:Nat):Int)) O (bW (by simp only[Px.nn];omega)) ?_
      refine gg10 ?_
      refine bS (ι:=Nat×Nat) (j:=(j+1,m+n2)) ⟨by simp only;omega,by simp only;omega,by simp only;omega,by simp only;omega,?_,by simp only;rw[hts2,k6];rfl⟩ (by simp only;omega) ⟨rfl,rfl,rfl,congrArg some (bW (by simp only;omega)),rfl,trivial⟩ uI
      simp only
      rw[hnt,k5,List.map_append,List.map_append]
      exact addP_cc _ f m n2
     have hfin:=fin fun z' hz'=>by
      rw[hz]at hz'
      cases hz'
      show ¬f+m=f'
      intro e
      apply hc
      simp only[Px.fr,Px.nn]
      omega
     refine gg9 ?_
     refine uU ?_
     refine aU (hE.t O) (hE.t O) O O O (fun b60=>?_)
     refine uU ?_
     apply bU (hE.t O) (hE.t O) O O O
     ·exact uK
     ·exact uK
     ·rfl
     ·rfl
     ·omega
     ·omega
     ·(unfold maxLen;omega)
     intro g61 c61 n61 x61 hn61 hx61
     refine gg6 ?_
     obtain rfl:x61=pxC (out++[.copy f m]):=by rw[hx61,jF];rfl
     obtain rfl:n61=(out++[Px.copy f m]).length:=by simp;omega
     refine bS (ι:=JoG) (j:=⟨j,out++[.copy f m],M,some ⟨g61,0,none⟩,c61⟩) ⟨k2,hfin.1,hfin.2⟩ (by simp only;omega) ⟨O,O,O,O,trivial⟩ uI
    |text y=>
     have hfin:=fin fun z' hz'=>by
      rw[hz]at hz'
      cases hz'
      exact fun e=>e
     refine gg24 ?_
     refine uU ?_
     refine aU (hE.t O) (hE.t O) O O O (fun b60=>?_)
     refine uU ?_
     apply bU (hE.t O) (hE.t O) O O O
     ·exact uK
     ·exact uK
     ·rfl
     ·rfl
     ·omega
     ·omega
     ·(unfold maxLen;omega)
     intro g61 c61 n61 x61 hn61 hx61
     refine gg6 ?_
     obtain rfl:x61=pxC (out++[.copy f m]):=by rw[hx61,jF];rfl
     obtain rfl:n61=(out++[Px.copy f m]).length:=by simp;omega
     refine bS (ι:=JoG) (j:=⟨j,out++[.copy f m],M,some ⟨g61,0,none⟩,c61⟩) ⟨k2,hfin.1,hfin.2⟩ (by simp only;omega) ⟨O,O,O,O,trivial⟩ uI
   have hfin:=fin fun z hz=>by
    have:=(List.getElem?_eq_some_iff.1 hz).1
    omega
   refine gg31 ?_
   refine uU ?_
   refine aU (hE.t O) (hE.t O) O O O (fun b60=>?_)
   refine uU ?_
   apply bU (hE.t O) (hE.t O) O O O
   ·exact uK
   ·exact uK
   ·rfl
   ·rfl
   ·omega
   ·omega
   ·(unfold maxLen;omega)
   intro g61 c61 n61 x61 hn61 hx61
   refine gg6 ?_
   obtain rfl:x61=pxC (out++[.copy f m]):=by rw[hx61,jF];rfl
   obtain rfl:n61=(out++[Px.copy f m]).length:=by simp;omega
   refine bS (ι:=JoG) (j:=⟨j,out++[.copy f m],M,some ⟨g61,0,none⟩,c61⟩) ⟨k2,hfin.1,hfin.2⟩ (by simp only;omega) ⟨O,O,O,O,trivial⟩ uI
  |text y=>
   obtain⟨h0,hsn⟩:=hok
   have hlt0:(Px.text y).tsize (rls Es)=len (rls (Es++M)) y:=by rw[eL];exact(lF _ hok0.2.gd.1).symm
   have hub:=qLi (rls Es) D
   have e1:(Px.text y).tx=y:=rfl
   refine gg7 ?_
   refine uU ?_
   refine aU (hE.t O) (hE.t O) O O O (fun b64=>?_)
   refine gg5 ?_
   refine jR (cK (p:=cells b64 [.int .i64 (y:Nat)] 24) (p':=sl (some ⟨b64,0,none⟩) 1 24 1 1 (idC [y])) uK (kD O (by unfold maxLen;omega))) ?_
   refine dV (fun z:JiG=>[(0,uPt pp),(1,.slice (some ⟨g,0,none⟩) D.length c),(6,.slice q out.length d),(7,.int .i64 (z.j:Nat)),(8,uPt b8),(9,.slice z.q z.T.length z.d)]) (fun z=>[sl z.q z.d 24 1 z.T.length (idC z.T),cells b8 (pxV (.text y)) 45,cells pp [uPt s,uPt tb] 86,tabP tb s (rls (Es++M)),bR s most (Es++M),sl (some ⟨g,0,none⟩) c 45 4 D.length (pxC D),sl q d 45 4 out.length (pxC out),R]) (fun z=>D.length-z.j) (fun z=>i<z.j∧z.j≤D.length∧z.T.head?=some y∧i+z.T.length≤z.j∧(∀x∈z.T,x≠0)∧Sns (rls (Es++M)) (z.T.map (txt (rls (Es++M)))) z.T∧nrm ((D.take z.j).map (Px.out (rls (Es++M))))=out.map (Px.out (rls (Es++M)))++[.text (z.T.map (txt (rls (Es++M)))).flatten]∧tsz (rls Es) (D.take z.j)=tsz (rls Es) (D.take i)+(z.T.map (txt (rls (Es++M)))).flatten.length) ⟨i+1,[y],some ⟨b64,0,none⟩,1⟩ ⟨by simp only;omega,by simp only;omega,rfl,by simp,fun x hx=>by simp at hx;subst hx;exact h0,.one hsn,by simp only;rw[hst,List.map_append];simp[Px.out],by simp only;rw[hts,hlt0];simp[len]⟩ ⟨rfl,rfl,rfl,congrArg some (bW (by simp only;omega)),rfl,rfl,trivial⟩ uI ?_
   rintro⟨j,T,q9,c9⟩⟨k1,k2,k3,k4,k5,k6,k7,k8⟩
   simp only at k1 k2 k3 k4 k5 k6 k7 k8 ⊢
   have hTp:0<T.length:=by
    cases T with
    |nil=>simp at k3
    |cons a T=>simp
   have hTD:T.length≤D.length:=oO
   have hub2:=hub j
   have hroom1:(Es++M).length+T.length*(T.map (txt (rls (Es++M)))).flatten.length≤most:=by
    have a1:=Nat.mul_le_mul_right (T.map (txt (rls (Es++M)))).flatten.length hTD
    have a2:=Nat.mul_le_mul_left D.length hub2
    rw[k8,Nat.mul_add]at a2
    rw[List.length_append]
    omega
   refine jU (p:=bR s most (Es++M)) uK (fun _ h=>dQ h) (fun hsay2=>?_)
   have hfne:=flat_ne hsay2.1 k3 h0 k6
   have hJ0:Jn Es N D i M out:=⟨j1,j2,j3,j4⟩
   refine jU (p:=sl q9 c9 24 1 T.length (idC T)) uK (fun _ h=>fB h hTp) ?_
   rintro⟨g9,rfl⟩
   refine gg8 ?_
   have go:∀z,D[j]?=some (Px.text z)→j<D.length:=fun z h=>(List.getElem?_eq_some_iff.1 h).1
   refine dS 69 O (fun hj=>?_) (fun hj=>?_)
   ·have hjl:j<D.length:=oO
    obtain⟨z,hz⟩:∃z,D[j]?=some z:=⟨_,List.getElem?_eq_getElem hjl⟩
    have hzok:=hD' z (List.mem_of_getElem? hz)
    have hzok0:=hD z (List.mem_of_getElem? hz)
    have hts2:=qFy (L:=rls Es) hz
    have hnt:=qEx (L:=rls (Es++M)) hz
    obtain⟨f0,f1,f2,f3⟩:=qIr hz (0+((j:Nat):Int).toNat*4) oO
    refine gg15 ?_
    cases z with
    |text z=>
     obtain⟨z0,zsn⟩:=hzok
     have hlz:(Px.text z).tsize (rls Es)=len (rls (Es++M)) z:=by rw[eL];exact(lF _ hzok0.2.gd.1).symm
     refine gg12 ?_
     refine uU ?_
     refine aU (hE.t O) (hE.t O) O O O (fun b83=>?_)
     refine uU ?_
     apply bU (hE.t O) (hE.t O) O O O
     ·exact uK
     ·exact uK
     ·rfl
     ·rfl
     ·omega
     ·omega
     ·(unfold maxLen;omega)
     intro g84 c84 n84 x84 hn84 hx84
     refine gg9 ?_
     obtain rfl:x84=idC (T++[z]):=by rw[hx84,iK];rfl
     obtain rfl:n84=(T++[z]).length:=by simp;omega
     refine bS (ι:=JiG) (j:=⟨j+1,T++[z],some ⟨g84,0,none⟩,c84⟩) ⟨by simp only;omega,by simp only;omega,?_,by simp only[List.length_append,List.length_singleton];omega,fun x hx=>?_,?_,?_,?_⟩ (by simp only;omega) ⟨rfl,rfl,rfl,congrArg some (bW (by simp only;omega)),rfl,rfl,trivial⟩ uI
     ·simp only
      rw[List.head?_append,k3];rfl
     ·rcases List.mem_append.1 hx with hx|hx
      ·exact k5 x hx
      simp at hx;subst hx;exact z0
     ·simp only
      rw[List.map_append]
      exact k6.append (.one zsn)
     ·simp only
      rw[hnt,k7,List.map_append,List.flatten_append]
      simp only[List.map_cons,List.map_nil,List.flatten_cons,List.flatten_nil,List.append_nil]
      exact addP_tt _ _ _
     simp only
     rw[hts2,k8,hlz,List.map_append,List.flatten_append,List.length_append]
     simp only[List.map_cons,List.map_nil,List.flatten_cons,List.flatten_nil,List.append_nil,len]
     omega
    |copy f' n2=>
     have hnj:∀id z,D[j]?=some z→¬pjn (.text id) z:=fun id z hz'=>by
      rw[hz]at hz'
      cases hz'
      exact fun e=>e
     refine gg14 ?_
     refine bE O (fun h9=>?_) (fun h9=>?_)
     ·refine gg9 ?_
      refine uX (qGr (Es:=Es++M) hE hB k6 hTp oO oO hroom1) O ?_
      rintro _ _⟨M1,id,rfl,hM1,hsn1,rfl⟩
      rw[List.append_assoc]at hsn1 ⊢
      have hid:id≠0:=fun e=>by subst e;exact hfne hsn1.zero
      have hJ2:=hJ0.text hD' k1 k7 k8 hid hsn1 (Nat.le_trans hM1 (Nat.mul_le_mul_right _ hTD))
      simp only[uV,uW]
      refine gg20 ?_
      refine uU ?_
      refine aU (hE.t O) (hE.t O) O O O (fun b102=>?_)
      refine uU ?_
      apply bU (hE.t O) (hE.t O) O O O
      ·exact uK
      ·exact uK
      ·rfl
      ·rfl
      ·omega
      ·omega
      ·(unfold maxLen;omega)
      intro g103 c103 n103 x103 hn103 hx103
      refine gg3 ?_
      obtain rfl:x103=pxC (out++[.text id]):=by rw[hx103,jF];rfl
      obtain rfl:n103=(out++[Px.text id]).length:=by simp;omega
      refine bS (ι:=JoG) (j:=⟨j,out++[.text id],M++M1,some ⟨g103,0,none⟩,c103⟩) ⟨k2,hJ2,fun a z ha hz=>by simp at ha;subst ha;exact hnj id z hz⟩ (by simp only;omega) ⟨rfl,rfl,rfl,rfl,trivial⟩ uI
     obtain rfl:T=[y]:=by
      obtain⟨a,rfl⟩:=List.length_eq_one_iff.1 (show T.length=1 by omega)
      simp at k3
      rw[k3]
     have hsn1:Sn (rls (Es++(M++[]))) ([y].map (txt (rls (Es++M)))).flatten y:=by rw[List.append_nil];simpa using hsn
     have hJ2:=hJ0.text (M1:=[]) hD' k1 k7 k8 h0 hsn1 (Nat.zero_le _)
     rw[List.append_nil]at hJ2
     refine gg5 ?_
     refine uU ?_
     refine aU (hE.t O) (hE.t O) O O O (fun b102=>?_)
     refine uU ?_
     apply bU (hE.t O) (hE.t O) O O O
     ·exact uK
     ·exact uK
     ·rfl
     ·rfl
     ·omega
     ·omega
     ·(unfold maxLen;omega)
     intro g103 c103 n103 x103 hn103 hx103
     refine gg3 ?_
     obtain rfl:x103=pxC (out++[.text y]):=by rw[hx103,jF];rfl
     obtain rfl:n103=(out++[Px.text y]).length:=by simp;omega
     refine bS (ι:=JoG) (j:=⟨j,out++[.text y],M,some ⟨g103,0,none⟩,c103⟩) ⟨k2,hJ2,fun a z ha hz=>by simp at ha;subst ha;exact hnj y z hz⟩ (by simp only;omega) ⟨rfl,rfl,rfl,rfl,trivial⟩ uI
   have hnj:∀id z,D[j]?=some z→¬pjn (.text id) z:=fun id z hz=>by
    have:=(List.getElem?_eq_some_iff.1 hz).1
    omega
   refine gg23 ?_
   refine bE O (fun h9=>?_) (fun h9=>?_)
   ·refine gg9 ?_
    refine uX (qGr (Es:=Es++M) hE hB k6 hTp oO oO hroom1) O ?_
    rintro _ _⟨M1,id,rfl,hM1,hsn1,rfl⟩
    rw[List.append_assoc]at hsn1 ⊢
    have hid:id≠0:=fun e=>by subst e;exact hfne hsn1.zero
    have hJ2:=hJ0.text hD' k1 k7 k8 hid hsn1 (Nat.le_trans hM1 (Nat.mul_le_mul_right _ hTD))
    simp only[uV,uW]
    refine gg20 ?_
    refine uU ?_
    refine aU (hE.t O) (hE.t O) O O O (fun b102=>?_)
    refine uU ?_
    apply bU (hE.t O) (hE.t O) O O O
    ·exact uK
    ·exact uK
    ·rfl
    ·rfl
    ·omega
    ·omega
    ·(unfold maxLen;omega)
    intro g103 c103 n103 x103 hn103 hx103
    refine gg3 ?_
    obtain rfl:x103=pxC (out++[.text id]):=by rw[hx103,jF];rfl
    obtain rfl:n103=(out++[Px.text id]).length:=by simp;omega
    refine bS (ι:=JoG) (j:=⟨j,out++[.text id],M++M1,some ⟨g103,0,none⟩,c103⟩) ⟨k2,hJ2,fun a z ha hz=>by simp at ha;subst ha;exact hnj id z hz⟩ (by simp only;omega) ⟨rfl,rfl,rfl,rfl,trivial⟩ uI
   obtain rfl:T=[y]:=by
    obtain⟨a,rfl⟩:=List.length_eq_one_iff.1 (show T.length=1 by omega)
    simp at k3
    rw[k3]
   have hsn1:Sn (rls (Es++(M++[]))) ([y].map (txt (rls (Es++M)))).flatten y:=by rw[List.append_nil];simpa using hsn
   have hJ2:=hJ0.text (M1:=[]) hD' k1 k7 k8 h0 hsn1 (Nat.zero_le _)
   rw[List.append_nil]at hJ2
   refine gg5 ?_
   refine uU ?_
   refine aU (hE.t O) (hE.t O) O O O (fun b102=>?_)
   refine uU ?_
   apply bU (hE.t O) (hE.t O) O O O
   ·exact uK
   ·exact uK
   ·rfl
   ·rfl
   ·omega
   ·omega
   ·(unfold maxLen;omega)
   intro g103 c103 n103 x103 hn103 hx103
   refine gg3 ?_
   obtain rfl:x103=pxC (out++[.text y]):=by rw[hx103,jF];rfl
   obtain rfl:n103=(out++[Px.text y]).length:=by simp;omega
   refine bS (ι:=JoG) (j:=⟨j,out++[.text y],M,some ⟨g103,0,none⟩,c103⟩) ⟨k2,hJ2,fun a z ha hz=>by simp at ha;subst ha;exact hnj y z hz⟩ (by simp only;omega) ⟨rfl,rfl,rfl,rfl,trivial⟩ uI
 obtain rfl:i=D.length:=by omega
 refine gg13 ?_
 exact uZ O (.tmp O (.tmp O .nil)) ⟨M,out,q,d,O,⟨j1,j2,j3,j4⟩,O⟩
theorem qQr (hE:Seat E):Ct E 60 [uPt pp,.slice none 0 0] [] (fun v Q=>v= .tuple #[.slice none 0 0,.nilIface]∧Q=[]):=by
 refine bO (hE.fn Tryz.func60) O O O (fun R=>?_)
 simp only[dR,uV,uW]
 refine gg18 ?_
 refine jW 1 ?_
 refine gg24 ?_
 exact uZ O (.tmp O (.tmp O .nil)) ⟨O,O⟩
theorem qQm (hE:Seat E)(hB:Base E.w0){base g c:Nat}{D:List Px}(hg:good (rls Es) base)(hbl:len (rls Es) base≤100000)(hD:∀x∈D,x.ok (rls Es) (len (rls Es) base)) (hn:D.length≤100000) (hsz:asz (rls Es) D≤1000000) (hroom:Es.length+D.length*tsz (rls Es) D≤most):
  Ct E 36 [uPt pp,.int .i64 (base:Nat),.slice (some ⟨g,0,none⟩) D.length c] [cells pp [uPt s,uPt tb] 86,tabP tb s (rls Es),bR s most Es,sl (some ⟨g,0,none⟩) c 45 4 D.length (pxC D)]
   (fun v Q=>∃M out q d,v= .tuple #[.slice q out.length d,.nilIface]∧Jn Es (len (rls Es) base) D D.length M out∧Q=[cells pp [uPt s,uPt tb] 86,tabP tb s (rls (Es++M)),bR s most (Es++M),sl (some ⟨g,0,none⟩) c 45 4 D.length (pxC D),sl q d 45 4 out.length (pxC out)]):=by
 have hts:=tsz_le (rls Es) D
 refine bO (hE.fn Tryz.func36) O O O (fun R=>?_)
 simp only[dR,uV,uW]
 refine gg12 ?_
 refine uX (ct_Check hE hB hg hbl hD hn hsz) O ?_
 rintro _ _⟨rfl,rfl⟩
 simp only[uV,uW]
 refine gg16 ?_
 refine uX (ct_djoin hE hB hbl hD hn oO hroom) O ?_
 rintro _ _⟨M,out,q,d,rfl,hJ,rfl⟩
 simp only[uV,uW]
 refine gg7 ?_
 exact uZ O (.tmp O (.tmp O .nil)) ⟨M,out,q,d,O,hJ,O⟩
theorem qOb (hE:Seat E)(hB:Base E.w0){base:Nat}(hg:good (rls Es) base):
  Ct E 36 [uPt pp,.int .i64 (base:Nat),.slice none 0 0] [cells pp [uPt s,uPt tb] 86,tabP tb s (rls Es),bR s most Es] (fun v Q=>v= .tuple #[.slice none 0 0,.nilIface]∧Q=[cells pp [uPt s,uPt tb] 86,tabP tb s (rls Es),bR s most Es]):=by
 refine bO (hE.fn Tryz.func36) O O O (fun R=>?_)
 simp only[dR,uV,uW]
 refine gg12 ?_
 refine uX (qQl hE hB hg) O ?_
 rintro _ _⟨rfl,rfl⟩
 simp only[uV,uW]
 refine gg16 ?_
 refine uX (qQr hE) O ?_
 rintro _ _⟨rfl,rfl⟩
 simp only[uV,uW]
 refine gg7 ?_
 exact uZ O (.tmp O (.tmp O .nil)) ⟨O,O⟩
end
section
variable {E:Env}{Es:List Ent}{pp tb s most:Nat}
theorem sn_pcs {L:List Rl}(hw:Wf L){tx ty:List UInt8}{x y:Nat}(hx:Sn L tx x)(hy:Sn L ty y):(∀p∈pcs L (fG L x) y,p.ok L (len L x))∧asz L (pcs L (fG L x) y)=len L y∧(pcs L (fG L x) y).length≤len L y:=by
 rcases Nat.eq_zero_or_pos y with rfl|h0
 ·rw[qEz];exact⟨fun p h=>by simp at h,rfl,Nat.zero_le _⟩
 have hle:=hy.gd.1
 obtain⟨n,rfl⟩:∃n,y=n+1:=⟨y-1,oO⟩
 exact pcs_spec hw (qAd hw x) (best_in hw (qAd hw x)) (P:=fun k=>Rea L (n+1) k) (fun m r k h1 h2 h3=>h1.snoc hw h2 h3) (fun k h1 _=>hy.reach hw h1) (n+1) hle (.self oO)
theorem ct_bdOf (hE:Seat E)(hB:Base E.w0){x y:Nat}{tx ty:List UInt8}(hx:Sn (rls Es) tx x)(hy:Sn (rls Es) ty y)(hlx:tx.length≤600)(hly:ty.length≤600)(hn:Es.length<65536)(hroom:Es.length+360000≤most):
  Ct E 11 [uPt pp,.int .i64 (x:Nat),.int .i64 (y:Nat)] [cells pp [uPt s,uPt tb] 86,tabP tb s (rls Es),bR s most Es]
   (fun v Q=>∃M out q d,v= .tuple #[.slice q out.length d,.nilIface]∧Jn Es tx.length (pcs (rls Es) (fG (rls Es) x) y) (pcs (rls Es) (fG (rls Es) x) y).length M out∧Q=[cells pp [uPt s,uPt tb] 86,tabP tb s (rls (Es++M)),bR s most (Es++M),sl q d 45 4 out.length (pxC out)]):=by
 refine fF (p:=bR s most Es) uK (fun _ h=>dQ h) (fun hsay=>?_)
 have hw:=hsay.1
 have hLl:=bQ Es
 have hxl:=hx.gd.1
 have hyl:=hy.gd.1
 have elx:=hx.len
 have ely:=hy.len
 obtain⟨p1,p2,p3⟩:=sn_pcs hw hx hy
 have hts:=tsz_le (rls Es) (pcs (rls Es) (fG (rls Es) x) y)
 have hmul:=Nat.mul_le_mul (show(pcs (rls Es) (fG (rls Es) x) y).length≤600 by omega) (show tsz (rls Es) (pcs (rls Es) (fG (rls Es) x) y)≤600 by omega)
 refine bO (hE.fn Tryz.func11) O O O (fun R=>?_)
 simp only[dR,uV,uW]
 refine gg11 ?_
 refine uU ?_
 refine aU (hE.t O) (hE.t O) O O O (fun b20=>?_)
 refine uX (qCg (Es:=Es) (most:=most) (tb:=tb) (x:=x) (y:=y) hE oO oO oO) O ?_
 rintro _ _⟨rfl,rfl⟩
 simp only[uV,uW]
 refine gg22 ?_
 refine uU ?_
 refine aU (hE.t O) (hE.t O) O O O (fun b29=>?_)
 refine gg5 ?_
 have f0:[Value.int .i64 (x:Nat),.int .i64 (y:Nat)][0]?=some (.int .i64 (x:Nat)):=rfl
 have f1:[Value.int .i64 (x:Nat),.int .i64 (y:Nat)][1]?=some (.int .i64 (y:Nat)):=rfl
 refine jW 3 ?_
 refine gg23 ?_
 refine uX (qD hE hB hx.gd) O ?_
 rintro _ _⟨rfl,rfl⟩
 simp only[uV,uW]
 refine gg45 ?_
 refine uX (qD hE hB hy.gd) O ?_
 rintro _ _⟨rfl,rfl⟩
 simp only[uV,uW]
 refine gg39 ?_
 refine uX (qJz (base:=x) hE oO hn) O ?_
 rintro _ _⟨bx,bm,bp,K,P,X,rfl,hI,rfl⟩
 simp only[uV,uW]
 refine gg21 ?_
 refine uX (qQz (b:=y) hE hI oO oO oO) O ?_
 rintro _ _⟨q,d,rfl,hnil,rfl⟩
 simp only[uV,uW]
 refine gg22 ?_
 obtain⟨D,hD⟩:∃D,D=pcs (rls Es) (fG (rls Es) x) y:=⟨_,rfl⟩
 rw[←hD]at p1 p2 p3 hnil hts hmul ⊢
 by_cases h0:D=[]
 ·obtain⟨rfl,rfl⟩:=hnil h0
  subst h0
  refine uX (qOb hE hB hx.gd) O ?_
  rintro _ _⟨rfl,rfl⟩
  simp only[uV,uW]
  refine gg7 ?_
  exact uZ O (.tmp O (.tmp O .nil)) ⟨[],[],none,0,O,⟨O,fun x h=>by simp at h,Nat.le_refl _,Nat.zero_le _⟩,by rw[List.append_nil]⟩
 refine xH (p:=sl q d 45 4 D.length (pxC D)) uK (fun _ h=>fB h (List.length_pos_iff.2 h0)) ?_
 rintro⟨g,rfl⟩
 refine uX (qQm (most:=most) hE hB hx.gd oO p1 oO oO oO) O ?_
 rintro _ _⟨M,out,q',d',rfl,hJ,rfl⟩
 rw[elx]at hJ
 simp only[uV,uW]
 refine gg7 ?_
 exact uZ O (.tmp O (.tmp O .nil)) ⟨M,out,q',d',O,hJ,O⟩
end
end Go.Proofs.YtblljbllmnbiaaaGreatDoor
