import Derived.Test.YtlmpojkmeglepaaGreatDoorQ9S
set_option linter.all false
set_option maxHeartbeats 1000000
namespace Go.Proofs.YtlmpojkmeglepaaGreatDoor
open Go Go.RowKit Sl Eg
set_option maxRecDepth 10000
variable {E:Env}{Es:List Ent}{pp tb s most m bm:Nat}{f:Int→Option Value}
theorem qBp (hE:Seat E){P:List Ent→(Int→Option Value)→List Nat→Prop}{l:List (List UInt8×Int)}{a:Option Addr}{c:Nat}{q:HP}(hq:Rdb E.w0 a (nlC l) q)(hn:l.length≤1000)
  (hAll:SgO Es.length l→∀p c,Ct E 55 [uPt m,.slice p l.length c] [cells pp [uPt s,uPt tb] 97,tabP tb s (rls Es),bR s most Es,cells m [uPt pp,.map (some bm)] 93,mapF bm .i64 f,sl p c 44 1 l.length (idC (rawN l))] (fun v Q=>∃(M:List Ent)(f':Int→Option Value)(ys:List Nat)(g' c':Nat),v= .tuple #[.slice (some ⟨g',0,none⟩) l.length c',.nilIface]∧ys.length=l.length∧P M f' ys∧Q=[cells pp [uPt s,uPt tb] 97,tabP tb s (rls (Es++M)),bR s most (Es++M),cells m [uPt pp,.map (some bm)] 93,mapF bm .i64 f',sl p c 44 1 l.length (idC (rawN l)),sl (some ⟨g',0,none⟩) c' 44 1 l.length (idC ys)])):
  Ct E 28 [uPt m,.slice a l.length c] [cells pp [uPt s,uPt tb] 97,tabP tb s (rls Es),bR s most Es,cells m [uPt pp,.map (some bm)] 93,mapF bm .i64 f,q]
   (fun v Q=>(∃e,SgE Es.length l e∧v= .tuple #[.pointer none,.slice none 0 0,.iface 58 (.int .i64 e)]∧Q=[cells pp [uPt s,uPt tb] 97,tabP tb s (rls Es),bR s most Es,cells m [uPt pp,.map (some bm)] 93,mapF bm .i64 f,q])∨
    ∃M f' ys p' c',SgO Es.length l∧v= .tuple #[uPt s,.slice p' l.length c',.nilIface]∧ys.length=l.length∧P M f' ys∧Q=[cells pp [uPt s,uPt tb] 97,tabP tb s (rls (Es++M)),bR s most (Es++M),cells m [uPt pp,.map (some bm)] 93,mapF bm .i64 f',q,sl p' c' 44 1 l.length (idC ys)]):=by
 refine bO (hE.fn Tryz.func28) O O O (fun R=>?_)
 simp only[dY,uV,uW]
 refine dO (uA O (uA O (uA O (dN (dO (uM O (uX (lS (m:=m) (pp:=pp) (bm:=bm) hE) O ?_)))))))
 rintro _ _⟨rfl,rfl⟩
 simp only[uV,uW]
 refine uX (gQ hE) O ?_
 rintro _ _⟨rfl,rfl⟩
 simp only[uV,uW]
 refine uA O (dN (aL (dO (uM O ?_))))
 apply aA
 ·(first |exact eU rfl (hE.t rfl)|exact gX rfl (hE.t rfl))
 ·rfl
 refine dN (bD O (bC (aK (aL (dO (uM O (uB (uBl O) (uM O (dN (bK ?_))))))))))
 refine fD (fun k:Nat=>[(0,uPt m),(1,.slice a l.length c),(7,uPt s),(22,.slice a l.length c),(23,.int .i64 (l.length:Nat)),(24,.int .i64 (k:Nat))]) (fun k=>[cells pp [uPt s,uPt tb] 97,tabP tb s (rls Es),bR s most Es,cells m [uPt pp,.map (some bm)] 93,mapF bm .i64 f,q,R]) (fun k=>l.length-k) (fun k=>k≤l.length∧∀j p,j<k→l[j]?=some p→ValidN p.1) 0 ⟨Nat.zero_le _,fun j p h=>by omega⟩ ⟨rfl,rfl,rfl,rfl,rfl,rfl,trivial⟩ uI ?_
 rintro k⟨hk1,hall⟩
 refine dO (uB (y_lt O O) (dN (aL ?_)))
 refine bE O (fun h=>?_) (fun h=>?_)
 ·have hkl:k<l.length:=oO
  obtain⟨p,hp⟩:∃p,l[k]?=some p:=⟨_,List.getElem?_eq_getElem hkl⟩
  have hpm:=List.mem_of_getElem? hp
  obtain⟨g,o,rfl,hq'⟩:=hq (xP oO)
  have fm:=wT hp
  refine bC (aK (aL (bK (dO (uB (uAi O O) ?_)))))
  apply aA
  ·(first |(apply bV rfl (hE.t rfl) rfl;(repeat(first |rfl|assumption|constructor));done)|(apply dL rfl (hE.t rfl) rfl (by assumption);(focus((repeat constructor);done));(focus exact fm);(focus rfl);(focus omega)))
  ·rfl
  refine uU (dA (hE.t O) (fun b9=>?_))
  refine uU ?_
  (first |(apply bL rfl rfl (hE.t rfl) rfl;(focus((repeat constructor);done));(focus rfl);(focus(exact Nat.le_of_ble_eq_true rfl)))|(apply aS rfl rfl (hE.t rfl) rfl;(focus((repeat constructor);done));(focus rfl);(focus(first |omega |(simp only[bP,aN,List.length_cons,List.length_nil];omega)))))
  refine dN (dO (uB (uBf O) ?_))
  apply aA
  ·(first |(apply aO rfl (hE.t rfl) rfl;(repeat(first |rfl|assumption|constructor));done)|exact aY rfl (hE.t rfl) rfl (by assumption)|(apply bB rfl (hE.t rfl) rfl;(focus((repeat constructor);done));(focus assumption))|(apply bJ rfl (hE.t rfl) rfl (by assumption);(focus((repeat constructor);done));(first |((focus exact f0);(focus omega))|((focus exact f1);(focus omega))|((focus assumption);(focus omega)))))
  ·rfl
  refine uX (qQ (bs:=p.1) hE) O ?_
  rintro _ _⟨rfl,rfl⟩
  simp only[uV,uW]
  refine uB (gY O) (dN ?_)
  refine qIn O (fun hv=>?_) (fun hv=>?_)
  ·refine aL (aJ ?_)
   refine uB (gP O (hE.t O) O) ?_
   refine uA O (uA O (uA O (dN (bZ (bN (aV (aV (bN (aV ?_)))))))))
   exact uZ O (.tmp O (.tmp O (.tmp O .nil))) (.inl ⟨13,.inl ⟨O,fun hN=>hv (hN p hpm)⟩,O,O⟩)
  refine bC (bI (aK (aJ ?_)))
  refine uB (uAa O O) (uM O (aM ?_))
  refine bS (ι:=Nat) (j:=k+1) ⟨oO,fun j p' hj hjp=>?_⟩ oO ⟨O,O,O,O,O,congrArg some (bW oO),trivial⟩ uI
  rcases Nat.lt_or_ge j k with h'|h'
  ·exact hall j p' h' hjp
  obtain rfl:j=k:=by omega
  rw[hp]at hjp
  cases hjp
  exact hv
 have hNames:Names l:=fun p hp=>by
  obtain⟨j,hj⟩:=List.getElem?_of_mem hp
  exact hall j p (by have:=(List.getElem?_eq_some_iff.1 hj).1;omega) hj
 clear hall
 refine dF (aQ (aQ (bH (aK (aL (dO (uM O (uB (uBl O) (uM O (dN (bK ?_)))))))))))
 refine fD (fun k:Nat=>[(0,uPt m),(1,.slice a l.length c),(7,uPt s),(35,.int .i64 (l.length:Nat)),(36,.int .i64 (k:Nat))]) (fun k=>[cells pp [uPt s,uPt tb] 97,tabP tb s (rls Es),bR s most Es,cells m [uPt pp,.map (some bm)] 93,mapF bm .i64 f,q,R]) (fun k=>l.length-k) (fun k=>k≤l.length∧Ordered l k) 0 ⟨Nat.zero_le _,fun j p q h=>by omega⟩ ⟨rfl,rfl,rfl,rfl,rfl,trivial⟩ uI ?_
 rintro k⟨hk1,hord⟩
 refine dO (uB (y_lt O O) (dN (aL ?_)))
 refine bE O (fun h=>?_) (fun h=>?_)
 ·have hkl:k<l.length:=oO
  obtain⟨p,hp⟩:∃p,l[k]?=some p:=⟨_,List.getElem?_eq_getElem hkl⟩
  obtain⟨g,o,rfl,hq'⟩:=hq (xP oO)
  have f0:=(qAh hp).1
  refine bC (aK (aL (bK (dO (uM O (uA O ?_))))))
  refine dN (aL (iP oK ?_))
  refine uM O (uB (y_gt O O) (uM O ?_))
  refine eG 41 O (fun h0=>?_) (fun h0=>?_)
  ·obtain⟨k,rfl⟩:∃k',k=k'+1:=⟨k-1,oO⟩
   obtain⟨p0,hp0⟩:∃p,l[k]?=some p:=⟨_,List.getElem?_eq_getElem oO⟩
   have f1:=(qAh hp0).1
   refine dP (uM O (dP (uM O (dP (uB (uAi O O) ?_)))))
   refine dP (uB (uBf O) ?_)
   refine dP ?_
   apply aA
   ·(first |(apply aO rfl (hE.t rfl) rfl;(repeat(first |rfl|assumption|constructor));done)|exact aY rfl (hE.t rfl) rfl (by assumption)|(apply bB rfl (hE.t rfl) rfl;(focus((repeat constructor);done));(focus assumption))|(apply bJ rfl (hE.t rfl) rfl (by assumption);(focus((repeat constructor);done));(first |((focus exact f0);(focus omega))|((focus exact f1);(focus omega))|((focus assumption);(focus omega)))))
   ·rfl
   refine dP (uM O (dP (uM O (dP (uB (uAs O O) (dP (uB (uAi O O) ?_)))))))
   refine dP (uB (uBf O) ?_)
   refine dP ?_
   apply aA
   ·(first |(apply aO rfl (hE.t rfl) rfl;(repeat(first |rfl|assumption|constructor));done)|exact aY rfl (hE.t rfl) rfl (by assumption)|(apply bB rfl (hE.t rfl) rfl;(focus((repeat constructor);done));(focus assumption))|(apply bJ rfl (hE.t rfl) rfl (by assumption);(focus((repeat constructor);done));(first |((focus exact f0);(focus omega))|((focus exact f1);(focus omega))|((focus assumption);(focus omega)))))
   ·rfl
   refine dP (uB (qGd O O) ?_)
   apply aA
   ·(first |exact aW rfl rfl|exact aX rfl rfl)
   ·rfl
   refine dN ?_
   refine w_eq 54 (.bool (!Op.bytesLess p0.1 p.1)) O (congrArg Value.bool qAb) ?_
   refine yP O (fun hv=>?_) (fun hv=>?_)
   ·refine aL (aJ ?_)
    refine uB (gP O (hE.t O) O) ?_
    refine uA O (uA O (uA O (dN (bZ (bN (aV (aV (bN (aV ?_)))))))))
    apply cB
    ·rfl
    ·(apply Rs.tmp rfl;apply Rs.tmp rfl;apply Rs.tmp rfl;exact Rs.nil)
    ·refine .inl ⟨4,.inr (.inl ⟨O,hNames,fun hN=>?_⟩),O,O⟩
     have:=hN k p0 p oO hp0 hp
     rw[this]at hv
     cases hv
    exact uI
   refine bC (bI (aK (aJ ?_)))
   refine uB (uAa O O) (uM O (aM ?_))
   refine bS (ι:=Nat) (j:=k+1+1) ⟨oO,fun j x y hj hx hy=>?_⟩ oO ⟨O,O,O,O,congrArg some (bW oO),trivial⟩ uI
   rcases Nat.lt_or_ge (j+1) (k+1)with h'|h'
   ·exact hord j x y h' hx hy
   obtain rfl:j=k:=by omega
   rw[hp0]at hx
   rw[hp]at hy
   cases hx
   cases hy
   simpa using hv
  obtain rfl:k=0:=by omega
  refine dQ (dQ (dQ (dQ (dQ (dQ (dQ (dQ (dQ (dQ (dQ (dQ ?_)))))))))))
  apply aA
  ·(first |exact aW rfl rfl|exact aX rfl rfl)
  ·rfl
  refine dN (bD O (bC (bI (aK (aJ (uB (uAa O O) (uM O (aM ?_))))))))
  refine bS (ι:=Nat) (j:=1) ⟨oO,fun j x y hj hx hy=>by omega⟩ oO ⟨rfl,rfl,rfl,rfl,congrArg some (bW oO),trivial⟩ uI
 obtain rfl:k=l.length:=by omega
 refine dF (aQ (aQ (bH (aK (dO (uM O (uB (uBl O) (uU ?_))))))))
 refine qLd (hE.t O) (hE.t O) O oO (by(unfold maxLen;omega)) (fun b59 us59 hu59=>?_)
 refine uA O (dN (aL (dO (uM O (uB (uBl O) (uM O (dN (bK ?_))))))))
 have hrl:(rawN l).length=l.length:=List.length_map _
 refine fD (fun k:Nat=>[(0,uPt m),(7,uPt s),(11,.slice (some ⟨b59,0,none⟩) l.length l.length),(60,.slice a l.length c),(61,.int .i64 (l.length:Nat)),(62,.int .i64 (k:Nat))]) (fun k=>[cells pp [uPt s,uPt tb] 97,tabP tb s (rls Es),bR s most Es,cells m [uPt pp,.map (some bm)] 93,mapF bm .i64 f,q,sl (some ⟨b59,0,none⟩) l.length 44 1 l.length (idC ((rawN l).take k)++us59.drop k),R]) (fun k=>l.length-k) (fun k=>k≤l.length∧∀j p,j<k→l[j]?=some p→0≤p.2∧p.2≤(Es.length:Nat)) 0 ⟨Nat.zero_le _,fun j p h=>by omega⟩ ⟨rfl,rfl,rfl,rfl,rfl,rfl,trivial⟩ uI ?_
 rintro k⟨hk1,hall⟩
 refine dO (uB (y_lt O O) (dN (aL ?_)))
 refine bE O (fun h=>?_) (fun h=>?_)
 ·have hkl:k<l.length:=oO
  obtain⟨p,hp⟩:∃p,l[k]?=some p:=⟨_,List.getElem?_eq_getElem hkl⟩
  have hpm:=List.mem_of_getElem? hp
  obtain⟨g,o,rfl,hq'⟩:=hq (xP oO)
  have fm:=wT hp
  refine bC (aK (aL (bK (dO (uM O (uB (uAi O O) ?_))))))
  apply aA
  ·(first |(apply bV rfl (hE.t rfl) rfl;(repeat(first |rfl|assumption|constructor));done)|(apply dL rfl (hE.t rfl) rfl (by assumption);(focus((repeat constructor);done));(focus exact fm);(focus rfl);(focus omega)))
  ·rfl
  refine uU (dA (hE.t O) (fun b13=>?_))
  refine uA O (uU ?_)
  (first |(apply bL rfl rfl (hE.t rfl) rfl;(focus((repeat constructor);done));(focus rfl);(focus(exact Nat.le_of_ble_eq_true rfl)))|(apply aS rfl rfl (hE.t rfl) rfl;(focus((repeat constructor);done));(focus rfl);(focus(first |omega |(simp only[bP,aN,List.length_cons,List.length_nil];omega)))))
  refine dN (aL (aL ?_))
  refine uH ([cells b13 [.string ⟨⟨p.1⟩⟩,.int .i64 p.2] 53]) ?_
  refine uD 0 O (uBf O) ?_
  apply bG 1 O
  ·(first |(apply aO rfl (hE.t rfl) rfl;(repeat(first |rfl|assumption|constructor));done)|exact aY rfl (hE.t rfl) rfl (by assumption)|(apply bB rfl (hE.t rfl) rfl;(focus((repeat constructor);done));(focus assumption))|(apply bJ rfl (hE.t rfl) rfl (by assumption);(focus((repeat constructor);done));(first |((focus exact f0);(focus omega))|((focus exact f1);(focus omega))|((focus assumption);(focus omega)))))
  ·with_reducible (repeat(first |exact aF|apply aG|apply aH))
  ·kernel_rfl
  ·rfl
  refine uD 2 O (y_lt O O) (uD 3 O (aB O) ?_)
  refine qIz 70 O (fun h1=>?_) (fun h1=>?_)
  ·refine d_off 4 O O O O (by with_reducible (repeat(first |exact aF|apply aG|apply aH))) oK O ?_
   refine uR 5 O O O O ?_
   refine uR 6 O O O O ?_
   refine uR 7 O O O O ?_
   refine uR 8 O O O O ?_
   apply bG 9 O
   ·(first |exact aW rfl rfl|exact aX rfl rfl)
   ·with_reducible (repeat(first |exact aF|apply aG|apply aH))
   ·kernel_rfl
   ·rfl
   refine jT oK ?_
   refine aK (bF O (dO (uB (gP O (hE.t O) O) ?_)))
   refine uA O (uA O (uA O (dN (bZ (aV (bN (aV (aV (bN (aV ?_))))))))))
   exact uZ O (.tmp O (.tmp O (.tmp O .nil))) (.inl ⟨1,.inr (.inr ⟨O,hNames,hord,fun hI=>by have:=(hI p hpm).1;omega⟩),rfl,rfl⟩)
  apply d_on 4 O O O
  ·exact uBf O
  ·with_reducible (repeat(first |exact aF|apply aG|apply aH))
  ·kernel_rfl
  ·rfl
  apply d_on 5 O O O
  ·(first |(apply aO rfl (hE.t rfl) rfl;(repeat(first |rfl|assumption|constructor));done)|exact aY rfl (hE.t rfl) rfl (by assumption)|(apply bB rfl (hE.t rfl) rfl;(focus((repeat constructor);done));(focus assumption))|(apply bJ rfl (hE.t rfl) rfl (by assumption);(focus((repeat constructor);done));(first |((focus exact f0);(focus omega))|((focus exact f1);(focus omega))|((focus assumption);(focus omega)))))
  ·with_reducible (repeat(first |exact aF|apply aG|apply aH))
  ·kernel_rfl
  ·rfl
  refine uO 6 O O O (aB O) ?_
  apply vC 7 O O O oK O
  refine uC (tZ hE) O ?_
  rintro _ _⟨rfl,rfl⟩
  simp only[uV,uW]
  refine uE ?_
  refine uO 8 O O O (y_gt O O) ?_
  apply bG 9 O
  ·(first |exact aW rfl rfl|exact aX rfl rfl)
  ·with_reducible (repeat(first |exact aF|apply aG|apply aH))
  ·kernel_rfl
  ·rfl
  refine jT oK ?_
  refine aK ?_
  refine bE O (fun h2=>?_) (fun h2=>?_)
  ·refine aL (aJ ?_)
   refine uB (gP O (hE.t O) O) ?_
   refine uA O (uA O (uA O (dN (bZ (aV (bN (aV (aV (bN (aV ?_))))))))))
   exact uZ O (.tmp O (.tmp O (.tmp O .nil))) (.inl ⟨1,.inr (.inr ⟨O,hNames,hord,fun hI=>by have:=(hI p hpm).2;omega⟩),rfl,rfl⟩)
  refine bC (aK (aJ ?_))
  refine uM O (uM O (uB (uBf O) ?_))
  apply aA
  ·(first |(apply aO rfl (hE.t rfl) rfl;(repeat(first |rfl|assumption|constructor));done)|exact aY rfl (hE.t rfl) rfl (by assumption)|(apply bB rfl (hE.t rfl) rfl;(focus((repeat constructor);done));(focus assumption))|(apply bJ rfl (hE.t rfl) rfl (by assumption);(focus((repeat constructor);done));(first |((focus exact f0);(focus omega))|((focus exact f1);(focus omega))|((focus assumption);(focus omega)))))
  ·rfl
  refine l_eq 81 (.int .i64 (p.2.toNat:Nat)) O (bW oO) ?_
  apply aA
  ·(first |exact uAj rfl rfl|exact uAi rfl rfl)
  ·rfl
  refine l_eq 82 (.pointer (some ⟨b59,k,none⟩)) O (by simp) ?_
  refine uU ?_
  (first |(apply bL rfl rfl (hE.t rfl) rfl;(focus((repeat constructor);done));(focus rfl);(focus(exact Nat.le_of_ble_eq_true rfl)))|(apply aS rfl rfl (hE.t rfl) rfl;(focus((repeat constructor);done));(focus rfl);(focus(first |omega |(simp only[bP,aN,List.length_cons,List.length_nil];omega)))))
  refine aM (bI (aK ?_))
  have hrk:(rawN l)[k]?=some p.2.toNat:=by unfold rawN;rw[List.getElem?_map,hp];rfl
  simp only[bP]
  rw[qDn hrk oO]
  refine aJ (uB (uAa O O) (uM O (aM ?_)))
  refine bS (ι:=Nat) (j:=k+1) ⟨oO,fun j p' hj hjp=>?_⟩ oO ⟨O,O,O,O,O,congrArg some (bW oO),trivial⟩ uI
  rcases Nat.lt_or_ge j k with h'|h'
  ·exact hall j p' h' hjp
  obtain rfl:j=k:=by omega
  rw[hp]at hjp
  cases hjp
  exact⟨oO,oO⟩
 obtain rfl:k=l.length:=by omega
 have hIn:InR Es.length l:=fun p hp=>by
  obtain⟨j,hj⟩:=List.getElem?_of_mem hp
  exact hall j p (List.getElem?_eq_some_iff.1 hj).1 hj
 have hv:idC ((rawN l).take l.length)++us59.drop l.length=idC (rawN l):=by
  rw[List.take_of_length_le oO,List.drop_eq_nil_of_le oO,List.append_nil]
 rw[hv]
 refine dF (aQ (aQ (bH (aK (dO (uM O (uM O (uX (hAll ⟨hNames,hord,hIn⟩ (some ⟨b59,0,none⟩) l.length) O ?_))))))))
 rintro _ _⟨M,f',ys,g',c',rfl,hyl,hP,rfl⟩
 simp only[uV,uW]
 refine uM O (uB (aT O O) (uB (aT O O) (uA O (uA O (dN (aL (dO (uM O ?_))))))))
 apply aA
 ·(first |exact dU rfl (hE.t rfl)|exact dX rfl (hE.t rfl))
 ·rfl
 refine dN (bD O (bC (aK (dO (uM O (uM O (uA O (uA O (uA O (dN (bZ ?_)))))))))))
 exact uZ O (.tmp O (.tmp O (.tmp O .nil))) (.inr ⟨M,f',ys,some ⟨g',0,none⟩,c',⟨hNames,hord,hIn⟩,O,hyl,hP,O⟩)
theorem qMp (hE:Seat E){P:List Ent→(Int→Option Value)→List Nat→Prop}{l:List (List UInt8×Int)}{a:Option Addr}{ca:Nat}{q:HP}(hq:Rdb E.w0 a (nlC l) q)(hn:l.length≤1000)
  (hAll:SgO Es.length l→∀p c,Ct E 55 [uPt m,.slice p l.length c] [cells pp [uPt s,uPt tb] 97,tabP tb s (rls Es),bR s most Es,cells m [uPt pp,.map (some bm)] 93,mapF bm .i64 f,sl p c 44 1 l.length (idC (rawN l))] (fun v Q=>∃(M:List Ent)(f':Int→Option Value)(ys:List Nat)(g' c':Nat),v= .tuple #[.slice (some ⟨g',0,none⟩) l.length c',.nilIface]∧ys.length=l.length∧P M f' ys∧Q=[cells pp [uPt s,uPt tb] 97,tabP tb s (rls (Es++M)),bR s most (Es++M),cells m [uPt pp,.map (some bm)] 93,mapF bm .i64 f',sl p c 44 1 l.length (idC (rawN l)),sl (some ⟨g',0,none⟩) c' 44 1 l.length (idC ys)])) (hPy:∀M f' ys,SgO Es.length l→ys.length=l.length→P M f' ys→∀y∈ys,y≤(Es++M).length):
  Ct E 9 [uPt m,.slice a l.length ca] [cells pp [uPt s,uPt tb] 97,tabP tb s (rls Es),bR s most Es,cells m [uPt pp,.map (some bm)] 93,mapF bm .i64 f,q]
   (fun v Q=>(∃e,SgE Es.length l e∧v= .tuple #[.slice none 0 0,.iface 58 (.int .i64 e)]∧Q=[cells pp [uPt s,uPt tb] 97,tabP tb s (rls Es),bR s most Es,cells m [uPt pp,.map (some bm)] 93,mapF bm .i64 f,q])∨
    ∃M f' ys g c B,SgO Es.length l∧v= .tuple #[.slice (some ⟨g,0,none⟩) B.length c,.nilIface]∧B=encB (rls (Es++M)) (dD (rls (Es++M)) ys []) (nmY l ys)∧ys.length=l.length∧P M f' ys∧Q=[cells pp [uPt s,uPt tb] 97,tabP tb s (rls (Es++M)),bR s most (Es++M),cells m [uPt pp,.map (some bm)] 93,mapF bm .i64 f',q,sl (some ⟨g,0,none⟩) c 5 1 B.length (byC B)]):=by
 refine bO (hE.fn Tryz.func9) O O O (fun R=>?_)
 simp only[dY,uV,uW]
 refine dO (uA O (uA O (dN (dO (uM O (uM O (uX (qBp (s:=s) (tb:=tb) (most:=most) (f:=f) (m:=m) (pp:=pp) (bm:=bm) hE hq hn hAll) O ?_)))))))
 rintro _ _(⟨e,he,rfl,rfl⟩|⟨M,f',ys,p',c',ho,rfl,hyl,hP,rfl⟩)
 ·simp only[uV,uW]
  refine uM O (uB (aT O O) (uB (aT O O) (uB (aT O O) (uA O (uA O (uA O (dN (aL (dO (uM O ?_))))))))))
  apply aA
  ·(first |exact dU rfl (hE.t rfl)|exact dX rfl (hE.t rfl))
  ·rfl
  refine dN (bF O (dO (uM O (uA O (uA O (dN (bZ (aV ?_))))))))
  exact uZ O (.tmp O (.tmp O .nil)) (.inl ⟨e,he,O,O⟩)
 have hyo:=hPy M f' ys ho hyl hP
 simp only[uV,uW]
 refine uM O (uB (aT O O) (uB (aT O O) (uB (aT O O) (uA O (uA O (uA O (dN (aL (dO (uM O ?_))))))))))
 apply aA
 ·(first |exact dU rfl (hE.t rfl)|exact dX rfl (hE.t rfl))
 ·rfl
 refine dN (bD O (bC (aK (dO (uM O (uM O (uX (zG (s:=s) (most:=most) (Es:=Es++M) hE hyl hyo oO) O ?_)))))))
 rintro _ _⟨pl,cl,rfl,rfl⟩
 simp only[uV,uW]
 refine qC (p:=bR s most (Es++M)) uK (fun _ h=>dR h) (fun hsay=>?_)
 have hmr:fA=1048576:=rfl
 have hLl:=bQ (Es++M)
 have hao:AccOk (rls (Es++M)) (dD (rls (Es++M)) ys []):=AccOk.visits hsay.1 (fun y hy=>by have:=hyo y hy;omega)
 have hord:=xF hsay.1 ys [] (qQt _)
 obtain⟨ids,hids⟩:∃ids,ids=dD (rls (Es++M)) ys []:=⟨_,rfl⟩
 rw[←hids]at hao hord ⊢
 have hal:=hao.len
 have h0i:0∉ids:=fun h=>by have:=(hao.2 0 h).1;omega
 refine uA O (dN (dO (uM O (uB (uBl O) (uU ?_)))))
 refine qCr .i64 (kt:=44) (et:=3) (by rw[hE.P];kernel_rfl) O (fun b35=>?_)
 refine uA O (dN ?_)
 rw[qQp]
 refine dO (uM O (uB (uBl O) (uB (uAc O) ?_)))
 refine uX (mW (n:=ids.length) hE oO) O ?_
 rintro _ _⟨g0,c0,rfl,rfl⟩
 simp only[uV,uW]
 have hv10:=gB (n:=ids.length) oO
 refine uA O (dN (aL (dO (uM O (uB (uBl O) (uM O (dN (bK ?_))))))))
 refine fD (fun x:EnG=>[(1,.slice a l.length ca),(6,uPt s),(7,.slice p' l.length c'),(10,.map (some b35)),(11,.slice (some ⟨x.g,0,none⟩) x.done.length x.c),(40,.slice pl ids.length cl),(41,.int .i64 (ids.length:Nat)),(42,.int .i64 (x.k:Nat))])
  (fun x=>[bR s most (Es++M),cells pp [uPt s,uPt tb] 97,tabP tb s (rls (Es++M)),cells m [uPt pp,.map (some bm)] 93,mapF bm .i64 f',q,sl p' c' 44 1 l.length (idC ys),mapF b35 .i64 (nuF (ids.take x.k)),sl (some ⟨x.g,0,none⟩) x.c 5 1 x.done.length (byC x.done),sl pl cl 44 1 ids.length (idC ids),R]) (fun x=>ids.length-x.k)
  (fun x=>x.k≤ids.length∧x.done=vput ids.length++encR (rls (Es++M)) ids x.k∧x.done.length≤10+21*x.k) ⟨0,vput ids.length,g0,c0⟩ ⟨Nat.zero_le _,by simp[encR],by simp only;omega⟩ ⟨rfl,rfl,rfl,rfl,rfl,rfl,rfl,rfl,trivial⟩ uI ?_
 rintro⟨k,done,g,c⟩⟨hk1,hdone,hdl⟩
 simp only at hk1 hdone hdl ⊢
 refine dO (uB (y_lt O O) (dN (aL ?_)))
 refine bE O (fun h=>?_) (fun h=>?_)
 ·have hkl:k<ids.length:=oO
  obtain⟨x,hx⟩:∃x,ids[k]?=some x:=⟨_,List.getElem?_eq_getElem hkl⟩
  have hxx:=hao.2 x (List.mem_of_getElem? hx)
  obtain⟨i,rfl⟩:∃i,x=i+1:=⟨x-1,oO⟩
  have hent:(Es++M)[i]?=some ((Es++M)[i]'oO):=List.getElem?_eq_getElem oO
  generalize(Es++M)[i]'oO=en at hent
  have hri:=qI hent
  have hsplit:ids=ids.take k++(i+1)::ids.drop (k+1):=by
   have:=List.take_append_drop k ids
   rw[yH hx]at this
   exact this.symm
  have hkids:=hord _ _ _ _ hsplit hri
  have htk:ids.take (k+1)=ids.take k++[i+1]:=by rw[List.take_add_one,hx];rfl
  have htl:(ids.take k).length=k:=by simp;omega
  obtain⟨hro,hrn⟩:=qLl htk (hsay.1.ok _ _ hri) hkids
  rw[htl]at hro
  have hrn2:iR ids en.r=iR (ids.take (k+1)) en.r:=by
   have:=hrn (ids.drop (k+1))
   rwa [List.take_append_drop]at this
  have h0t:0∉ids.take (k+1):=fun h=>h0i (List.mem_of_mem_take h)
  have hrt:(iR (ids.take (k+1)) en.r).times≤1152921504606846976:=by
   rw[qG]
   have hsh:=hsay.1.short (i+1)
   have hmx:dC=1152921504606846976:=rfl
   have hok:=hsay.1.ok _ _ hri
   generalize en.r=r at hri hok ⊢
   cases r with
   |letter b=>simp[Rl.times]
   |pair a b=>simp[Rl.times]
   |power x t=>
    have e:=kV hri hok
    simp only[Rl.ok]at hok
    have h1:=hsay.1.pos x hok.1 oO
    have h2:t*1≤t*Eg.len (rls (Es++M)) x:=Nat.mul_le_mul_left _ h1
    simp only[Rl.times]
    have e2:Eg.len (rls (Es++M)) (i+1)=(txt (rls (Es++M)) (i+1)).length:=rfl
    have e3:t*Eg.len (rls (Es++M)) x=Eg.len (rls (Es++M)) (i+1):=by rw[e]
    omega
  have hrl:=qLr (k+1) oO (iR (ids.take (k+1)) en.r) hrt
  refine iT (p:=sl pl cl 44 1 ids.length (idC ids)) uK (fun _ h=>fB h oO) ?_
  rintro⟨gx,rfl⟩
  have f0:=fK hx (0+((k:Nat):Int).toNat) oO
  have f1:=fK hx (((k:Nat):Int).toNat) oO
  refine bC (aK (aL (bK (dO (uM O ?_)))))
  apply aA
  ·(first |exact uAj rfl rfl|exact uAi rfl rfl)
  ·rfl
  apply aA
  ·(first |(apply aO rfl (hE.t rfl) rfl;(repeat(first |rfl|assumption|constructor));done)|exact aY rfl (hE.t rfl) rfl (by assumption)|(apply bB rfl (hE.t rfl) rfl;(focus((repeat constructor);done));(focus assumption))|(apply bJ rfl (hE.t rfl) rfl (by assumption);(focus((repeat constructor);done));(first |((focus exact f0);(focus omega))|((focus exact f1);(focus omega))|((focus assumption);(focus omega)))))
  ·rfl
  refine uA O (uA O (dN (dO (uM O (uM O (uM O (uB (uAa O O) ?_)))))))
  refine l_eq 50 (.int .i64 ((k+1:Nat):Int)) O (bW oO) ?_
  refine uU ?_
  apply kU (kt:=44) (et:=3) (by rw[hE.P];kernel_rfl) (by rw[hE.P];kernel_rfl) O O O
  ·exact uK
  refine dN ?_
  rw[nuF_at hx hao.1]
  refine dO (uM O (uM O (uX (mD hE hent) O ?_)))
  rintro _ _⟨rfl,rfl⟩
  simp only[uV,uW]
  have hf1:nuF (ids.take (k+1)) ((en.r.left:Nat):Int)=nuF (ids.take (k+1)) ((en.r.left:Nat):Int):=rfl
  have hf2:nuF (ids.take (k+1)) ((en.r.right:Nat):Int)=nuF (ids.take (k+1)) ((en.r.right:Nat):Int):=rfl
  refine uM O (uB (aT O O) (uB (aT O O) (uU (dA (hE.t O) (fun b14=>?_)))))
  refine uU ?_
  (first |(apply bL rfl rfl (hE.t rfl) rfl;(focus((repeat constructor);done));(focus rfl);(focus(exact Nat.le_of_ble_eq_true rfl)))|(apply aS rfl rfl (hE.t rfl) rfl;(focus((repeat constructor);done));(focus rfl);(focus(first |omega |(simp only[bP,aN,List.length_cons,List.length_nil];omega)))))
  refine uA O (dN (dO (uM O (uB (uBf O) ?_))))
  apply aA
  ·(first |(apply aO rfl (hE.t rfl) rfl;(repeat(first |rfl|assumption|constructor));done)|exact aY rfl (hE.t rfl) rfl (by assumption)|(apply bB rfl (hE.t rfl) rfl;(focus((repeat constructor);done));(focus assumption))|(apply bJ rfl (hE.t rfl) rfl (by assumption);(focus((repeat constructor);done));(first |((focus exact f0);(focus omega))|((focus exact f1);(focus omega))|((focus assumption);(focus omega)))))
  ·rfl
  refine uB (jJ (kt:=44) (et:=3) (z:= .int .i64 0) (by rw[hE.P];kernel_rfl) (by rw[hE.P];kernel_rfl) (fun w=>by rw[hE.P];kernel_rfl) rfl rfl uK (by assumption)) ?_
  refine l_eq 60 (.int .i64 (numb (ids.take (k+1)) en.r.left:Nat)) O (wU _ _) ?_
  refine uB (uBf O) ?_
  refine uU ?_
  (first |(apply bL rfl rfl (hE.t rfl) rfl;(focus((repeat constructor);done));(focus rfl);(focus(exact Nat.le_of_ble_eq_true rfl)))|(apply aS rfl rfl (hE.t rfl) rfl;(focus((repeat constructor);done));(focus rfl);(focus(first |omega |(simp only[bP,aN,List.length_cons,List.length_nil];omega)))))
  refine dN (dO (uM O (uB (uBf O) ?_)))
  apply aA
  ·(first |(apply aO rfl (hE.t rfl) rfl;(repeat(first |rfl|assumption|constructor));done)|exact aY rfl (hE.t rfl) rfl (by assumption)|(apply bB rfl (hE.t rfl) rfl;(focus((repeat constructor);done));(focus assumption))|(apply bJ rfl (hE.t rfl) rfl (by assumption);(focus((repeat constructor);done));(first |((focus exact f0);(focus omega))|((focus exact f1);(focus omega))|((focus assumption);(focus omega)))))
  ·rfl
  refine uB (jJ (kt:=44) (et:=3) (z:= .int .i64 0) (by rw[hE.P];kernel_rfl) (by rw[hE.P];kernel_rfl) (fun w=>by rw[hE.P];kernel_rfl) rfl rfl uK (by assumption)) ?_
  refine l_eq 65 (.int .i64 (numb (ids.take (k+1)) en.r.right:Nat)) O (wU _ _) ?_
  refine uB (uBf O) ?_
  refine uU ?_
  (first |(apply bL rfl rfl (hE.t rfl) rfl;(focus((repeat constructor);done));(focus rfl);(focus(exact Nat.le_of_ble_eq_true rfl)))|(apply aS rfl rfl (hE.t rfl) rfl;(focus((repeat constructor);done));(focus rfl);(focus(first |omega |(simp only[bP,aN,List.length_cons,List.length_nil];omega)))))
  refine dN ?_
  refine iU (cO (p:=cells b14 [.int .i64 (en.r.kind:Nat),.int .u8 (en.r.byte:Nat),.int .i64 (numb (ids.take (k+1)) en.r.left:Nat),.int .i64 (numb (ids.take (k+1)) en.r.right:Nat),.int .i64 (en.r.times:Nat)] 86) (p':=cells b14 [.int .i64 (Rl.kind ((iR (ids.take (k+1)) en.r)):Nat),.int .u8 (Rl.byte ((iR (ids.take (k+1)) en.r)):Nat),.int .i64 (Rl.left ((iR (ids.take (k+1)) en.r)):Nat),.int .i64 (Rl.right ((iR (ids.take (k+1)) en.r)):Nat),.int .i64 (Rl.times ((iR (ids.take (k+1)) en.r)):Nat)] 86) uK (fun _ h=>by rw[qDb,qDa,qDc h0t,qAp h0t,qG];exact h)) ?_
  refine dO ?_
  apply aA
  ·(first |(apply bV rfl (hE.t rfl) rfl;(repeat(first |rfl|assumption|constructor));done)|(apply dL rfl (hE.t rfl) rfl (by assumption);(focus((repeat constructor);done));(focus exact fm);(focus rfl);(focus omega)))
  ·rfl
  refine uM O (uB (uAa O O) ?_)
  refine l_eq 70 (.int .i64 ((k+1:Nat):Int)) O (bW oO) ?_
  refine uX (qOy (r:=iR (ids.take (k+1)) en.r) (n:=k+1) hE hro oO oO hrt) O ?_
  rintro _ _⟨gr,cr,rfl,rfl⟩
  simp only[uV,uW]
  refine uM O (uB (aT O O) (uB (aT O O) (uA O (uA O (dN (aJ (uM O (uM O (uU ?_)))))))))
  apply gG (hE.t O) (hE.t O) O O O
  ·exact uK
  ·exact uK
  ·exact iQ _
  ·exact hrl.1
  ·omega
  ·unfold maxLen;omega
  intro g1 c1 m' x' hm' hx'
  obtain rfl:m'=(done++rulB (k+1) (iR (ids.take (k+1)) en.r)).length:=hm'.trans List.length_append.symm
  obtain rfl:x'=byC (done++rulB (k+1) (iR (ids.take (k+1)) en.r)):=hx'.trans (gK _ _).symm
  clear hm' hx'
  refine uA O (aM (bI (aK (aJ (uB (uAa O O) (uM O (aM ?_)))))))
  refine bS (ι:=EnG) (j:=⟨k+1,done++rulB (k+1) (iR (ids.take (k+1)) en.r),g1,c1⟩) ⟨by simp only;omega,by simp only;rw[qX hx hri,←List.append_assoc,←hdone,hrn2],by simp only[List.length_append];omega⟩ (by simp only;omega) ⟨rfl,rfl,rfl,rfl,rfl,rfl,rfl,congrArg some (bW (by simp only;omega)),trivial⟩ ?_
  exact uI
 obtain rfl:k=ids.length:=by omega
 rw[List.take_length]
 clear h hk1
 have hv2:=gB (n:=l.length) oO
 refine dF (aQ (aQ (bH (aK (dO (uM O (uM O (uB (uBl O) (uB (uAc O) ?_)))))))))
 refine uX (mW (n:=l.length) hE oO) O ?_
 rintro _ _⟨g2,c2,rfl,rfl⟩
 simp only[uV,uW]
 refine uU ?_
 apply gG (hE.t O) (hE.t O) O O O
 ·exact uK
 ·exact uK
 ·exact iQ _
 ·exact(jD _)
 ·omega
 ·unfold maxLen;omega
 intro g3 c3 m' x' hm' hx'
 obtain rfl:m'=(done++vput l.length).length:=hm'.trans List.length_append.symm
 obtain rfl:x'=byC (done++vput l.length):=hx'.trans (gK _ _).symm
 clear hm' hx'
 have hd3:(done++vput l.length).length=done.length+(vput l.length).length:=List.length_append
 refine uA O (dN (aL (dO (uM O (uB (uBl O) (uM O (dN (bK ?_))))))))
 refine fD (fun x:EnG=>[(7,.slice p' l.length c'),(10,.map (some b35)),(11,.slice (some ⟨x.g,0,none⟩) x.done.length x.c),(84,.slice a l.length ca),(85,.int .i64 (l.length:Nat)),(86,.int .i64 (x.k:Nat))])
  (fun x=>[bR s most (Es++M),cells pp [uPt s,uPt tb] 97,tabP tb s (rls (Es++M)),cells m [uPt pp,.map (some bm)] 93,mapF bm .i64 f',q,sl p' c' 44 1 l.length (idC ys),mapF b35 .i64 (nuF ids),sl (some ⟨x.g,0,none⟩) x.c 5 1 x.done.length (byC x.done),R]) (fun x=>l.length-x.k)
  (fun x=>x.k≤l.length∧x.done=done++vput l.length++encN ids ((nmY l ys).take x.k)∧x.done.length≤10+21*ids.length+10+52*x.k) ⟨0,done++vput l.length,g3,c3⟩ ⟨Nat.zero_le _,by simp[encN],by simp only;omega⟩ ⟨rfl,rfl,rfl,rfl,rfl,rfl,trivial⟩ uI ?_
 rintro⟨k,dn,g,c⟩⟨hk1,hdn,hdl2⟩
 simp only at hk1 hdn hdl2 ⊢
 refine dO (uB (y_lt O O) (dN (aL ?_)))
 refine bE O (fun h=>?_) (fun h=>?_)
 ·have hkl:k<l.length:=oO
  obtain⟨p,hp⟩:∃p,l[k]?=some p:=⟨_,List.getElem?_eq_getElem hkl⟩
  obtain⟨y,hy⟩:∃y,ys[k]?=some y:=⟨_,List.getElem?_eq_getElem oO⟩
  have hpl:=(ho.1 p (List.mem_of_getElem? hp)).2.1
  obtain⟨go,o,rfl,hq'⟩:=hq (xP oO)
  have fm:=wT hp
  have hnb:=qAj ids y
  have hv1:=gB (n:=p.1.length) oO
  have hv3:=gB (n:=numb ids y) oO
  have hbl:(iA p.1).length=(vput p.1.length).length+p.1.length:=List.length_append
  have hbp:0<(iA p.1).length:=by have:=jD p.1.length;omega
  refine iT (p:=sl p' c' 44 1 l.length (idC ys)) uK (fun _ h=>fB h oO) ?_
  rintro⟨gy,rfl⟩
  have f0:=fK hy (0+((k:Nat):Int).toNat) oO
  have f1:=fK hy (((k:Nat):Int).toNat) oO
  have hf1:nuF ids ((y:Nat):Int)=nuF ids ((y:Nat):Int):=rfl
  refine bC (aK (aL (bK (dO (uM O (uB (uAi O O) ?_))))))
  apply aA
  ·(first |(apply bV rfl (hE.t rfl) rfl;(repeat(first |rfl|assumption|constructor));done)|(apply dL rfl (hE.t rfl) rfl (by assumption);(focus((repeat constructor);done));(focus exact fm);(focus rfl);(focus omega)))
  ·rfl
  refine uU (dA (hE.t O) (fun b19=>?_))
  refine uA O (uU ?_)
  (first |(apply bL rfl rfl (hE.t rfl) rfl;(focus((repeat constructor);done));(focus rfl);(focus(exact Nat.le_of_ble_eq_true rfl)))|(apply aS rfl rfl (hE.t rfl) rfl;(focus((repeat constructor);done));(focus rfl);(focus(first |omega |(simp only[bP,aN,List.length_cons,List.length_nil];omega)))))
  refine dN (dO (uM O (uB (uBf O) ?_)))
  apply aA
  ·(first |(apply aO rfl (hE.t rfl) rfl;(repeat(first |rfl|assumption|constructor));done)|exact aY rfl (hE.t rfl) rfl (by assumption)|(apply bB rfl (hE.t rfl) rfl;(focus((repeat constructor);done));(focus assumption))|(apply bJ rfl (hE.t rfl) rfl (by assumption);(focus((repeat constructor);done));(first |((focus exact f0);(focus omega))|((focus exact f1);(focus omega))|((focus assumption);(focus omega)))))
  ·rfl
  refine uU ?_
  refine qLc O (hE.t O) (hE.t O) (hE.t O) (fun gb cb=>?_)
  refine uX (zA (g:=gb) (c:=cb) (bs:=p.1) hE oO) O ?_
  rintro _ _⟨g4,c4,rfl,rfl⟩
  simp only[uV,uW]
  refine uU ?_
  apply gG (hE.t O) (hE.t O) O O O
  ·exact uK
  ·exact uK
  ·exact iQ _
  ·exact hbp
  ·omega
  ·unfold maxLen;omega
  intro g5 c5 m' x' hm' hx'
  obtain rfl:m'=(dn++iA p.1).length:=hm'.trans List.length_append.symm
  obtain rfl:x'=byC (dn++iA p.1):=hx'.trans (gK _ _).symm
  clear hm' hx'
  have hd5:(dn++iA p.1).length=dn.length+(iA p.1).length:=List.length_append
  refine uA O (dN (aJ (uM O (uM O (uM O (uM O ?_))))))
  apply aA
  ·(first |exact uAj rfl rfl|exact uAi rfl rfl)
  ·rfl
  apply aA
  ·(first |(apply aO rfl (hE.t rfl) rfl;(repeat(first |rfl|assumption|constructor));done)|exact aY rfl (hE.t rfl) rfl (by assumption)|(apply bB rfl (hE.t rfl) rfl;(focus((repeat constructor);done));(focus assumption))|(apply bJ rfl (hE.t rfl) rfl (by assumption);(focus((repeat constructor);done));(first |((focus exact f0);(focus omega))|((focus exact f1);(focus omega))|((focus assumption);(focus omega)))))
  ·rfl
  refine uB (jJ (kt:=44) (et:=3) (z:= .int .i64 0) (by rw[hE.P];kernel_rfl) (by rw[hE.P];kernel_rfl) (fun w=>by rw[hE.P];kernel_rfl) rfl rfl uK (by assumption)) ?_
  refine l_eq 103 (.int .i64 (numb ids y:Nat)) O (wU _ _) ?_
  refine uB (uAc O) ?_
  refine uX (mW (n:=numb ids y) hE oO) O ?_
  rintro _ _⟨g6,c6,rfl,rfl⟩
  simp only[uV,uW]
  refine uU ?_
  apply gG (hE.t O) (hE.t O) O O O
  ·exact uK
  ·exact uK
  ·exact iQ _
  ·exact(jD _)
  ·omega
  ·unfold maxLen;omega
  intro g7 c7 m' x' hm' hx'
  obtain rfl:m'=(dn++iA p.1++vput (numb ids y)).length:=hm'.trans List.length_append.symm
  obtain rfl:x'=byC (dn++iA p.1++vput (numb ids y)):=hx'.trans (gK _ _).symm
  clear hm' hx'
  have hd7:(dn++iA p.1++vput (numb ids y)).length=(dn++iA p.1).length+(vput (numb ids y)).length:=List.length_append
  refine uA O (aM (bI (aK (aJ (uB (uAa O O) (uM O (aM ?_)))))))
  refine bS (ι:=EnG) (j:=⟨k+1,dn++iA p.1++vput (numb ids y),g7,c7⟩) ⟨by simp only;omega,by simp only;rw[qLf hp hy,qGu,hdn];simp only[List.append_assoc],by simp only;omega⟩ (by simp only;omega) ⟨rfl,rfl,rfl,rfl,rfl,congrArg some (bW (by simp only;omega)),trivial⟩ ?_
  exact uI
 obtain rfl:k=l.length:=by omega
 have hnl:(nmY l ys).take l.length=nmY l ys:=List.take_of_length_le (by unfold nmY;simp;omega)
 have hB:dn=encB (rls (Es++M)) ids (nmY l ys):=by
  have hnn:(nmY l ys).length=l.length:=by unfold nmY;simp;omega
  rw[hdn,hnl,hdone,encB,hnn]
 refine dF (aQ (aQ (bH (aK (dO (uM O (uA O (uA O (dN (bZ ?_))))))))))
 exact uZ O (.tmp O (.tmp O .nil)) (.inr ⟨M,f',ys,g,c,dn,ho,O,by rw[hB,hids],hyl,hP,rfl⟩)
end Go.Proofs.YtlmpojkmeglepaaGreatDoor
namespace Sl
open Go Go.RowKit
theorem ct_postW {E:Env}{f:FuncId}{args:List Value}{Pre:List HP}{Φ Φ':Value→List HP→Prop}(h:Ct E f args Pre Φ)(hi:∀v Q,Φ v Q→Φ' v Q):Ct E f args Pre Φ':=fun R w s=>
 (h R w s).mono fun e w'⟨v,Qs,h1,h2,h3⟩=>⟨v,Qs,h1,hi v Qs h2,h3⟩
end Sl
namespace Go.Proofs.YtlmpojkmeglepaaGreatDoor
open Go Go.RowKit Sl Eg
set_option maxRecDepth 10000
section
variable {E:Env}{Es:List Ent}{pp tb s most m bm:Nat}{f:Int→Option Value}
structure AlS where
 M:List Ent
 f:Int→Option Value
 k:Nat
 g:Nat
 c:Nat
theorem ct_AllS (hE:Seat E)(hB:Base E.w0){xs:List Nat}{N n:Nat}(hxn:xs.length=n){p:Option Addr}{c:Nat}(hx:∀x∈xs,x=0∨Sig (rls Es) x) (hxN:∀x∈xs,x≤N) (hN:N≤Es.length) (hn:n≤1000) (hroom:Es.length+256+unk f N≤most) (hk:Kn (rls Es) f):
  Ct E 55 [uPt m,.slice p n c] [cells pp [uPt s,uPt tb] 97,tabP tb s (rls Es),bR s most Es,cells m [uPt pp,.map (some bm)] 93,mapF bm .i64 f,sl p c 44 1 n (idC xs)]
   (fun v Q=>∃(M:List Ent)(f':Int→Option Value)(ys:List Nat)(g' c':Nat),v= .tuple #[.slice (some ⟨g',0,none⟩) n c',.nilIface]∧ys.length=n∧(ys=xs∧M.length+unk f' N≤unk f N∧Kn (rls (Es++M)) f')∧Q=[cells pp [uPt s,uPt tb] 97,tabP tb s (rls (Es++M)),bR s most (Es++M),cells m [uPt pp,.map (some bm)] 93,mapF bm .i64 f',sl p c 44 1 n (idC xs),sl (some ⟨g',0,none⟩) c' 44 1 n (idC ys)]):=by
 subst hxn
 refine eZ (p:=bR s most Es) uK (fun _ h=>dR h) (fun hsay=>?_)
 have hw:=hsay.1
 refine bO (hE.fn Tryz.func55) O O O (fun R=>?_)
 simp only[dY,uV,uW]
 refine dO (uA O (uA O (dN (dO (uM O (uB (uBl O) (uU ?_)))))))
 refine jI (hE.t O) (hE.t O) O O (by first |omega |exact Nat.le_of_ble_eq_true rfl) (by(unfold maxLen;first |omega |exact Nat.le_of_ble_eq_true rfl)) (fun b13 us13 hu13=>?_)
 refine uA O (dN (aL (dO (uM O (uB (uBl O) (uM O (dN (bK ?_))))))))
 refine iU (cO (p:=sl (some ⟨b13,0,none⟩) xs.length 44 1 xs.length us13) (p':=sl (some ⟨b13,0,none⟩) xs.length 44 1 0 (idC [])) uK (lD (Nat.zero_le _) O (by simp))) ?_
 refine fD (fun q:AlS=>[(0,uPt m),(6,.slice (some ⟨q.g,0,none⟩) q.k q.c),(14,.slice p xs.length c),(15,.int .i64 (xs.length:Nat)),(16,.int .i64 (q.k:Nat))]) (fun q=>[cells pp [uPt s,uPt tb] 97,tabP tb s (rls (Es++q.M)),bR s most (Es++q.M),cells m [uPt pp,.map (some bm)] 93,mapF bm .i64 q.f,sl p c 44 1 xs.length (idC xs),sl (some ⟨q.g,0,none⟩) q.c 44 1 q.k (idC (xs.take q.k)),R])
  (fun q=>xs.length-q.k) (fun q=>q.k≤xs.length∧q.M.length+unk q.f N≤unk f N∧Kn (rls (Es++q.M)) q.f) ⟨[],f,0,b13,xs.length⟩ ⟨Nat.zero_le _,by simp,by rw[List.append_nil];exact hk⟩ ⟨rfl,rfl,rfl,rfl,rfl,trivial⟩ ?_ ?_
 ·rw[List.append_nil]
  exact uI
 rintro⟨M,f',k,g,c2⟩⟨hle,hM,hkn⟩
 simp only at hle hM hkn ⊢
 have hEM:(Es++M).length=Es.length+M.length:=List.length_append
 refine iT (p:=bR s most (Es++M)) uK (fun _ h=>dR h) ?_
 rintro⟨hw2, -, -, -⟩
 refine dO (uB (y_lt O O) (dN (aL ?_)))
 refine bE O (fun h=>?_) (fun h=>?_)
 ·have hlt:k<xs.length:=oO
  obtain⟨x,hxi⟩:∃x,xs[k]?=some x:=⟨_,List.getElem?_eq_getElem hlt⟩
  have hxm:=List.mem_of_getElem? hxi
  have hxs:x=0∨Sig (rls (Es++M)) x:=by
   rcases hx x hxm with h| h
   ·exact .inl h
   right
   rw[dB]at hw2 ⊢
   exact h.ext _ hw hw2
  refine iT (p:=sl p c 44 1 xs.length (idC xs)) uK (fun _ h=>fB h oO) ?_
  rintro⟨gx,rfl⟩
  have f0:=fK hxi (0+((k:Nat):Int).toNat) oO
  have f1:=fK hxi (((k:Nat):Int).toNat) oO
  refine bC (aK (aL (bK (dO ?_))))
  apply aA
  ·(first |exact uAj rfl rfl|exact uAi rfl rfl)
  ·rfl
  apply aA
  ·(first |(apply aO rfl (hE.t rfl) rfl;(repeat(first |rfl|assumption|constructor));done)|exact aY rfl (hE.t rfl) rfl (by assumption)|(apply bB rfl (hE.t rfl) rfl;(focus((repeat constructor);done));(focus assumption))|(apply bJ rfl (hE.t rfl) rfl (by assumption);(focus((repeat constructor);done));(first |((focus exact f0);(focus omega))|((focus exact f1);(focus omega))|((focus assumption);(focus omega)))))
  ·rfl
  refine uA O (dN (dO (uM O (uM O (uX (qOs (s:=s) (tb:=tb) (most:=most) (Es:=Es++M) (f:=f') (m:=m) (pp:=pp) (bm:=bm) (N:=N) hE hB hxs (hxN x hxm) oO oO hkn) O ?_)))))
  rintro _ _⟨M2,f2,rfl,hM2,hkn2,rfl⟩
  simp only[uV,uW]
  rw[List.append_assoc]at hkn2 ⊢
  refine uM O (uB (aT O O) (uB (aT O O) (uA O (uA O (dN (aL (dO (uM O ?_))))))))
  apply aA
  ·(first |exact dU rfl (hE.t rfl)|exact dX rfl (hE.t rfl))
  ·rfl
  refine dN (bD O (bC (aK (aJ (uM O (uM O (uU ?_)))))))
  refine aU (hE.t O) (hE.t O) O O O (fun b31=>?_)
  refine uU ?_
  apply bU (hE.t O) (hE.t O) O O O
  ·exact uK
  ·exact uK
  ·rfl
  ·rfl
  ·omega
  ·omega
  ·(unfold maxLen;omega)
  intro g32 c32 n32 x32 hn32 hx32
  refine uA O (aM (bI (aK (aJ (uB (uAa O O) (uM O (aM ?_)))))))
  obtain rfl:x32=idC (xs.take (k+1)):=by rw[hx32,List.take_add_one,hxi,kM];rfl
  subst hn32
  refine bS (ι:=AlS) (j:=⟨M++M2,f2,k+1,g32,c32⟩) ⟨by simp only;omega,by simp only[List.length_append];omega,hkn2⟩ (by simp only;omega) ⟨rfl,rfl,rfl,rfl,congrArg some (bW (by simp only;omega)),trivial⟩ ?_
  exact uI
 obtain rfl:k=xs.length:=by omega
 rw[List.take_length]
 refine dF (aQ (aQ (bH (aK (dO (uM O (uA O (uA O (dN (bZ ?_))))))))))
 exact uZ O (.tmp O (.tmp O .nil)) ⟨M,f',xs,g,c2,O,O,⟨O,hM,hkn⟩,O⟩
def SgL (L:List Rl)(N:Nat)(l:List (List UInt8×Int)):Prop:=∀p∈l,0≤p.2→p.2≤(L.length:Nat)→p.2.toNat≤N∧(p.2.toNat=0∨Sig L p.2.toNat)
theorem qMq (hE:Seat E)(hB:Base E.w0){N:Nat}{l:List (List UInt8×Int)}{a:Option Addr}{ca:Nat}{q:HP}(hq:Rdb E.w0 a (nlC l) q)(hn:l.length≤1000)(hl:SgL (rls Es) N l)(hN:N≤Es.length)(hroom:Es.length+256+unk f N≤most)(hk:Kn (rls Es) f):
  Ct E 9 [uPt m,.slice a l.length ca] [cells pp [uPt s,uPt tb] 97,tabP tb s (rls Es),bR s most Es,cells m [uPt pp,.map (some bm)] 93,mapF bm .i64 f,q]
   (fun v Q=>(∃e,SgE Es.length l e∧v= .tuple #[.slice none 0 0,.iface 58 (.int .i64 e)]∧Q=[cells pp [uPt s,uPt tb] 97,tabP tb s (rls Es),bR s most Es,cells m [uPt pp,.map (some bm)] 93,mapF bm .i64 f,q])∨
    ∃(M:List Ent)(f':Int→Option Value)(g c:Nat)(B:List UInt8),SgO Es.length l∧v= .tuple #[.slice (some ⟨g,0,none⟩) B.length c,.nilIface]∧B=encB (rls (Es++M)) (dD (rls (Es++M)) (rawN l) []) (nmY l (rawN l))∧M.length+unk f' N≤unk f N∧Kn (rls (Es++M)) f'∧Q=[cells pp [uPt s,uPt tb] 97,tabP tb s (rls (Es++M)),bR s most (Es++M),cells m [uPt pp,.map (some bm)] 93,mapF bm .i64 f',q,sl (some ⟨g,0,none⟩) c 5 1 B.length (byC B)]):=by
 have hrl:(rawN l).length=l.length:=List.length_map _
 refine ct_postW (qMp (P:=fun M f' ys=>ys=rawN l∧M.length+unk f' N≤unk f N∧Kn (rls (Es++M)) f') (s:=s) (tb:=tb) (most:=most) (Es:=Es) (f:=f) (m:=m) (pp:=pp) (bm:=bm) hE hq hn (fun ho p c=>?_) (fun M f' ys ho hyl hP y hy=>?_)) (fun v Q h=>?_)
 ·have hall:∀x∈rawN l,x≤N∧(x=0∨Sig (rls Es) x):=fun x hx=>by
   obtain⟨p,hp,rfl⟩:=List.mem_map.1 hx
   have:=ho.2.2 p hp
   exact hl p hp this.1 (by rw[bQ];exact this.2)
  exact ct_AllS hE hB hrl (fun x hx=>(hall x hx).2) (fun x hx=>(hall x hx).1) hN hn hroom hk
 ·obtain⟨rfl,_,_⟩:=hP
  obtain⟨p,hp,rfl⟩:=List.mem_map.1 hy
  have:=ho.2.2 p hp
  rw[List.length_append]
  omega
 rcases h with h|⟨M,f',ys,g,c,B,h1,h2,h3,h4,⟨rfl,h5,h6⟩,h7⟩
 ·exact .inl h
 exact .inr ⟨M,f',g,c,B,h1,h2,h3,h5,h6,h7⟩
end
section
variable {G L:List Rl}{Z:List Nat}
def zat (Z:List Nat)(j:Nat):Nat:=Z.getD j 0
theorem DcI.zero (h:DcI G L G.length Z):zat Z 0=0:=by unfold zat;rw[List.getD_eq_getElem?_getD,h.2.1];rfl
theorem DcI.iso (h:DcI G L G.length Z){j:Nat}(h1:1≤j)(h2:j≤G.length):Iso G L j (zat Z j):=by
 obtain⟨z,hz,iz⟩:=h.2.2 j h1 h2
 unfold zat
 rw[List.getD_eq_getElem?_getD,hz]
 exact iz
theorem DcI.inj (hw:Wf G)(h:DcI G L G.length Z){i j:Nat}(hi:i≤G.length)(hj:j≤G.length)(e:zat Z i=zat Z j):i=j:=by
 rcases Nat.eq_zero_or_pos i with rfl|hi1<;>rcases Nat.eq_zero_or_pos j with rfl|hj1
 ·rfl
 ·have:=(h.iso hj1 hj).pos.2
  rw[h.zero]at e
  omega
 ·have:=(h.iso hi1 hi).pos.2
  rw[h.zero]at e
  omega
 have h1:=h.iso hi1 hi
 have h2:=h.iso hj1 hj
 rw[←e]at h2
 exact h1.fn' hw h2
theorem DcI.rule (hw:Wf G)(hL:Wf L)(h:DcI G L G.length Z){n:Nat}{r:Rl}(hr:G[n]?=some r):∃m r',zat Z (n+1)=m+1∧L[m]?=some r'∧kids r'=(kids r).map (zat Z)∧∀V:List Nat,(∀k∈kids r,numb V (zat Z k)=k)→iR V r'=r:=by
 have hn:=(List.getElem?_eq_some_iff.1 hr).1
 have hk:=jB (hw.ok n r hr)
 have hi:=h.iso (j:=n+1) oO oO
 generalize hx:zat Z (n+1)=x at hi
 generalize hn1:n+1=y at hi
 cases hi with
 | @letter a m b h1 h2=>
  obtain rfl:n=a:=by omega
  rw[h1]at hr
  cases hr
  exact⟨m,_,O,h2,O,fun V _=>O⟩
 | @pair a m p q p' q' h1 h2 i1 i2=>
  obtain rfl:n=a:=by omega
  rw[h1]at hr
  cases hr
  have k1:=hk p (by simp[kids])
  have k2:=hk q (by simp[kids])
  have e1:p'=zat Z p:=i1.fn hL (h.iso k1.1 oO)
  have e2:q'=zat Z q:=i2.fn hL (h.iso k2.1 oO)
  subst e1 e2
  exact⟨m,_,O,h2,O,fun V hV=>by rw[iR,hV p (by simp[kids]),hV q (by simp[kids])]⟩
 | @power a m p p' k h1 h2 i1=>
  obtain rfl:n=a:=by omega
  rw[h1]at hr
  cases hr
  have k1:=hk p (by simp[kids])
  have e1:p'=zat Z p:=i1.fn hL (h.iso k1.1 oO)
  subst e1
  exact⟨m,_,O,h2,O,fun V hV=>by rw[iR,hV p (by simp[kids])]⟩
theorem DcI.mem (hw:Wf G)(h:DcI G L G.length Z){j:Nat}{acc:List Nat}(hj:j≤G.length)(ha:∀y∈acc,y≤G.length):zat Z j∈acc.map (zat Z)↔j∈acc:=by
 constructor
 ·intro hm
  obtain⟨y,hy,e⟩:=List.mem_map.1 hm
  have:=h.inj hw (ha y hy) hj e
  subst this
  exact hy
 exact fun hm=>List.mem_map.2 ⟨j,hm,O⟩
theorem DcI.visit (hw:Wf G)(hL:Wf L)(h:DcI G L G.length Z):∀(n:Nat)(acc:List Nat),n≤G.length→(∀y∈acc,y≤G.length)→visit L (zat Z n) (acc.map (zat Z))=(visit G n acc).map (zat Z):=by
 intro n
 induction n using Nat.strongRecOn with
 |_ n ih=>
  intro acc hn ha
  rcases Nat.eq_zero_or_pos n with rfl|hpos
  ·rw[h.zero,lN,lN]
  obtain⟨n,rfl⟩:∃k,n=k+1:=⟨n-1,oO⟩
  by_cases hm:n+1∈acc
  ·rw[sN hm,sN ((h.mem hw hn ha).2 hm)]
  obtain⟨r,hr⟩:∃r,G[n]?=some r:=⟨_,List.getElem?_eq_getElem oO⟩
  obtain⟨m,r',e1,e2,e3,_⟩:=h.rule hw hL hr
  have hk:=jB (hw.ok n r hr)
  have hm2:m+1∉acc.map (zat Z):=by rw[←e1];exact fun hh=>hm ((h.mem hw hn ha).1 hh)
  rw[e1,kP hL e2 hm2,kP hw hr hm,e3]
  have key:∀(ks acc:List Nat),(∀k∈ks,k<n+1)→(∀y∈acc,y≤G.length)→dD L (ks.map (zat Z)) (acc.map (zat Z))=(dD G ks acc).map (zat Z):=by
   intro ks
   induction ks with
   |nil=>intro acc _ _;rfl
   |cons k ks ihk=>
    intro acc hks hacc
    have hkn:=hks k (by simp)
    rw[List.map_cons,gV,gV,ih k hkn acc oO hacc]
    refine ihk _ (fun x hx=>hks x (by simp[hx])) (fun y hy=>?_)
    rcases(qAz hw k acc).1 y hy with h| h
    ·exact hacc y h
    exact h.2.2
  rw[key (kids r) acc (fun k hk'=>(hk k hk').2) ha,List.map_append,List.map_cons,List.map_nil,e1]
theorem DcI.visitsL (hw:Wf G)(hL:Wf L)(h:DcI G L G.length Z):∀(xs acc:List Nat),(∀x∈xs,x≤G.length)→(∀y∈acc,y≤G.length)→dD L (xs.map (zat Z)) (acc.map (zat Z))=(dD G xs acc).map (zat Z)
 |[],acc,_,_=>rfl
 |x::xs,acc,hx,ha=>by
  rw[List.map_cons,gV,gV,h.visit hw hL x acc (hx x (by simp)) ha]
  refine h.visitsL hw hL xs _ (fun y hy=>hx y (by simp[hy])) (fun y hy=>?_)
  rcases(qAz hw x acc).1 y hy with h| h
  ·exact ha y h
  exact h.2.2
theorem qLh {W:List Nat}{j:Nat}:∀{V:List Nat},(∀y∈V,∀z∈V,zat W y=zat W z→y=z)→j∈V→numb (V.map (zat W)) (zat W j)=numb V j
 |[],_,hj=>by simp at hj
 |x::V,hi,hj=>by
  rw[List.map_cons,numb,numb]
  by_cases e:x=j
  ·rw[if_pos (by rw[e]),if_pos e]
  rw[if_neg (fun h=>e (hi x (by simp) j hj h)),if_neg e]
  have hj2:j∈V:=by
   rcases List.mem_cons.1 hj with h| h
   ·exact absurd h.symm e
   exact h
  rw[qLh (fun y hy z hz=>hi y (by simp[hy]) z (by simp[hz])) hj2]
theorem qNs {n j:Nat}(h1:1≤j)(h2:j≤n):numb ((List.range n).map (· +1)) j=j:=by
 have hm:j∈(List.range n).map (· +1):=List.mem_map.2 ⟨j-1,List.mem_range.2 oO,oO⟩
 have h:=qQq hm
 have hp:=numb_pos hm
 have hl:=qAj ((List.range n).map (· +1)) j
 simp only[List.length_map,List.length_range]at hl
 rw[List.getElem?_map,List.getElem?_range oO]at h
 simp at h
 omega
theorem uniq_enc {A:List (List UInt8×Nat)}(hP:Prop50 G A)(hL:Wf L)(h:DcI G L G.length Z):encB L (dD L (A.map fun p=>zat Z p.2) []) (A.map fun p=>(p.1,zat Z p.2))=encA G A:=by
 have hw:=hP.wf
 have hA:∀x∈A.map (·.2),x≤G.length:=fun x hx=>by
  obtain⟨p,hp,rfl⟩:=List.mem_map.1 hx
  exact(hP.names p hp).2
 have hv:=h.visitsL hw hL (A.map (·.2)) [] hA (by simp)
 rw[List.map_map,List.map_nil,hP.vis]at hv
 have hv2:dD L (A.map fun p=>zat Z p.2) []=((List.range G.length).map (· +1)).map (zat Z):=hv
 rw[hv2]
 obtain⟨V,hV⟩:∃V,V=(List.range G.length).map (· +1):=⟨_,rfl⟩
 rw[←hV]
 have hVm:∀y∈V,1≤y∧y≤G.length:=fun y hy=>by
  rw[hV]at hy
  obtain⟨i,hi,rfl⟩:=List.mem_map.1 hy
  have:=List.mem_range.1 hi
  omega
 have hin:∀j,1≤j→j≤G.length→j∈V:=fun j h1 h2=>by rw[hV];exact List.mem_map.2 ⟨j-1,List.mem_range.2 oO,oO⟩
 have hinj:∀y∈V,∀z∈V,zat Z y=zat Z z→y=z:=fun y hy z hz e=>h.inj hw (hVm y hy).2 (hVm z hz).2 e
 have hnb:∀j,1≤j→j≤G.length→numb (V.map (zat Z)) (zat Z j)=j:=fun j h1 h2=>by
  rw[qLh hinj (hin j h1 h2),hV,qNs h1 h2]
 have hx:∀x∈V.map (zat Z),1≤x∧x≤L.length:=fun x hx=>by
  obtain⟨y,hy,rfl⟩:=List.mem_map.1 hx
  have hi:=h.iso (hVm y hy).1 (hVm y hy).2
  exact⟨hi.pos.2,hi.le.2⟩
 rw[qGt hx]
 congr 1
 ·apply List.ext_getElem?
  intro i
  rcases Nat.lt_or_ge i G.length with hi|hi
  ·obtain⟨r,hr⟩:∃r,G[i]?=some r:=⟨_,List.getElem?_eq_getElem hi⟩
   obtain⟨m,r',e1,e2,e3,e4⟩:=h.rule hw hL hr
   have hVi:(V.map (zat Z))[i]?=some (m+1):=by
    rw[hV,List.getElem?_map,List.getElem?_map,List.getElem?_range hi,←e1];rfl
   rw[qPy hVi e2,hr,e4]
   intro k hk
   have:=jB (hw.ok i r hr) k hk
   exact hnb k this.1 oO
  have hgl:(gram L (V.map (zat Z))).length=G.length:=by rw[gram_len,List.length_map,hV,List.length_map,List.length_range]
  rw[List.getElem?_eq_none oO,List.getElem?_eq_none oO]
 rw[List.map_map]
 conv=>rhs;rw[←List.map_id A]
 refine List.map_congr_left fun p hp=>?_
 have h2:=(hP.names p hp).2
 show(p.1,numb (V.map (zat Z)) (zat Z p.2))=p
 rcases Nat.eq_zero_or_pos p.2 with h0|h0
 ·rw[h0,h.zero,jZ.2 (fun hm=>by have:=(hx 0 hm).1;omega)]
  exact Prod.ext O h0.symm
 rw[hnb p.2 h0 h2]
end
section
variable {G L:List Rl}{Z:List Nat}
def zmap (Z:List Nat):Rl→Rl
 | .letter b=> .letter b
 | .pair a b=> .pair (zat Z a) (zat Z b)
 | .power a t=> .power (zat Z a) t
def InB (G:List Rl)(x:Nat):Prop:=1≤x∧x≤G.length
theorem DcI.get2 (hw:Wf G)(hL:Wf L)(h:DcI G L G.length Z){n:Nat}{r:Rl}(hr:G[n]?=some r):∃m,zat Z (n+1)=m+1∧L[m]?=some (zmap Z r):=by
 have hn:=(List.getElem?_eq_some_iff.1 hr).1
 have hk:=jB (hw.ok n r hr)
 have hi:=h.iso (j:=n+1) oO oO
 generalize hx:zat Z (n+1)=x at hi
 generalize hn1:n+1=y at hi
 cases hi with
 | @letter a m b h1 h2=>
  obtain rfl:n=a:=by omega
  rw[h1]at hr
  cases hr
  exact⟨m,O,h2⟩
 | @pair a m p q p' q' h1 h2 i1 i2=>
  obtain rfl:n=a:=by omega
  rw[h1]at hr
  cases hr
  have k1:=hk p (by simp[kids])
  have k2:=hk q (by simp[kids])
  have e1:p'=zat Z p:=i1.fn hL (h.iso k1.1 oO)
  have e2:q'=zat Z q:=i2.fn hL (h.iso k2.1 oO)
  subst e1 e2
  exact⟨m,O,h2⟩
 | @power a m p p' k h1 h2 i1=>
  obtain rfl:n=a:=by omega
  rw[h1]at hr
  cases hr
  have k1:=hk p (by simp[kids])
  have e1:p'=zat Z p:=i1.fn hL (h.iso k1.1 oO)
  subst e1
  exact⟨m,O,h2⟩
structure Twi (G L:List Rl)(Z:List Nat):Prop where
 wf:Wf G
 gwf:Wf L
 dc:DcI G L G.length Z
theorem Twi.iso (h:Twi G L Z){x:Nat}(hx:InB G x):Iso G L x (zat Z x):=h.dc.iso hx.1 hx.2
theorem Twi.lv (h:Twi G L Z){x:Nat}(hx:InB G x):Eg.lvl L (zat Z x)=Eg.lvl G x:=((h.iso hx).lvl h.wf h.gwf).symm
theorem Twi.ky (h:Twi G L Z){x:Nat}(hx:InB G x):Eg.key L (zat Z x)=Eg.key G x:=((h.iso hx).key h.wf h.gwf).symm
theorem Twi.inj (h:Twi G L Z){x y:Nat}(hx:InB G x)(hy:InB G y)(e:zat Z x=zat Z y):x=y:=h.dc.inj h.wf hx.2 hy.2 e
theorem Twi.mem (h:Twi G L Z){x:Nat}(hx:InB G x):∃n r,x=n+1∧G[n]?=some r∧∀k∈kids r,InB G k:=by
 obtain⟨n,rfl⟩:∃n,x=n+1:=⟨x-1,by have:=hx.1;omega⟩
 obtain⟨r,hr⟩:∃r,G[n]?=some r:=⟨_,List.getElem?_eq_getElem (by have:=hx.2;omega)⟩
 have hkl:=jB (h.wf.ok _ _ hr)
 exact⟨n,r,O,hr,fun k hk=>⟨(hkl k hk).1,by have:=(hkl k hk).2;have:=hx.2;omega⟩⟩
theorem Twi.get (h:Twi G L Z){n:Nat}{r:Rl}(hr:G[n]?=some r):∃m,zat Z (n+1)=m+1∧L[m]?=some (zmap Z r):=h.dc.get2 h.wf h.gwf hr
theorem Twi.exps (h:Twi G L Z)(k:Nat):∀x,InB G x→(∀e∈expd G k x,InB G e)∧expd L k (zat Z x)=(expd G k x).map (zat Z):=by
 intro x
 induction x using Nat.strongRecOn with
 |ind x ih=>
  intro hx
  obtain⟨n,r,rfl,hr,hk⟩:=h.mem hx
  obtain⟨i,e,hg⟩:=h.get hr
  have hkl:=jB (h.wf.ok _ _ hr)
  have hl:=h.lv hx
  rw[e]at hl ⊢
  by_cases hlow:Eg.lvl G (n+1)≤(k:Nat)
  ·rw[dZ oO hlow,dZ oO (by rw[hl];exact hlow)]
   exact⟨fun z hz=>by rw[List.mem_singleton.1 hz];exact hx,by simp[e]⟩
  have h1:(k:Int)<Eg.lvl G (n+1):=oO
  have h2:(k:Int)<Eg.lvl L (i+1):=oO
  cases r with
  |letter b=>have:=(fT hr).2;omega
  |pair a b=>
   obtain⟨a1,a2⟩:=ih a (hkl a (by simp[kids])).2 (hk a (by simp[kids]))
   obtain⟨b1,b2⟩:=ih b (hkl b (by simp[kids])).2 (hk b (by simp[kids]))
   rw[fZ h.wf hr h1,fZ h.gwf hg h2,a2,b2,List.map_append]
   exact⟨fun z hz=>(List.mem_append.1 hz).elim (a1 z) (b1 z),O⟩
  |power a t=>
   obtain⟨a1,a2⟩:=ih a (hkl a (by simp[kids])).2 (hk a (by simp[kids]))
   rw[gF h.wf hr h1,gF h.gwf hg h2,a2,map_flat]
   exact⟨fun z hz=>a1 z (mem_flat hz),O⟩
theorem Twi.pg (h:Twi G L Z){c:Nat}{X U:List Nat}(hp:Pg G c X U):(∀x∈X,InB G x)→(∀x∈U,InB G x)→Pg L c (X.map (zat Z)) (U.map (zat Z)):=by
 induction hp with
 |nil=>intro _ _;exact .nil
 | @one x r o h1 h2 ih=>
  intro hx ho
  simp only[List.map_cons]
  refine .one (fun y hy=>?_) (ih (fun z hz=>hx z (by simp[hz])) (fun z hz=>ho z (by simp[hz])))
  cases r with
  |nil=>simp at hy
  |cons y' r=>
   simp at hy
   subst hy
   rw[h.ky (hx x (by simp)),h.ky (hx y' (by simp))]
   exact h1 y' O
 | @two x y j r o h1 h2 h3 ih=>
  intro hx ho
  simp only[List.map_cons]
  obtain⟨i,e,hg⟩:=h.get h2
  rw[e]
  exact .two (by rw[h.ky (hx x (by simp)),h.ky (hx y (by simp))];exact h1) hg (ih (fun z hz=>hx z (by simp[hz])) (fun z hz=>ho z (by simp[hz])))
theorem Twi.rg (h:Twi G L Z){X U:List Nat}(hp:Rg G X U):(∀x∈X,InB G x)→(∀x∈U,InB G x)→Rg L (X.map (zat Z)) (U.map (zat Z)):=by
 induction hp with
 |nil=>intro _ _;exact .nil
 | @run x t id r o h1 h2 h3 h4 ih=>
  intro hx ho
  obtain⟨t,rfl⟩:∃s,t=s+1:=⟨t-1,oO⟩
  have hxV:=hx x (by simp[List.replicate_succ])
  simp only[List.map_cons,List.map_append,List.map_replicate]
  refine .run h1 ?_ (fun e=>h3 ?_) (ih (fun z hz=>hx z (by simp[hz])) (fun z hz=>ho z (by simp[hz])))
  ·rcases h2 with⟨e1,rfl⟩|⟨e1,i,rfl,hi⟩
   ·exact .inl ⟨e1,O⟩
   obtain⟨i',e',hg⟩:=h.get hi
   rw[e']
   exact .inr ⟨e1,i',O,hg⟩
  cases r with
  |nil=>simp at e
  |cons y r=>
   simp at e ⊢
   exact h.inj (hx y (by simp)) hxV e
theorem Twi.inv (h:Twi G L Z){k:Nat}{X:List Nat}(hi:Inv G k X)(hx:∀x∈X,InB G x):Inv L k (X.map (zat Z)):=by
 refine⟨h.gwf,fun z hz=>?_,fun i z h1 h2=>?_,fun i z w h1 h2 h3=>?_⟩
 ·obtain⟨x,hxx,rfl⟩:=List.mem_map.1 hz
  have:=hi.ok x hxx
  rw[h.lv (hx x hxx)]
  exact⟨(h.iso (hx x hxx)).pos.2,(h.iso (hx x hxx)).le.2,this.2.2.1,this.2.2.2⟩
 ·obtain⟨x,e1,rfl⟩:=qEs h1
  obtain⟨y,e2,e3⟩:=qEs h2
  obtain rfl:=h.inj (hx x (List.mem_of_getElem? e1)) (hx y (List.mem_of_getElem? e2)) e3
  rw[h.lv (hx x (List.mem_of_getElem? e1))]
  exact hi.same i x e1 e2
 obtain⟨x,e1,rfl⟩:=qEs h1
 obtain⟨y,e2,rfl⟩:=qEs h2
 have hx1:=hx x (List.mem_of_getElem? e1)
 have hy1:=hx y (List.mem_of_getElem? e2)
 have:=hi.diff i x y e1 e2 (fun e=>h3 (by rw[e]))
 unfold aft at this ⊢
 rw[h.lv hx1,h.lv hy1,h.ky hx1,h.ky hy1]
 exact this
theorem Twi.sig (h:Twi G L Z){x:Nat}(hx:InB G x)(hs:Sig G x):Sig L (zat Z x):=by
 refine⟨(h.iso hx).pos.2,(h.iso hx).le.2,by rw[h.lv hx];exact hs.lv,fun k hk=>?_,fun k hk=>?_⟩
 ·rw[(h.exps (k-1) x hx).2]
  exact h.inv (hs.inv k hk) (h.exps (k-1) x hx).1
 rw[(h.exps (k-1) x hx).2,(h.exps k x hx).2]
 have:=hs.step k hk
 unfold Sq at this ⊢
 split
 ·rename_i ho;rw[if_pos ho]at this;exact h.rg this (h.exps (k-1) x hx).1 (h.exps k x hx).1
 rename_i ho;rw[if_neg ho]at this;exact h.pg this (h.exps (k-1) x hx).1 (h.exps k x hx).1
theorem Prop50.sgl {A:List (List UInt8×Nat)}(hP:Prop50 G A)(hL:Wf L)(h:DcI G L G.length Z):SgL L L.length (nmI (A.map fun p=>(p.1,zat Z p.2))):=by
 intro p hp h1 h2
 obtain⟨p',hp',rfl⟩:=List.mem_map.1 hp
 obtain⟨p'',hp'',rfl⟩:=List.mem_map.1 hp'
 simp only[Int.toNat_natCast]at h1 h2 ⊢
 refine⟨oO,?_⟩
 have hn:=(hP.names p'' hp'').2
 rcases Nat.eq_zero_or_pos p''.2 with e| e
 ·exact .inl (by rw[e];exact h.zero)
 exact .inr ((Twi.mk hP.wf hL h).sig ⟨e,hn⟩ (hP.sig _ e hn).1)
theorem Prop50.sgo {A:List (List UInt8×Nat)}(hP:Prop50 G A)(hL:Wf L)(h:DcI G L G.length Z):SgO L.length (nmI (A.map fun p=>(p.1,zat Z p.2))):=by
 refine⟨fun p hp=>?_,fun i p q _ h1 h2=>?_,fun p hp=>?_⟩
 ·obtain⟨p',hp',rfl⟩:=List.mem_map.1 hp
  obtain⟨p'',hp'',rfl⟩:=List.mem_map.1 hp'
  exact(hP.names p'' hp'').1
 ·unfold nmI at h1 h2
  rw[List.map_map,List.getElem?_map]at h1 h2
  cases e1:A[i]? with
  |none=>rw[e1]at h1;cases h1
  |some x=>
   cases e2:A[i+1]? with
   |none=>rw[e2]at h2;cases h2
   |some y=>
    rw[e1]at h1
    rw[e2]at h2
    cases h1
    cases h2
    exact hP.ord i x y e1 e2
 obtain⟨p',hp',rfl⟩:=List.mem_map.1 hp
 obtain⟨p'',hp'',rfl⟩:=List.mem_map.1 hp'
 refine⟨Int.natCast_nonneg _,?_⟩
 have hn:=(hP.names p'' hp'').2
 have:zat Z p''.2≤L.length:=by
  rcases Nat.eq_zero_or_pos p''.2 with e| e
  ·rw[e,h.zero];exact Nat.zero_le _
  exact(h.iso e hn).le.2
 exact Int.ofNat_le.2 this
theorem DcI.ext (M:List Rl)(h:DcI G L G.length Z):DcI G (L++M) G.length Z:=⟨h.1,h.2.1,fun j h1 h2=>by
 obtain⟨z,hz,hi⟩:=h.2.2 j h1 h2
 exact⟨z,hz,hi.ext M⟩⟩
theorem nmK_zat {A:List (List UInt8×Nat)}:nmK Z A A.length=A.map fun p=>(p.1,zat Z p.2):=nmK_all Z A
theorem rawN_zat {A:List (List UInt8×Nat)}:rawN (nmI (A.map fun p=>(p.1,zat Z p.2)))=A.map fun p=>zat Z p.2:=by
 unfold rawN nmI
 rw[List.map_map,List.map_map]
 rfl
theorem nmY_zat {A:List (List UInt8×Nat)}:nmY (nmI (A.map fun p=>(p.1,zat Z p.2))) (A.map fun p=>zat Z p.2)=A.map fun p=>(p.1,zat Z p.2):=by
 unfold nmY nmI
 rw[List.map_map,List.map_map]
 induction A with
 |nil=>rfl
 |cons p A ih=>simp only[List.map_cons,List.zip_cons_cons,ih];rfl
end
section
variable {E:Env}
theorem yY (hE:Seat E)(hB:Base E.w0){oa:Option Addr}{ob:List UInt8}{oc:Nat}(hro:Rdb E.w0 oa (byC ob) old):
  Ct E 4 [.slice oa ob.length oc] [old] (fun v Q=>v= .bool true∧Q=[old]):=by
 have hmr:1048576≤fA:=Nat.le_refl _
 refine bO (hE.fn Tryz.func4) O O O (fun R=>?_)
 simp only[dY,uV,uW]
 refine dO (uA O (dN (aL (dO (uM O (uB (uBl O) (uB (y_gt O O) (dN ?_))))))))
 refine bE O (fun g1=>?_) (fun g1=>?_)
 ·refine aL (aJ ?_)
  refine uA O (dN (bZ (aV ?_)))
  exact uZ O (.tmp O .nil) ⟨O,O⟩
 have hob:ob.length≤400:=oO
 have hr0:([]:List Ent).length+ob.length≤1048576:=by rw[List.length_nil];omega
 refine bC (aK (dO (uX (qOw (most:=1048576) hE hmr) O ?_)))
 rintro _ _⟨m,bm,pp,s,tb,rfl,rfl⟩
 simp only[uV,uW]
 refine uA O (dN (dO (uM O (uU ?_))))
 refine qBr (hE.t O) (fun b14=>?_)
 refine uM O ?_
 have hbl:=yT ob
 have hb2:(0+(byC ob).length)*1≤140737488355328:=oO
 have hb3:0+(byC ob).length≤maxLen:=by unfold maxLen;omega
 refine uU ?_
 refine vQ (us:=byC ob) (q:=old) (hE.t O) (hE.t O) O O O hbl.symm hro uK uK (iQ _) hb2 hb3 (fun pt ct m1 x1 hm1 hx1=>?_)
 obtain rfl:m1=ob.length:=by omega
 obtain rfl:x1=byC ob:=hx1
 refine qC (p:=sl pt ct 5 1 ob.length (byC ob)) uK (fun _ h=>And.intro (fun hpos=>fB h hpos) (lH h).1) ?_
 rintro⟨hpt,hcap⟩
 have hqs:Rdb E.w0 pt (byC ob) (sl pt ct 5 1 ob.length (byC ob)):=rdb_sl hbl hpt
 refine uX (qMo (Es:=[]) (s:=s) (most:=1048576) (tb:=tb) (pp:=pp) (m:=m) (bm:=bm) (a:=pt) (c:=ct) (q:=sl pt ct 5 1 ob.length (byC ob)) (Bs:=ob) hE hB hqs hcap oO hr0) O ?_
 rintro _ _(⟨rfl,rfl⟩|⟨G,A,M,Z,pl,cl,rfl,hP,hBs,hG,hA,hM,hD,rfl⟩)
 ·simp only[uV,uW]
  refine uM O (uB (aT O O) (uB (aT O O) (uA O (uA O (dN (aL (dO (uX (qKo hE hB) O ?_))))))))
  rintro _ _⟨rfl,rfl⟩
  simp only[uV,uW]
  refine uB (gY O) (dN (bD O (bC (aK (aL (dO (uM O ?_)))))))
  apply aA
  ·(first |exact dU rfl (hE.t rfl)|exact dX rfl (hE.t rfl))
  ·rfl
  refine dN (bF O (dO (uM O (uB (uBl O) (uB (y_eq O O) (uM O ?_))))))
  refine l_eq 27 (.bool true) O (by simp) ?_
  refine dP (uM O (dP (uX (ct_Is hE (i:=4) (by decide)) O ?_)))
  rintro _ _⟨rfl,rfl⟩
  simp only[uV,uW]
  refine dP (uM O (dQ (dQ (dP ?_))))
  apply aA
  ·(first |exact aW rfl rfl|exact aX rfl rfl)
  ·rfl
  apply aA
  ·(first |exact aW rfl rfl|exact aX rfl rfl)
  ·rfl
  refine uA O (dN (bZ (aV ?_)))
  exact uZ O (.tmp O .nil) ⟨O,O⟩
 simp only[uV,uW]
 refine uM O (uB (aT O O) (uB (aT O O) (uA O (uA O (dN (aL (dO (uX (qKo hE hB) O ?_))))))))
 rintro _ _⟨rfl,rfl⟩
 simp only[uV,uW]
 refine uB (gY O) (dN (bD O (bC (aK (aL (dO (uM O ?_)))))))
 apply aA
 ·(first |exact dU rfl (hE.t rfl)|exact dX rfl (hE.t rfl))
 ·rfl
 refine dN (bD O (bC (aK (dO (uM O (uM O ?_))))))
 rw[List.nil_append]at hD
 refine qC (p:=bR s 1048576 M) uK (fun _ h=>(dR h).1) (fun hw=>?_)
 have hMl:(rls M).length=M.length:=bQ M
 rw[nmK_zat]
 obtain⟨l,hl⟩:∃l,l=nmI (A.map fun p=>(p.1,zat Z p.2)):=⟨_,rfl⟩
 have hll:l.length=A.length:=by rw[hl];unfold nmI;rw[List.length_map,List.length_map]
 have hsg:=hP.sgl hw hD
 have hso:=hP.sgo hw hD
 rw[←hl]at hsg hso ⊢
 rw[hMl]at hsg hso
 rw[←hll]
 refine qC (p:=sl pl cl 53 2 l.length (nlC l)) uK (fun _ h=>fun hpos=>fB h hpos) (fun hpl=>?_)
 have hql:Rdb E.w0 pl (nlC l) (sl pl cl 53 2 l.length (nlC l)):=fun hne=>by
  obtain⟨g,rfl⟩:=hpl (by
   rcases Nat.eq_zero_or_pos l.length with e| e
   ·exact absurd (congrArg nlC (List.eq_nil_of_length_eq_zero e)) hne
   exact e)
  exact⟨g,0,O,qCz (fun _ _ h=>h)⟩
 have hun:unk (fun _=>none) M.length≤M.length:=qSe _ _
 refine uX (qMq (Es:=M) (s:=s) (most:=1048576) (tb:=tb) (pp:=pp) (m:=m) (bm:=bm) (f:=fun _=>none) (N:=M.length) (l:=l) (a:=pl) (ca:=cl) (q:=sl pl cl 53 2 l.length (nlC l)) hE hB hql oO hsg (Nat.le_refl _) oO (Kn.nil _)) O ?_
 rintro _ _(⟨e,he,rfl,rfl⟩|⟨M2,f2,g2,c2,B,ho,rfl,hBB,hM2,hk2,rfl⟩)
 ·exfalso
  rcases he with⟨_,h1⟩|⟨_,_,h1⟩|⟨_,_,_,h1⟩
  ·exact h1 hso.1
  ·exact h1 hso.2.1
  exact h1 hso.2.2
 simp only[uV,uW]
 refine qC (p:=bR s 1048576 (M++M2)) uK (fun _ h=>(dR h).1) (fun hw2=>?_)
 have hD2:=hD.ext (rls M2)
 rw[dB]at hw2 hBB
 rw[hl,rawN_zat,nmY_zat,uniq_enc hP hw2 hD2,←hBs]at hBB
 subst hBB
 refine uM O (uB (aT O O) (uB (aT O O) (uA O (uA O (dN (dO (uM O ?_)))))))
 apply aA
 ·(first |exact xI rfl (hE.t rfl)|exact qGc rfl (hE.t rfl))
 ·rfl
 refine uM O (dP (uM O (dP (uM O (dP ?_)))))
 have hq2:Rdb E.w0 (some ⟨g2,0,none⟩) (byC B) (sl (some ⟨g2,0,none⟩) c2 5 1 B.length (byC B)):=rdb_sl (yT B) (fun _=>⟨g2,O⟩)
 refine uX (qKn (a:=some ⟨g2,0,none⟩) (c:=c2) (b:=oa) (d:=oc) (xs:=B) (bs:=B) (q:=sl (some ⟨g2,0,none⟩) c2 5 1 B.length (byC B)) (r:=old) hE hq2 hro) O ?_
 rintro _ _⟨rfl,rfl⟩
 simp only[uV,uW]
 apply aA
 ·(first |exact aW rfl rfl|exact aX rfl rfl)
 ·rfl
 refine uA O (dN (bZ ?_))
 exact uZ O (.tmp O .nil) ⟨by simp[one],rfl⟩
end
section
theorem qBl {E:Env}(hE:Seat E)(hB:Base E.w0){oa:Option Addr}{ob:List UInt8}{oc:Nat}(hro:Rdb E.w0 oa (byC ob) old):
  Ct E 4 [.slice oa ob.length oc] [] (fun v Q=>v= .bool true∧Q=[]):=qPi (yY hE hB hro)
end
end Go.Proofs.YtlmpojkmeglepaaGreatDoor
