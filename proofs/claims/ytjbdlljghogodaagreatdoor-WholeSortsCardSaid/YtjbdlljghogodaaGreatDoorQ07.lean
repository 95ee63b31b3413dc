import Derived.Test.YtjbdlljghogodaaGreatDoorQ06
set_option linter.all false
set_option maxHeartbeats 1000000
namespace Go.Proofs.YtjbdlljghogodaaGreatDoor
open Go Go.RowKit Sl Eg
set_option maxRecDepth 10000
section
variable {E:Env}{Es:List Ent}{pp tb s most:Nat}
theorem qCn (hE:Seat E)(hB:Base E.w0){i:Nat}(hi:i<Es.length):
  Ct E 104 [uPt tb,.int .i64 ((i+1:Nat):Int)] [tabP tb s (rls Es),bR s most Es] (fun v Q=>v= .tuple #[.int .u64 (key (rls Es) (i+1):Nat),.nilIface]∧Q=[tabP tb s (rls Es),bR s most Es]):=by
 refine bO (hE.fn Tryz.func104) O O O (fun R=>?_)
 simp only[dR,uV,uW]
 refine gg10 ?_
 refine uX (ct_row hE hB hi) O ?_
 rintro _ _⟨rfl,rfl⟩
 simp only[uV,uW]
 refine gg3 ?_
 refine uU (cZ (hE.t O) (fun b6=>?_))
 refine gg23 ?_
 exact uZ O (.tmp O (.tmp O .nil)) ⟨O,O⟩
theorem zC (hE:Seat E)(hB:Base E.w0){i:Nat}(hi:i<Es.length)(hl:0≤lvl (rls Es) (i+1)):
  Ct E 103 [uPt tb,.int .i64 ((i+1:Nat):Int)] [tabP tb s (rls Es),bR s most Es] (fun v Q=>v= .tuple #[.int .i64 (lvl (rls Es) (i+1)),.nilIface]∧Q=[tabP tb s (rls Es),bR s most Es]):=by
 refine bO (hE.fn Tryz.func103) O O O (fun R=>?_)
 simp only[dR,uV,uW]
 refine gg10 ?_
 refine uX (ct_row hE hB hi) O ?_
 rintro _ _⟨rfl,rfl⟩
 simp only[uV,uW]
 refine gg3 ?_
 refine uU (cZ (hE.t O) (fun b6=>?_))
 refine gg22 ?_
 refine bE O (fun h=>?_) (fun h=>?_)
 ·exact absurd h oO
 refine gg11 ?_
 exact uZ O (.tmp O (.tmp O .nil)) ⟨O,O⟩
theorem qCo (hE:Seat E):Ct E 42 [uPt s] [] (fun v Q=>∃tb,v=uPt tb∧Q=[tabP tb s []]):=by
 refine bO (hE.fn Tryz.func42) O O O (fun R=>?_)
 simp only[dR,uV,uW]
 refine gg19 ?_
 refine uU ?_
 refine gL O (fun b7=>?_)
 refine gg4 ?_
 apply cB
 ·rfl
 ·(apply Rs.tmp rfl;exact Rs.nil)
 ·exact⟨b7,O,O⟩
 apply cO (iH (t:=262) (sz:=3))
 apply cO
 ·apply qDo (K:=[]) (L:=[]) (tb:=b7) (s:=s) (p:=none) (c:=0)
  ·exact uK
  ·rfl
  ·simp
  simp
 exact uI
theorem qQn (hE:Seat E):Ct E 11 [uPt s] [bR s most []] (fun v Q=>∃pp tb,v=uPt pp∧Q=[cells pp [uPt s,uPt tb] 108,tabP tb s (rls []),bR s most []]):=by
 refine bO (hE.fn Tryz.func11) O O O (fun R=>?_)
 simp only[dR,uV,uW]
 refine gg19 ?_
 refine uX (qCo hE) O ?_
 rintro _ _⟨tb,rfl,rfl⟩
 simp only[uV,uW]
 refine gg1 ?_
 refine uU ?_
 refine gL O (fun b9=>?_)
 refine gg4 ?_
 exact uZ O (.tmp O .nil) ⟨b9,tb,O,O⟩
theorem fD (hE:Seat E):Ct E 61 [uPt pp] [cells pp [uPt s,uPt tb] 108] (fun v Q=>v=uPt s∧Q=[cells pp [uPt s,uPt tb] 108]):=by
 refine bO (hE.fn Tryz.func61) O O O (fun R=>?_)
 simp only[dR,uV,uW]
 refine gg25 ?_
 exact uZ O (.tmp O .nil) ⟨O,O⟩
theorem tX (hE:Seat E):Ct E 216 [uPt pp] [cells pp [uPt s,uPt tb] 108] (fun v Q=>v=uPt tb∧Q=[cells pp [uPt s,uPt tb] 108]):=by
 refine bO (hE.fn Tryz.func216) O O O (fun R=>?_)
 simp only[dR,uV,uW]
 refine gg25 ?_
 exact uZ O (.tmp O .nil) ⟨O,O⟩
theorem ct_Top0 (hE:Seat E):Ct E 114 [uPt pp,.int .i64 ((0:Nat):Int)] [cells pp [uPt s,uPt tb] 108,tabP tb s (rls Es),bR s most Es] (fun v Q=>v= .tuple #[.int .i64 0,.nilIface]∧Q=[cells pp [uPt s,uPt tb] 108,tabP tb s (rls Es),bR s most Es]):=by
 refine bO (hE.fn Tryz.func114) O O O (fun R=>?_)
 simp only[dR,uV,uW]
 refine gg44 ?_
 exact uZ O (.tmp O (.tmp O .nil)) ⟨O,O⟩
theorem ct_Top (hE:Seat E)(hB:Base E.w0){i:Nat}(hi:i<Es.length)(hl:0≤lvl (rls Es) (i+1)):Ct E 114 [uPt pp,.int .i64 ((i+1:Nat):Int)] [cells pp [uPt s,uPt tb] 108,tabP tb s (rls Es),bR s most Es] (fun v Q=>v= .tuple #[.int .i64 (lvl (rls Es) (i+1)),.nilIface]∧Q=[cells pp [uPt s,uPt tb] 108,tabP tb s (rls Es),bR s most Es]):=by
 refine bO (hE.fn Tryz.func114) O O O (fun R=>?_)
 simp only[dR,uV,uW]
 refine gg35 ?_
 refine bE O (fun h=>?_) (fun h=>?_)
 ·exact absurd h oO
 refine gg9 ?_
 refine uX (zC hE hB hi hl) O ?_
 rintro _ _⟨rfl,rfl⟩
 simp only[uV,uW]
 refine gg7 ?_
 exact uZ O (.tmp O (.tmp O .nil)) ⟨O,O⟩
end
section
variable {E:Env}{Es:List Ent}{pp tb s most:Nat}
def gsC:List (Nat×Nat)→List Value
 |[]=>[]
 |g::r=> .int .i64 (g.1:Nat):: .int .i64 (g.2:Nat)::gsC r
theorem mF:∀(a b:List (Nat×Nat)),gsC (a++b)=gsC a++gsC b
 |[],_=>rfl
 |_::a,b=>by simp[gsC,mF a b]
theorem qCz:∀(a:List (Nat×Nat)),(gsC a).length=a.length*2
 |[]=>rfl
 |_::a=>by simp[gsC,qCz a];omega
theorem iY {gs:List (Nat×Nat)}{i:Nat}{g:Nat×Nat}(h:gs[i]?=some g):(gsC gs)[i*2]?=some (.int .i64 (g.1:Nat))∧(gsC gs)[i*2+1]?=some (.int .i64 (g.2:Nat)):=by
 induction gs generalizing i with
 |nil=>simp at h
 |cons x r ih=>
  cases i with
  |zero=>obtain rfl:x=g:=by simpa using h
         exact⟨O,O⟩
  |succ i=>
   obtain⟨h1,h2⟩:=ih (i:=i) (by simpa using h)
   exact⟨by rw[show(i+1)*2=i*2+1+1 by omega];simpa[gsC]using h1,by rw[show(i+1)*2+1=i*2+1+1+1 by omega];simpa[gsC]using h2⟩
theorem qEn {gs:List (Nat×Nat)}{i:Nat}{g:Nat×Nat}(h:gs[i]?=some g)(k:Nat):(gsC gs).set (i*2+1) (.int .i64 (k:Nat))=gsC (gs.set i (g.1,k)):=by
 induction gs generalizing i with
 |nil=>simp at h
 |cons x r ih=>
  cases i with
  |zero=>obtain rfl:x=g:=by simpa using h
         rfl
  |succ i=>
   have:=ih (i:=i) (by simpa using h)
   rw[show(i+1)*2+1=i*2+1+1+1 by omega]
   simp[gsC,this]
def rdP (x:Nat)(pv:Value)(bk:Bool)(gs:List (Nat×Nat)):HP:=fun h=>∃p c,dU [cells x [pv,.bool bk,.slice p gs.length c] 296,sl p c 245 2 gs.length (gsC gs)] h
theorem lZ {x:Nat}{pv:Value}{bk:Bool}{gs:List (Nat×Nat)}:∀k,rdP x pv bk gs k→∃i:Option Addr×Nat,dU ((fun i:Option Addr×Nat=>[cells x [pv,.bool bk,.slice i.1 gs.length i.2] 296,sl i.1 i.2 245 2 gs.length (gsC gs)]) i) k:=fun _⟨p,c,h⟩=>⟨(p,c),h⟩
theorem fH {x m c:Nat}{pv:Value}{bk:Bool}{gs:List (Nat×Nat)}{H H':List HP}{p:Option Addr}{xs:List Value}(hs:Sub [cells x [pv,.bool bk,.slice p m c] 296,sl p c 245 2 m xs] H H')(hm:m=gs.length)(hx:xs=gsC gs):∀k,dU H k→dU (rdP x pv bk gs::H') k:=by
 subst hm hx
 exact qLo hs (fun _ h=>⟨p,c,h⟩)

theorem vD (hE:Seat E){i:Nat}(hi:i<Es.length):Ct E 168 [uPt pp,.int .i64 ((i+1:Nat):Int)] [cells pp [uPt s,uPt tb] 108,tabP tb s (rls Es),bR s most Es] (fun v Q=>v= .int .i64 (len (rls Es) (i+1):Nat)∧Q=[cells pp [uPt s,uPt tb] 108,tabP tb s (rls Es),bR s most Es]):=by
 refine dY (p:=bR s most Es) uK (fun _ h=>dP h) (fun hsay=>?_)
 have hent:Es[i]?=some (Es[i]'hi):=List.getElem?_eq_getElem hi
 generalize Es[i]'hi=en at hent
 have htx:=hsay.2.1 i en hent
 refine bO (hE.fn Tryz.func168) O O O (fun R=>?_)
 simp only[dR,uV,uW]
 refine gg8 ?_
 refine uX (fD hE) O ?_
 rintro _ _⟨rfl,rfl⟩
 simp only[uV,uW]
 refine gg1 ?_
 refine uX (jC hE hent) O ?_
 rintro _ _⟨rfl,rfl⟩
 simp only[uV,uW]
 refine gg3 ?_
 refine uU (cZ (hE.t O) (fun b5=>?_))
 refine gg12 ?_
 exact uZ O (.tmp O .nil) ⟨by rw[len,←htx];rfl,rfl⟩
theorem ct_size0 (hE:Seat E):Ct E 168 [uPt pp,.int .i64 ((0:Nat):Int)] [cells pp [uPt s,uPt tb] 108,tabP tb s (rls Es),bR s most Es] (fun v Q=>v= .int .i64 ((0:Nat):Int)∧Q=[cells pp [uPt s,uPt tb] 108,tabP tb s (rls Es),bR s most Es]):=by
 refine bO (hE.fn Tryz.func168) O O O (fun R=>?_)
 simp only[dR,uV,uW]
 refine gg8 ?_
 refine uX (fD hE) O ?_
 rintro _ _⟨rfl,rfl⟩
 simp only[uV,uW]
 refine gg1 ?_
 refine uX (sK hE) O ?_
 rintro _ _⟨rfl,rfl⟩
 simp only[uV,uW]
 refine gg3 ?_
 refine uU (cZ (hE.t O) (fun b5=>?_))
 refine gg12 ?_
 exact uZ O (.tmp O .nil) ⟨O,O⟩
theorem xL (hE:Seat E){x sy k:Nat}{pv:Value}{bk:Bool}{gs:List (Nat×Nat)}(hg:gs.length<1099511627776):Ct E 218 [uPt x,.int .i64 (sy:Nat),.int .i64 (k:Nat)] [rdP x pv bk gs] (fun v Q=>v= .tuple #[]∧Q=[rdP x pv bk (gs++[(sy,k)])]):=by
 refine uG (ps:=fun i:Option Addr×Nat=>[cells x [pv,.bool bk,.slice i.1 gs.length i.2] 296,sl i.1 i.2 245 2 gs.length (gsC gs)]) lZ ?_
 rintro⟨p,c⟩
 refine bO (hE.fn Tryz.func218) O O O (fun R=>?_)
 simp only[dR,uV,uW]
 refine gg9 ?_
 refine uU ?_
 refine aU (hE.t O) (hE.t O) O O O (fun b14=>?_)
 refine uU ?_
 apply bU (hE.t O) (hE.t O) O O O
 ·exact uK
 ·exact uK
 ·rfl
 ·rfl
 ·omega
 ·omega
 ·(unfold maxLen;omega)
 intro g15 c15 n15 x15 hn15 hx15
 refine gg4 ?_
 apply pQ
 ·rfl
 ·(exact Rs.nil)
 ·exact⟨O,O⟩
 apply cO
 ·apply fH (gs:=gs++[(sy,k)]) (x:=x)
  ·exact uK
  ·rw[hn15];simp
  rw[hx15,mF];rfl
 exact uI
def eY (a:List (Nat×Nat))(sy k m:Nat):List (Nat×Nat):=if m=k then a else a++[(sy,k-m)]
theorem tZ (hE:Seat E){x sy k m:Nat}{pv:Value}{bk:Bool}{a:List (Nat×Nat)}(hm:m≤k)(hk:k≤1152921504606846976)(ha:a.length<1099511627776):
  Ct E 215 [uPt x,.int .i64 (m:Nat)] [rdP x pv bk (a++[(sy,k)])] (fun v Q=>v= .tuple #[]∧Q=[rdP x pv bk (eY a sy k m)]):=by
 refine uG (ps:=fun i:Option Addr×Nat=>[cells x [pv,.bool bk,.slice i.1 (a++[(sy,k)]).length i.2] 296,sl i.1 i.2 245 2 (a++[(sy,k)]).length (gsC (a++[(sy,k)]))]) lZ ?_
 rintro⟨p,c⟩
 have hl:(a++[(sy,k)]).length=a.length+1:=by simp
 simp only[hl]
 refine dY (p:=sl p c 245 2 (a.length+1) (gsC (a++[(sy,k)]))) uK (fun _ h=>And.intro (fA h oO) (nR h).1) ?_
 rintro⟨⟨g,rfl⟩,hcap⟩
 have hget:(a++[(sy,k)])[a.length]?=some (sy,k):=by simp
 have e1:0+(((a.length+1:Nat):Int)-1).toNat*2+1=a.length*2+1:=oO
 have f0:(gsC (a++[(sy,k)]))[0+(((a.length+1:Nat):Int)-1).toNat*2+1]?=some (.int .i64 (k:Nat)):=by rw[e1];exact(iY hget).2
 have hset:bX (gsC (a++[(sy,k)])) (0+(((a.length+1:Nat):Int)-1).toNat*2+1) (bP (.int .i64 ((k:Int)-(m:Int))))=gsC (a++[(sy,k-m)]):=by
  rw[e1,show(k:Int)-(m:Int)=((k-m:Nat):Int) by omega]
  have:=qEn hget (k-m)
  simp only[bX,bP]
  rw[this];simp
 have f1:(gsC (a++[(sy,k-m)]))[0+(((a.length+1:Nat):Int)-1).toNat*2+1]?=some (.int .i64 ((k-m:Nat):Int)):=by rw[e1];exact(iY (g:=(sy,k-m)) (by simp)).2
 refine bO (hE.fn Tryz.func215) O O O (fun R=>?_)
 simp only[dR,uV,uW]
 refine gg29 ?_
 rw[hset]
 refine gg9 ?_
 refine bE O (fun h=>?_) (fun h=>?_)
 ·refine gg12 ?_
  refine uB (fK a.length O O (hE.t O) oO oO) ?_
  refine gg4 ?_
  apply pQ
  ·rfl
  ·(exact Rs.nil)
  ·exact⟨O,O⟩
  have hd:eY a sy k m=a:=if_pos oO
  rw[hd]
  apply cO
  ·apply cK (p:=sl (some ⟨g,0,none⟩) c 245 2 (a.length+1) (gsC (a++[(sy,k-m)]))) (p':=sl (some ⟨g,0,none⟩) c 245 2 a.length (gsC a))
   ·exact uK
   exact nD oO (by rw[mF,←qCz];simp) (by simp)
  apply cO
  ·apply fH (gs:=a) (x:=x)
   ·exact uK
   ·rfl
   rfl
  exact uI
 refine gg1 ?_
 apply pQ
 ·rfl
 ·(exact Rs.nil)
 ·exact⟨O,O⟩
 have hd:eY a sy k m=a++[(sy,k-m)]:=if_neg oO
 rw[hd]
 apply cO
 ·apply fH (gs:=a++[(sy,k-m)]) (x:=x)
  ·exact uK
  ·simp
  rfl
 exact uI
end
section
variable {E:Env}{Es:List Ent}{pp tb s most:Nat}
def fO (bk:Bool):Rl→List (Nat×Nat)
 | .letter _=>[]
 | .pair l r=>if bk then[(l,1),(r,1)]else[(r,1),(l,1)]
 | .power x k=>[(x,k)]
theorem pV (hE:Seat E){x i k:Nat}{bk:Bool}{a:List (Nat×Nat)}{en:Ent}(hent:Es[i]?=some en)(hk1:1≤k)(hk:k≤1152921504606846976)(ha:a.length<1099511627000):
  Ct E 217 [uPt x] [rdP x (uPt pp) bk (a++[(i+1,k)]),cells pp [uPt s,uPt tb] 108,tabP tb s (rls Es),bR s most Es] (fun v Q=>v= .tuple #[]∧Q=[rdP x (uPt pp) bk (eY a (i+1) k 1++fO bk en.r),cells pp [uPt s,uPt tb] 108,tabP tb s (rls Es),bR s most Es]):=by
 have hdl:(eY a (i+1) k 1).length≤a.length+1:=by unfold eY;split <;>simp
 have hdl2:∀q:Nat×Nat,(eY a (i+1) k 1++[q]).length<1099511627776:=fun q=>by simp;omega
 have hl:(a++[(i+1,k)]).length=a.length+1:=by simp
 have hget:(a++[(i+1,k)])[a.length]?=some (i+1,k):=by simp
 have f0:(gsC (a++[(i+1,k)]))[0+(((a.length+1:Nat):Int)-1).toNat*2+0]?=some (.int .i64 ((i+1:Nat):Int)):=by
  rw[show 0+(((a.length+1:Nat):Int)-1).toNat*2+0=a.length*2 by omega];exact(iY hget).1
 refine uG (ps:=fun i':Option Addr×Nat=>[cells x [uPt pp,.bool bk,.slice i'.1 (a++[(i+1,k)]).length i'.2] 296,sl i'.1 i'.2 245 2 (a++[(i+1,k)]).length (gsC (a++[(i+1,k)]))]) lZ ?_
 rintro⟨p,c⟩
 simp only[hl]
 refine dY (p:=sl p c 245 2 (a.length+1) (gsC (a++[(i+1,k)]))) uK (fun _ h=>fA h oO) ?_
 rintro⟨g,rfl⟩
 refine bO (hE.fn Tryz.func217) O O O (fun R=>?_)
 simp only[dR,uV,uW]
 refine gg18 ?_
 apply kM
 ·apply fH (gs:=a++[(i+1,k)]) (x:=x)
  ·exact uK
  ·exact hl.symm
  rfl
 refine gg3 ?_
 refine uX (tZ hE (a:=a) (m:=1) hk1 hk oO) O ?_
 rintro _ _⟨rfl,rfl⟩
 simp only[uV,uW]
 refine gg2 ?_
 apply qBq (ps:=fun i':Option Addr×Nat=>[cells x [uPt pp,.bool bk,.slice i'.1 (eY a (i+1) k 1).length i'.2] 296,sl i'.1 i'.2 245 2 (eY a (i+1) k 1).length (gsC (eY a (i+1) k 1))]) (p:=rdP x (uPt pp) bk (eY a (i+1) k 1))
 ·exact uK
 ·exact lZ
 rintro⟨p1,c1⟩
 simp only[uV,uW]
 refine gg6 ?_
 refine uX (fD hE) O ?_
 rintro _ _⟨rfl,rfl⟩
 simp only[uV,uW]
 refine gg1 ?_
 refine uX (jB hE hent) O ?_
 rintro _ _⟨rfl,rfl⟩
 simp only[uV,uW]
 refine gg3 ?_
 refine uU (cZ (hE.t O) (fun b3=>?_))
 refine gg4 ?_
 generalize en.r=r
 cases r with
 |letter b=>
  refine gg36 ?_
  apply wa_heap
  ·apply fH (gs:=eY a (i+1) k 1) (x:=x)
   ·exact uK
   ·rfl
   rfl
  apply pQ
  ·rfl
  ·(exact Rs.nil)
  ·exact⟨O,O⟩
  simp only[fO,List.append_assoc,List.cons_append,List.nil_append,List.append_nil,if_true,if_false,Bool.false_eq_true]
  exact uI
 |power y t=>
  refine gg10 ?_
  apply kM
  ·apply fH (gs:=eY a (i+1) k 1) (x:=x)
   ·exact uK
   ·rfl
   rfl
  refine gg6 ?_
  refine uX (xL hE (gs:=eY a (i+1) k 1) oO) O ?_
  rintro _ _⟨rfl,rfl⟩
  simp only[uV,uW]
  refine gg2 ?_
  apply pQ
  ·rfl
  ·(exact Rs.nil)
  ·exact⟨O,O⟩
  simp only[fO,List.append_assoc,List.cons_append,List.nil_append,List.append_nil,if_true,if_false,Bool.false_eq_true]
  exact uI
 |pair l r=>
  cases bk with
  |true=>
   refine gg29 ?_
   apply kM
   ·apply fH (gs:=eY a (i+1) k 1) (x:=x)
    ·exact uK
    ·rfl
    rfl
   refine gg5 ?_
   refine uX (xL hE (gs:=eY a (i+1) k 1) oO) O ?_
   rintro _ _⟨rfl,rfl⟩
   simp only[uV,uW]
   refine gg6 ?_
   refine uX (xL hE (gs:=eY a (i+1) k 1++[(l,1)]) (hdl2 _)) O ?_
   rintro _ _⟨rfl,rfl⟩
   simp only[uV,uW]
   refine gg2 ?_
   apply pQ
   ·rfl
   ·(exact Rs.nil)
   ·exact⟨O,O⟩
   simp only[fO,List.append_assoc,List.cons_append,List.nil_append,List.append_nil,if_true,if_false,Bool.false_eq_true]
   exact uI
  |false=>
   refine gg38 ?_
   apply kM
   ·apply fH (gs:=eY a (i+1) k 1) (x:=x)
    ·exact uK
    ·rfl
    rfl
   refine gg5 ?_
   refine uX (xL hE (gs:=eY a (i+1) k 1) oO) O ?_
   rintro _ _⟨rfl,rfl⟩
   simp only[uV,uW]
   refine gg6 ?_
   refine uX (xL hE (gs:=eY a (i+1) k 1++[(r,1)]) (hdl2 _)) O ?_
   rintro _ _⟨rfl,rfl⟩
   simp only[uV,uW]
   refine gg2 ?_
   apply pQ
   ·rfl
   ·(exact Rs.nil)
   ·exact⟨O,O⟩
   simp only[fO,List.append_assoc,List.cons_append,List.nil_append,List.append_nil,if_true,if_false,Bool.false_eq_true]
   exact uI
end
end Go.Proofs.YtjbdlljghogodaaGreatDoor
namespace Eg
def tx (L:List Rl)(bk:Bool)(i:Nat):List UInt8:=if bk then(txt L i).reverse else txt L i
def strm (L:List Rl)(bk:Bool):List (Nat×Nat)→List UInt8
 |[]=>[]
 |g::r=>strm L bk r++rep g.2 (tx L bk g.1)
theorem nH (L:List Rl)(bk:Bool):∀a b:List (Nat×Nat),strm L bk (a++b)=strm L bk b++strm L bk a
 |[],b=>by simp[strm]
 |g::a,b=>by simp[strm,nH L bk a b]
theorem qMq (L:List Rl)(bk:Bool)(s k:Nat):strm L bk [(s,k)]=rep k (tx L bk s):=by simp[strm]
theorem lN (L:List Rl)(bk:Bool)(a:List (Nat×Nat))(s k:Nat):strm L bk (a++[(s,k)])=rep k (tx L bk s)++strm L bk a:=by rw[nH,qMq]
theorem qDf (k:Nat)(t:List UInt8):(rep k t).length=k*t.length:=rep_length k t
theorem qKd (k:Nat)(t:List UInt8):(rep k t).reverse=rep k t.reverse:=by
 induction k with
 |zero=>rfl
 |succ k ih=>rw[rep_succ,List.reverse_append,ih,rep_succ,rep_comm]
theorem eQ (L:List Rl)(bk:Bool)(i:Nat):(tx L bk i).length=len L i:=by unfold tx len;split <;>simp
theorem qTy {L:List Rl}{i l r:Nat}(h:L[i]?=some (.pair l r))(hk:(Rl.pair l r).ok (i+1))(bk:Bool):tx L bk (i+1)=if bk then tx L bk r++tx L bk l else tx L bk l++tx L bk r:=by
 unfold tx;rw[jT h hk];cases bk<;>simp
theorem qMu {L:List Rl}{i x k:Nat}(h:L[i]?=some (.power x k))(hk:(Rl.power x k).ok (i+1))(bk:Bool):tx L bk (i+1)=rep k (tx L bk x):=by
 have e:txt L (i+1)=rep k (txt L x):=lS h hk
 unfold tx
 rw[e]
 cases bk
 ·rfl
 simp[qKd]
theorem qIy {L:List Rl}{i:Nat}{b:UInt8}(h:L[i]?=some (.letter b))(bk:Bool):tx L bk (i+1)=[b]:=by
 unfold tx;rw[gJ h];cases bk<;>rfl
theorem lX {L:List Rl}{i l r:Nat}(h:L[i]?=some (.pair l r))(hk:(Rl.pair l r).ok (i+1))(h0:0≤lvl L (i+1)):0≤lvl L l∧0≤lvl L r:=by
 rw[(nM h hk).2]at h0
 split at h0
 ·rename_i hc;exact hc.2
 omega
theorem rD {L:List Rl}{i x k:Nat}(h:L[i]?=some (.power x k))(hk:(Rl.power x k).ok (i+1))(h0:0≤lvl L (i+1)):0≤lvl L x:=by
 rw[(lK h hk).2]at h0
 split at h0
 ·rename_i hc;exact hc.1
 omega
def gok (L:List Rl)(gs:List (Nat×Nat)):Prop:=∀g∈gs,1≤g.1∧g.1≤L.length∧0≤lvl L g.1∧1≤g.2∧g.2≤dB
theorem gV {L:List Rl}{a b:List (Nat×Nat)}:gok L (a++b)↔gok L a∧gok L b:=by
 constructor
 ·exact fun h=>⟨fun g hg=>h g (by simp[hg]),fun g hg=>h g (by simp[hg])⟩
 rintro⟨h1,h2⟩g hg
 rcases List.mem_append.1 hg with h| h
 ·exact h1 g h
 exact h2 g h
theorem kU {L:List Rl}{s k:Nat}:gok L [(s,k)]↔1≤s∧s≤L.length∧0≤lvl L s∧1≤k∧k≤dB:=by
 unfold gok;simp
theorem drop_rep {t:List UInt8}{k n:Nat}(hn:1≤n)(ht:0<t.length)(hk:n≤k*t.length):(rep k t).drop (k*t.length-n)=t.drop (t.length-((n-1)%t.length+1))++rep ((n-1)/t.length) t:=by
 have hq:(n-1)/t.length<k:=(Nat.div_lt_iff_lt_mul ht).2 oO
 have hm:=Nat.mod_lt (n-1) ht
 have hdm:=Nat.div_add_mod (n-1) t.length
 generalize(n-1)/t.length=q at*
 generalize(n-1)%t.length=m at*
 have e1:k=(k-1-q)+(1+q):=oO
 have e2:k*t.length=(k-1-q)*t.length+t.length+t.length*q:=by
  conv=>lhs;rw[e1,Nat.add_mul,Nat.add_mul,Nat.mul_comm q]
  omega
 rw[show k*t.length-n=(k-1-q)*t.length+(t.length-(m+1)) by omega]
 conv=>lhs;arg 2;rw[e1,xV,xV,rep_one]
 rw[List.drop_append,qDf]
 rw[List.drop_eq_nil_of_le (by rw[qDf];omega),List.nil_append,Nat.add_sub_cancel_left,List.drop_append]
 rw[show t.length-(m+1)-t.length=0 by omega,List.drop_zero]
end Eg
