import Derived.Test.YtblljbllmnbiaaaGreatDoorQ94
set_option linter.all false
set_option maxHeartbeats 1000000
namespace Go.Proofs.YtblljbllmnbiaaaGreatDoor
set_option maxRecDepth 10000
section
open Go Eg
theorem Lts.snoc_inv {L:List Rl}{ids:List Nat}{bs:List UInt8}{b:UInt8}(h:Lts L ids (bs++[b])):∃ids' i,ids=ids'++[i+1]∧Lts L ids' bs∧L[i]?=some (.letter b):=by
 generalize hc:bs++[b]=cs at h
 cases h with
 |nil=>simp at hc
 |snoc h1 h2=>
  obtain⟨e1,e2⟩:=List.append_inj' hc rfl
  subst e1
  cases e2
  exact⟨_,_,O,h1,h2⟩
theorem qLc {L:List Rl}(hw:Wf L){a:UInt8}:∀{k:Nat}{ids:List Nat},Lts L ids (List.replicate (k+1) a)→∃m,L[m]?=some (.letter a)∧ids=List.replicate (k+1) (m+1)
 |0,ids,h=>by
  obtain⟨i',m,rfl,h1,h2⟩:=Lts.snoc_inv (bs:=[]) (b:=a) h
  exact⟨m,h2,by rw[h1.nil_inv];rfl⟩
 |k+1,ids,h=>by
  rw[List.replicate_succ']at h
  obtain⟨i',m,rfl,h1,h2⟩:=Lts.snoc_inv h
  obtain⟨m',h3,rfl⟩:=qLc hw h1
  obtain rfl:=hw.nodup _ _ _ h2 h3
  exact⟨m,h2,List.replicate_succ'.symm⟩
theorem Rns.nil_out {L:List Rl}{o:List Nat}(h:Rns L [] o):o=[]:=by
 generalize hc:([]:List (Nat×Nat))=cs at h
 cases h with
 |nil=>rfl
 |snoc h1 h2=>simp at hc
theorem aw_y {L:List Rl}(hw:Wf L){a:UInt8}{k lv:Nat}{ids:List Nat}(h:Rch L (List.replicate (k+2) a) lv ids):∃m,L[m]?=some (.letter a)∧((lv=1∧ids=List.replicate (k+2) (m+1))∨(2≤lv∧∃n,ids=[n+1]∧L[n]?=some (.power (m+1) (k+2)))):=by
 induction h with
 |start h=>
  obtain⟨m,h1,rfl⟩:=qLc hw h
  exact⟨m,h1,.inl ⟨O,O⟩⟩
 |odd h h1 h2 h3 ih=>
  obtain⟨m,hm,⟨rfl,rfl⟩|⟨_,n,rfl,_⟩⟩:=ih
  ·have e:=mZ (l:=[]) (a:=[]) O (x:=m+1) (fun y t h=>by simp at h) (k+1)
   rw[List.nil_append,List.nil_append]at e
   rw[e]at h3
   obtain⟨id,o,rfl,h4,h5⟩:=h3.uncons
   obtain rfl:=h5.nil_out
   rcases h4 with⟨h6,_⟩|⟨_,i,rfl,h7⟩
   ·simp at h6
   exact⟨m,hm,.inr ⟨oO,i,O,h7⟩⟩
  simp at h2
 |even h h1 h2 h3 h4 ih=>
  obtain⟨m,hm,⟨rfl,rfl⟩|⟨_,n,rfl,_⟩⟩:=ih
  ·omega
  simp at h2
theorem aw_x {L:List Rl}(hw:Wf L){a b:UInt8}(hab:a≠b){k lv:Nat}{ids:List Nat}(h:Rch L (List.replicate (k+2) a++[b]) lv ids):∃m n,L[m]?=some (.letter a)∧L[n]?=some (.letter b)∧((lv=1∧ids=List.replicate (k+2) (m+1)++[n+1])∨(2≤lv∧∃p,L[p]?=some (.power (m+1) (k+2))∧(ids=[p+1,n+1]∨∃j,ids=[j+1]∧L[j]?=some (.pair (p+1) (n+1))))):=by
 induction h with
 |start h=>
  obtain⟨i',n,rfl,h1,h2⟩:=Lts.snoc_inv h
  obtain⟨m,h3,rfl⟩:=qLc hw h1
  exact⟨m,n,h3,h2,.inl ⟨O,O⟩⟩
 |odd h h1 h2 h3 ih=>
  obtain⟨m,n,hm,hn,⟨rfl,rfl⟩|⟨hlv,p,hp,rfl|⟨j,rfl,_⟩⟩⟩:=ih
  ·have hmn:m≠n:=fun e=>by subst e;rw[hm]at hn;cases hn;exact hab rfl
   have e:=mZ (l:=[]) (a:=[]) O (x:=m+1) (fun y t h=>by simp at h) (k+1)
   have e2:=mZ e (x:=n+1) (fun y t h=>by simp at h;omega) 0
   rw[List.nil_append,List.nil_append]at e2
   rw[show List.replicate (0+1) (n+1)=[n+1]from rfl]at e2
   rw[e2]at h3
   obtain⟨id,o,rfl,h4,h5⟩:=h3.uncons
   obtain⟨id2,o2,rfl,h6,h7⟩:=h5.uncons
   obtain rfl:=h7.nil_out
   rcases h6 with⟨_,rfl⟩|⟨h6,_⟩
   ·rcases h4 with⟨h8,_⟩|⟨_,i,rfl,h9⟩
    ·simp at h8
    exact⟨m,n,hm,hn,.inr ⟨oO,i,h9,.inl O⟩⟩
   simp at h6
  ·have hpn:p≠n:=fun e=>by subst e;rw[hp]at hn;cases hn
   have e:dD [p+1,n+1]=[(p+1,1),(n+1,1)]:=by simp[dD,tL,hpn]
   rw[e]at h3
   obtain⟨id,o,rfl,h4,h5⟩:=h3.uncons
   obtain⟨id2,o2,rfl,h6,h7⟩:=h5.uncons
   obtain rfl:=h7.nil_out
   rcases h6 with⟨_,rfl⟩|⟨h6,_⟩
   ·rcases h4 with⟨_,rfl⟩|⟨h8,_⟩
    ·exact⟨m,n,hm,hn,.inr ⟨oO,p,hp,.inl O⟩⟩
    simp at h8
   simp at h6
  simp at h2
 |even h h1 h2 h3 h4 ih=>
  obtain⟨m,n,hm,hn,⟨rfl,rfl⟩|⟨hlv,p,hp,rfl|⟨j,rfl,_⟩⟩⟩:=ih
  ·omega
  ·have hg:=pg_of h4
   generalize hq:_++List.drop _ _=out at hg ⊢
   refine⟨m,n,hm,hn,.inr ⟨oO,p,hp,?_⟩⟩
   cases hg with
   |one g1 g2=>
    cases g2 with
    |one g3 g4=>
     cases g4
     exact .inl O
   |two g1 g2 g3=>
    cases g3
    exact .inr ⟨_,O,g2⟩
  simp at h2
theorem vQ {f:Nat→Option Nat}{k a x:Nat}(h:f x=some 0):fput f k a x=some 0:=by
 unfold fput
 by_cases e:x=k
 ·rw[if_pos e,←e,h];simp
 rw[if_neg e,h]
theorem qOy {L:List Rl}{f:Nat→Option Nat}{a x:Nat}{r:Rl}(h:f x=some 0):qCd L f a r x=some 0:=by
 cases r with
 |letter b=>exact h
 |pair l r=>exact vQ (vQ h)
 |power y k=>exact vQ h
theorem qOz {L:List Rl}{i:Nat}{f:Nat→Option Nat}{x:Nat}(h:f x=some 0):nM L i f x=some 0:=by
 rcases pK L i f with⟨a,r,_,_,e⟩| e
 ·rw[e];exact qOy h
 rw[e];exact h
theorem qCx {L:List Rl}{x:Nat}:∀{i:Nat}{f:Nat→Option Nat},f x=some 0→qHy L i f x=some 0
 |0,f,h=>h
 |i+1,f,h=>qCx (i:=i) (qOz h)
theorem qOw {L:List Rl}{j l r:Nat}(hr:L[j]?=some (.pair l r))(hl:l≠0):iO L (j+1) l=some 0:=by
 unfold iO
 show qHy L j (nM L j (jW (j+1))) l=some 0
 refine qCx ?_
 have e:jW (j+1) (j+1)=some 0:=by simp[jW]
 rw[qAj e hr]
 show fput (fput (jW (j+1)) l 0) r (0+len L l) l=some 0
 refine vQ ?_
 unfold fput
 rw[if_pos rfl]
 cases h:jW (j+1) l with
 |none=>rfl
 |some b=>simp
theorem aw_pcs {L:List Rl}(hw:Wf L){x y:Nat}(hx:Sn L [97,97,97,97,97,98] x)(hy:Sn L [97,97,97] y):pcs L (iO L x) y=[.copy 0 3]:=by
 have hel:len L y=3:=hy.len
 rcases hx.sg with⟨h,_⟩|⟨lv,h⟩
 ·cases h
 rcases hy.sg with⟨h',_⟩|⟨lv',h'⟩
 ·cases h'
 obtain⟨m,n,hm,hn,⟨_,e⟩|⟨_,p,hp,e|⟨j,e,hj⟩⟩⟩:=aw_x hw (a:=97) (b:=98) (by decide) (k:=3) h
 ·simp at e
 ·simp at e
 obtain⟨m',hm',⟨_,e'⟩|⟨_,n',e',hp'⟩⟩:=aw_y hw (a:=97) (k:=1) h'
 ·simp at e'
 obtain rfl:=hw.nodup _ _ _ hm hm'
 cases e
 cases e'
 have hjl:=(List.getElem?_eq_some_iff.1 hj).1
 have hf:iO L (j+1) (p+1)=some 0:=qOw hj oO
 have hno:iO L (j+1) (n'+1)=none:=by
  cases hc:iO L (j+1) (n'+1)with
  |none=>rfl
  |some a=>
   exfalso
   have hr:Rea L (j+1) (n'+1):=qCy hw oO (n'+1) (by rw[hc];simp)
   cases hr with
   |self _=>rw[hj]at hp';cases hp'
   |kid h1 h2 h3=>
    rw[hj]at h1
    cases h1
    simp only[kids,List.mem_cons,List.not_mem_nil,or_false]at h2
    rcases h2 with rfl|rfl
    ·cases h3 with
     |self _=>rw[hp]at hp';cases hp'
     |kid h1 h2 h3=>
      rw[hp]at h1
      cases h1
      simp only[kids,List.mem_cons,List.not_mem_nil,or_false]at h2
      subst h2
      cases h3 with
      |self _=>rw[hm]at hp';cases hp'
      |kid h1 h2 h3=>rw[hm]at h1;cases h1;simp[kids]at h2
    cases h3 with
    |self _=>rw[hn]at hp';cases hp'
    |kid h1 h2 h3=>rw[hn]at h1;cases h1;simp[kids]at h2
 rw[vZ hno hp',hel]
 have hb:best L (iO L (j+1)) (m+1) (1+2)=some 0:=qQf ⟨p,by simp[hit,hp,hf]⟩ (fun i b _=>Nat.zero_le b)
 rw[hb]
end
section
open Go Go.RowKit Sl Eg
variable {E:Env}{Es:List Ent}{pp tb s most:Nat}
theorem underPc:Tryz.prog.underlying 45=some (.struct (Tryz.prog.fieldsOf 45)):=by kernel_rfl
theorem heldPc:Tryz.prog.stoodInHeld 45=false:=by kernel_rfl
theorem fieldsPc : (Tryz.prog.fieldsOf 45).toList = [⟨"Copy", 4, 0, false, "", "", 0⟩, ⟨"From", 3, 1, false, "", "", 8⟩, ⟨"N", 3, 2, false, "", "", 16⟩, ⟨"Text", 24, 3, false, "", "", 24⟩] := by kernel_rfl
theorem pc_equal (a b c:Int)(w:World):(Op.equal 45 (.agg #[.bool true,.int .i64 a,.int .i64 b,.int .i64 c]) (.agg #[.bool true,.int .i64 a,.int .i64 b,.int .i64 c])).run Tryz.prog w= .ok true w:=by
 unfold Op.equal Op.maxDepth
 rw[show(10000:Nat)=9999+1 from rfl,run_equalIn_struct _ _ _ _ _ underPc heldPc,fieldsPc]
 simp only[Op.eqFields]
 simp[go_sem]
theorem y_eq_pc (hE:Seat E){n:Nat}{L:Fr}{S:List HP}{ty:TypeId}{pos:String}{af:Array Edge}{d:Option Nat}{gd:Option (Nat×Bool)}{x y:Operand}{yt:TypeId}{a b c:Int}(hx:ev L x=some (.agg #[.bool true,.int .i64 a,.int .i64 b,.int .i64 c]))(hy:ev L y=some (.agg #[.bool true,.int .i64 a,.int .i64 b,.int .i64 c])):
  Yl E n L S ⟨d,.binOp .eql 45 x y yt,ty,pos,af,gd⟩ (.bool true):=fun ac w g _=>by
 have h1:(eqGuard .eql 45 x y (.agg #[.bool true,.int .i64 a,.int .i64 b,.int .i64 c]) (.agg #[.bool true,.int .i64 a,.int .i64 b,.int .i64 c])).run E.P w= .ok () w:=by
  have hg:E.P.eqGuardType E.P.depth 45=false:=by rw[hE.P];kernel_rfl
  unfold eqGuard
  simp[program,Sem.run,hg]
 have h2:∀u v:Value,binOp .eql 45 (.agg #[.bool true,.int .i64 a,.int .i64 b,.int .i64 c]) (.agg #[.bool true,.int .i64 a,.int .i64 b,.int .i64 c])=(do pure (.bool (←Op.equal 45 (.agg #[.bool true,.int .i64 a,.int .i64 b,.int .i64 c]) (.agg #[.bool true,.int .i64 a,.int .i64 b,.int .i64 c])))):=fun _ _=>O
 have h3:=pc_equal a b c w
 rw[←hE.P]at h3
 simp[execOp,h1,h2 (.bool true) (.bool true),h3,g.ev hx,g.ev hy]
theorem jn_one {M N:List Ent}{out:List Px}{D:List Px}{n:Nat}(h:Jn M n D D.length N out)(hD:D=[.copy 0 3]):out=[.copy 0 3]:=by
 subst hD
 have e:=h.eq
 match out,e with
 |[],e=>cases e
 |[.copy f n],e=>simp[nrm,addP,Px.out]at e;rw[e.1,e.2]
 |[.text x],e=>simp[nrm,addP,Px.out]at e
 |_::_::_,e=>simp[nrm,addP]at e
theorem qOh (hE:Seat E)(hB:Base E.w0):Ct E 29 [] [] (fun v Q=>v= .bool true∧Q=[]):=by
 refine bO (hE.fn Tryz.func29) O O O (fun R=>?_)
 simp only[dU,uV,uW]
 refine gg7 ?_
 refine uX (qHh (most:=1048576) hE (Nat.le_refl _)) O ?_
 rintro _ _⟨s,rfl,rfl⟩
 simp only[uV,uW]
 refine uX (qHp hE) O ?_
 rintro _ _⟨pp,tb,rfl,rfl⟩
 simp only[uV,uW]
 refine gg6 ?_
 refine uU ?_
 refine aU (hE.t O) (hE.t O) O O O (fun b12=>?_)
 refine uU ?_
 refine qSf O (hE.t O) (hE.t O) uK ?_
 have n1:([97,97,97,97,97,98]:List UInt8).length≤65536:=by decide
 have r1:([]:List Ent).length+2*([97,97,97,97,97,98]:List UInt8).length≤1048576:=by decide
 refine uX (ct_Of (bs:=[97,97,97,97,97,98]) hE hB n1 r1) O ?_
 rintro _ _⟨M1,x,rfl,hM1,tx1,gx,sx,rfl⟩
 simp only[uV,uW]
 have hx:Sn (rls ([]++M1)) [97,97,97,97,97,98] x:=⟨sx,tx1,gx⟩
 refine gg10 ?_
 refine uU ?_
 refine aU (hE.t O) (hE.t O) O O O (fun b19=>?_)
 refine uU ?_
 refine qSf O (hE.t O) (hE.t O) uK ?_
 have n2:([97,97,97]:List UInt8).length≤65536:=by decide
 have r2:([]++M1:List Ent).length+2*([97,97,97]:List UInt8).length≤1048576:=by simp at hM1 ⊢;omega
 refine uX (ct_Of (bs:=[97,97,97]) hE hB n2 r2) O ?_
 rintro _ _⟨M2,y,rfl,hM2,ty1,gy,sy,rfl⟩
 simp only[uV,uW]
 have hy:Sn (rls ([]++M1++M2)) [97,97,97] y:=⟨sy,ty1,gy⟩
 have hx2:Sn (rls ([]++M1++M2)) [97,97,97,97,97,98] x:=by rw[dA];exact hx.ext _
 have n3:([97,97,97,97,97,98]:List UInt8).length≤600:=by decide
 have n4:([97,97,97]:List UInt8).length≤600:=by decide
 have n5:([]++M1++M2:List Ent).length<65536:=by simp at hM1 hM2 ⊢;omega
 have n6:([]++M1++M2:List Ent).length+360000≤1048576:=by simp at hM1 hM2 ⊢;omega
 refine xH (p:=bR s 1048576 ([]++M1++M2)) uK (fun _ h=>dS h) (fun hsay=>?_)
 have hpc:=aw_pcs hsay.1 hx2 hy
 refine gg12 ?_
 refine uX (ct_bdOf hE hB hx2 hy n3 n4 n5 n6) O ?_
 rintro _ _⟨M,out,q,d,rfl,hJ,rfl⟩
 obtain rfl:=jn_one hJ hpc
 simp only[uV,uW]
 refine xH (p:=sl q d 45 4 [Px.copy 0 3].length (pxC [Px.copy 0 3])) uK (fun _ h=>fQ h (by decide)) ?_
 rintro⟨g,rfl⟩
 have hl1:[Px.copy 0 3].length=1:=rfl
 refine gg41 ?_
 refine uB (y_eq_pc hE O O) ?_
 refine gg5 ?_
 exact uZ O (.tmp O .nil) ⟨O,O⟩
theorem rdb_tx {w0:World}{t:Tx}(h:OkT w0 t):Rdb w0 t.a (byC t.bs) old:=fun hne=>h.1.rd (fun e=>hne (by rw[e];rfl))
theorem ct_two42 (hE:Seat E)(hB:Base E.w0){a b:Tx}(ha:OkT E.w0 a)(hb:OkT E.w0 b)(la:a.bs.length≤600)(lb:b.bs.length≤600):Ct E 8 [.slice a.a a.bs.length a.c,.slice b.a b.bs.length b.c] []
  (fun v Q=>∃pp s tb M x y,v= .tuple #[uPt pp,.int .i64 (x:Nat),.int .i64 (y:Nat),.bool true]∧M.length≤2*(a.bs.length+b.bs.length)∧Sn (rls M) a.bs x∧Sn (rls M) b.bs y∧Q=[cells pp [uPt s,uPt tb] 86,tabP tb s (rls M),bR s 1048576 M]):=by
 refine bO (hE.fn Tryz.func8) O O O (fun R=>?_)
 simp only[dU,uV,uW]
 refine gg10 ?_
 refine uX (qHh (most:=1048576) hE (Nat.le_refl _)) O ?_
 rintro _ _⟨s,rfl,rfl⟩
 simp only[uV,uW]
 refine uX (qHp hE) O ?_
 rintro _ _⟨pp,tb,rfl,rfl⟩
 simp only[uV,uW]
 refine gg6 ?_
 refine uU ?_
 refine nK (hE.t O) (fun b17=>?_)
 refine gg1 ?_
 refine qQ ent_old ?_
 have r1:([]:List Ent).length+2*a.bs.length≤1048576:=by rw[List.length_nil];omega
 have hb1:(0+(byC a.bs).length)*1≤140737488355328:=by
  rw[mP]
  omega
 have hb2:0+(byC a.bs).length≤maxLen:=by
  rw[mP]
  unfold maxLen
  omega
 refine uU ?_
 refine vU (us:=byC a.bs) (q:=old) (hE.t O) (hE.t O) O O O (mP _).symm (rdb_tx ha) uK uK (qGt _) hb1 hb2 (fun pt ct m1 x1 hm1 hx1=>?_)
 obtain rfl:m1=a.bs.length:=by rw[hm1,mP,Nat.zero_add]
 obtain rfl:x1=byC a.bs:=hx1
 refine xH (p:=sl pt ct 5 1 a.bs.length (byC a.bs)) uK (fun _ h=>fun hpos=>fQ h hpos) (fun hpt=>?_)
 have hqs:Rdb E.w0 pt (byC a.bs) (sl pt ct 5 1 a.bs.length (byC a.bs)):=rdb_sl (mP _) hpt
 refine uX (qQn (Es:=[]) (s:=s) (most:=1048576) (tb:=tb) (pp:=pp) (a:=pt) (c:=ct) (q:=sl pt ct 5 1 a.bs.length (byC a.bs)) (bs:=a.bs) hE hB (fun hne=>hqs (byC_ne hne)) oO r1) O ?_
 rintro _ _⟨M1,x,rfl,hM1,tx1,gx,sx,rfl⟩
 clear hqs hpt
 simp only[uV,uW]
 have hx:Sn (rls ([]++M1)) a.bs x:=⟨sx,tx1,gx⟩
 refine gg10 ?_
 refine uU ?_
 refine nK (hE.t O) (fun b25=>?_)
 refine gg1 ?_
 have hb1:(0+(byC b.bs).length)*1≤140737488355328:=by
  rw[mP]
  omega
 have hb2:0+(byC b.bs).length≤maxLen:=by
  rw[mP]
  unfold maxLen
  omega
 refine uU ?_
 refine vU (us:=byC b.bs) (q:=old) (hE.t O) (hE.t O) O O O (mP _).symm (rdb_tx hb) uK uK (qGt _) hb1 hb2 (fun pt ct m1 x1 hm1 hx1=>?_)
 obtain rfl:m1=b.bs.length:=by rw[hm1,mP,Nat.zero_add]
 obtain rfl:x1=byC b.bs:=hx1
 refine xH (p:=sl pt ct 5 1 b.bs.length (byC b.bs)) uK (fun _ h=>fun hpos=>fQ h hpos) (fun hpt=>?_)
 have hqs:Rdb E.w0 pt (byC b.bs) (sl pt ct 5 1 b.bs.length (byC b.bs)):=rdb_sl (mP _) hpt
 have r2:([]++M1:List Ent).length+2*b.bs.length≤1048576:=by rw[List.nil_append];omega
 refine uX (qQn (Es:=[]++M1) (s:=s) (most:=1048576) (tb:=tb) (pp:=pp) (a:=pt) (c:=ct) (q:=sl pt ct 5 1 b.bs.length (byC b.bs)) (bs:=b.bs) hE hB (fun hne=>hqs (byC_ne hne)) oO r2) O ?_
 rintro _ _⟨M2,y,rfl,hM2,ty1,gy,sy,rfl⟩
 simp only[uV,uW]
 have hy:Sn (rls ([]++M1++M2)) b.bs y:=⟨sy,ty1,gy⟩
 have hx2:Sn (rls ([]++M1++M2)) a.bs x:=by rw[dA];exact hx.ext _
 refine gg22 ?_
 refine uX (qOh hE hB) O ?_
 rintro _ _⟨rfl,rfl⟩
 simp only[uV,uW]
 refine gg8 ?_
 exact uZ O (.tmp O (.tmp O (.tmp O (.tmp O .nil)))) ⟨pp,s,tb,[]++M1++M2,x,y,O,by rw[List.nil_append,List.length_append];omega,hx2,hy,rfl⟩
end
section
open Go Go.RowKit Sl Eg
variable {E:Env}{Es:List Ent}{pp tb s most:Nat}
theorem qEq {f:FuncId}{args:List Value}{l:List HP}{q:HP}{u:Value}(h:Ct E f args (l++[q]) (fun v Q=>v=u∧Q=l)):Ct E f args [dR l,q] (fun v Q=>v=u∧Q=[dR l]):=fun R w s=>
 (h R w (s.imp fun _ x=>by rw[List.append_assoc];exact fV (ps:=l) (r:=[q]++[R]) (p:=dR l) (fun _ x=>x) x)).mono fun e w'⟨v,Qs,h1,⟨h2,h3⟩,h4⟩=>⟨v,[dR l],h1,⟨h2,rfl⟩,by subst h3;exact h4.imp fun _=>fK (fun _ x=>x)⟩
theorem qBy (hE:Seat E){i j:Int}{g:Nat}:Ct E 32 [.pointer none,.slice (some ⟨g,0,none⟩) 2 2] [cells g [.int .i64 i,.int .i64 j] 24] (fun v Q=>v= .tuple #[.pointer none,.iface 60 (.int .i64 5)]∧Q=[]):=by
 refine bO (hE.fn Tryz.func32) O O O (fun R=>?_)
 simp only[dU,uV,uW]
 refine gg28 ?_
 exact uZ O (.tmp O (.tmp O .nil)) ⟨O,O⟩
theorem qBz (hE:Seat E){i j:Int}{g:Nat}(h:¬(0≤i∧i≤(Es.length:Nat))):Ct E 32 [uPt pp,.slice (some ⟨g,0,none⟩) 2 2] [cells pp [uPt s,uPt tb] 86,tabP tb s (rls Es),bR s most Es,cells g [.int .i64 i,.int .i64 j] 24] (fun v Q=>v= .tuple #[.pointer none,.iface 60 (.int .i64 1)]∧Q=[cells pp [uPt s,uPt tb] 86,tabP tb s (rls Es),bR s most Es]):=by
 refine bO (hE.fn Tryz.func32) O O O (fun R=>?_)
 simp only[dU,uV,uW]
 refine gg15 ?_
 refine uX (fO hE) O ?_
 rintro _ _⟨rfl,rfl⟩
 simp only[uV,uW]
 refine gg17 ?_
 have f0:[Value.int .i64 i,.int .i64 j][0]?=some (.int .i64 i):=rfl
 have f1:[Value.int .i64 i,.int .i64 j][1]?=some (.int .i64 j):=rfl
 refine iP 3 ?_
 refine gg24 ?_
 refine dV 24 O (fun h1=>?_) (fun h1=>?_)
 ·refine gg22 ?_
  exact uZ O (.tmp O (.tmp O .nil)) ⟨O,O⟩
 refine gg5 ?_
 refine uX (fO hE) O ?_
 rintro _ _⟨rfl,rfl⟩
 simp only[uV,uW]
 refine gg1 ?_
 refine uX (tZ hE) O ?_
 rintro _ _⟨rfl,rfl⟩
 simp only[uV,uW]
 refine gg5 ?_
 refine bE O (fun h2=>?_) (fun h2=>?_)
 ·refine gg13 ?_
  exact uZ O (.tmp O (.tmp O .nil)) ⟨O,O⟩
 exfalso;omega
theorem qCa (hE:Seat E){i j:Int}{g:Nat}(h0:0≤i∧i≤(Es.length:Nat))(h:¬(0≤j∧j≤(Es.length:Nat))):Ct E 32 [uPt pp,.slice (some ⟨g,0,none⟩) 2 2] [cells pp [uPt s,uPt tb] 86,tabP tb s (rls Es),bR s most Es,cells g [.int .i64 i,.int .i64 j] 24] (fun v Q=>v= .tuple #[.pointer none,.iface 60 (.int .i64 1)]∧Q=[cells pp [uPt s,uPt tb] 86,tabP tb s (rls Es),bR s most Es]):=by
 refine bO (hE.fn Tryz.func32) O O O (fun R=>?_)
 simp only[dU,uV,uW]
 refine gg15 ?_
 refine uX (fO hE) O ?_
 rintro _ _⟨rfl,rfl⟩
 simp only[uV,uW]
 refine gg17 ?_
 have f0:[Value.int .i64 i,.int .i64 j][0]?=some (.int .i64 i):=rfl
 have f1:[Value.int .i64 i,.int .i64 j][1]?=some (.int .i64 j):=rfl
 refine iP 3 ?_
 refine gg24 ?_
 refine dV 24 O (fun h3=>?_) (fun h3=>?_)
 ·exfalso;omega
 refine gg5 ?_
 refine uX (fO hE) O ?_
 rintro _ _⟨rfl,rfl⟩
 simp only[uV,uW]
 refine gg1 ?_
 refine uX (tZ hE) O ?_
 rintro _ _⟨rfl,rfl⟩
 simp only[uV,uW]
 refine gg5 ?_
 refine bE O (fun h4=>?_) (fun h4=>?_)
 ·exfalso;omega
 refine gg32 ?_
 refine dV 24 O (fun h1=>?_) (fun h1=>?_)
 ·refine gg22 ?_
  exact uZ O (.tmp O (.tmp O .nil)) ⟨O,O⟩
 refine gg5 ?_
 refine uX (fO hE) O ?_
 rintro _ _⟨rfl,rfl⟩
 simp only[uV,uW]
 refine gg1 ?_
 refine uX (tZ hE) O ?_
 rintro _ _⟨rfl,rfl⟩
 simp only[uV,uW]
 refine gg5 ?_
 refine bE O (fun h2=>?_) (fun h2=>?_)
 ·refine gg13 ?_
  exact uZ O (.tmp O (.tmp O .nil)) ⟨O,O⟩
 exfalso;omega
section
variable {pv:Value}{i j:Int}{e:Int}{P:HP}
theorem qKd (hE:Seat E)(hc:∀g,Ct E 32 [pv,.slice (some ⟨g,0,none⟩) 2 2] [P,cells g [.int .i64 i,.int .i64 j] 24] (fun v Q=>v= .tuple #[.pointer none,.iface 60 (.int .i64 e)]∧Q=[P])):Ct E 11 [pv,.int .i64 i,.int .i64 j] [P] (fun v Q=>v= .tuple #[.slice none 0 0,.iface 60 (.int .i64 e)]∧Q=[P]):=by
 refine bO (hE.fn Tryz.func11) O O O (fun R=>?_)
 simp only[dU,uV,uW]
 refine gg11 ?_
 refine uU ?_
 refine aU (hE.t O) (hE.t O) O O O (fun b20=>?_)
 refine uX (hc _) O ?_
 rintro _ _⟨rfl,rfl⟩
 simp only[uV,uW]
 refine gg24 ?_
 exact uZ O (.tmp O (.tmp O .nil)) ⟨O,O⟩
theorem qGy (hE:Seat E)(hc:∀g,Ct E 32 [pv,.slice (some ⟨g,0,none⟩) 2 2] [P,cells g [.int .i64 i,.int .i64 j] 24] (fun v Q=>v= .tuple #[.pointer none,.iface 60 (.int .i64 e)]∧Q=[P])):Ct E 50 [pv,.int .i64 i,.int .i64 j] [P] (fun v Q=>v= .tuple #[.int .i64 0,.bool false,.iface 60 (.int .i64 e)]∧Q=[P]):=by
 refine bO (hE.fn Tryz.func50) O O O (fun R=>?_)
 simp only[dU,uV,uW]
 refine gg12 ?_
 refine uU ?_
 refine aU (hE.t O) (hE.t O) O O O (fun b18=>?_)
 refine uX (hc _) O ?_
 rintro _ _⟨rfl,rfl⟩
 simp only[uV,uW]
 refine gg25 ?_
 exact uZ O (.tmp O (.tmp O (.tmp O .nil))) ⟨O,O⟩
theorem qEg (hE:Seat E)(hc:∀g,Ct E 32 [pv,.slice (some ⟨g,0,none⟩) 2 2] [P,cells g [.int .i64 i,.int .i64 j] 24] (fun v Q=>v= .tuple #[.pointer none,.iface 60 (.int .i64 e)]∧Q=[P])):Ct E 16 [pv,.int .i64 i,.int .i64 j] [P] (fun v Q=>v= .tuple #[.slice none 0 0,.iface 60 (.int .i64 e)]∧Q=[P]):=by
 refine bO (hE.fn Tryz.func16) O O O (fun R=>?_)
 simp only[dU,uV,uW]
 refine gg11 ?_
 refine uU ?_
 refine aU (hE.t O) (hE.t O) O O O (fun b21=>?_)
 refine uX (hc _) O ?_
 rintro _ _⟨rfl,rfl⟩
 simp only[uV,uW]
 refine gg24 ?_
 exact uZ O (.tmp O (.tmp O .nil)) ⟨O,O⟩
theorem qEk (hE:Seat E)(he:e≠0)(hc:∀g,Ct E 32 [pv,.slice (some ⟨g,0,none⟩) 2 2] [P,cells g [.int .i64 i,.int .i64 j] 24] (fun v Q=>v= .tuple #[.pointer none,.iface 60 (.int .i64 e)]∧Q=[P])):Ct E 20 [pv,.int .i64 i,.int .i64 j,.int .i64 e] [P] (fun v Q=>v= .bool true∧Q=[P]):=by
 refine bO (hE.fn Tryz.func20) O O O (fun R=>?_)
 simp only[dU,uV,uW]
 refine gg10 ?_
 refine uX (qKd hE hc) O ?_
 rintro _ _⟨rfl,rfl⟩
 simp only[uV,uW]
 refine gg12 ?_
 refine uX (qGy hE hc) O ?_
 rintro _ _⟨rfl,rfl⟩
 simp only[uV,uW]
 refine gg14 ?_
 refine uX (qEg hE hc) O ?_
 rintro _ _⟨rfl,rfl⟩
 simp only[uV,uW]
 refine gg38 ?_
 refine uX (qQl hE he) O ?_
 rintro _ _⟨rfl,rfl⟩
 simp only[uV,uW]
 refine gg7 ?_
 refine uX (qQl hE he) O ?_
 rintro _ _⟨rfl,rfl⟩
 simp only[uV,uW]
 refine gg7 ?_
 refine uX (qQl hE he) O ?_
 rintro _ _⟨rfl,rfl⟩
 simp only[uV,uW]
 refine gg5 ?_
 exact uZ O (.tmp O .nil) ⟨O,O⟩
end
theorem qHe (hE:Seat E){i j:Int}:Ct E 20 [.pointer none,.int .i64 i,.int .i64 j,.int .i64 5] [] (fun v Q=>v= .bool true∧Q=[]):=qF (l:=[]) (qEk hE (by decide) fun g=>qEq (l:=[]) (qBy hE))
theorem yE (hE:Seat E){i j:Int}(h:¬(0≤i∧i≤(Es.length:Nat))):Ct E 20 [uPt pp,.int .i64 i,.int .i64 j,.int .i64 1] [cells pp [uPt s,uPt tb] 86,tabP tb s (rls Es),bR s most Es] (fun v Q=>v= .bool true∧Q=[cells pp [uPt s,uPt tb] 86,tabP tb s (rls Es),bR s most Es]):=qF (qEk hE (by decide) fun g=>qEq (qBz hE h))
theorem yF (hE:Seat E){i j:Int}(h0:0≤i∧i≤(Es.length:Nat))(h:¬(0≤j∧j≤(Es.length:Nat))):Ct E 20 [uPt pp,.int .i64 i,.int .i64 j,.int .i64 1] [cells pp [uPt s,uPt tb] 86,tabP tb s (rls Es),bR s most Es] (fun v Q=>v= .bool true∧Q=[cells pp [uPt s,uPt tb] 86,tabP tb s (rls Es),bR s most Es]):=qF (qEk hE (by decide) fun g=>qEq (qCa hE h0 h))
theorem qEi (hE:Seat E)(hB:Base E.w0){x j:Nat}(gx:good (rls Es) x)(hj:j<Es.length)(hl:lvl (rls Es) (j+1)<0)(hn:Es.length≤1048576):Ct E 11 [uPt pp,.int .i64 (x:Nat),.int .i64 ((j+1:Nat):Int)] [cells pp [uPt s,uPt tb] 86,tabP tb s (rls Es),bR s most Es] (fun v Q=>v= .tuple #[.slice none 0 0,.iface 60 (.int .i64 4)]∧Q=[cells pp [uPt s,uPt tb] 86,tabP tb s (rls Es),bR s most Es]):=by
 have hgl:=gx.1
 rw[bQ]at hgl
 refine bO (hE.fn Tryz.func11) O O O (fun R=>?_)
 simp only[dU,uV,uW]
 refine gg11 ?_
 refine uU ?_
 refine aU (hE.t O) (hE.t O) O O O (fun b20=>?_)
 refine uX (wO (Es:=Es) (most:=most) (tb:=tb) (x:=x) (y:=j+1) hE oO oO oO) O ?_
 rintro _ _⟨rfl,rfl⟩
 simp only[uV,uW]
 refine gg22 ?_
 refine uU ?_
 refine aU (hE.t O) (hE.t O) O O O (fun b29=>?_)
 refine gg5 ?_
 have f0:[Value.int .i64 (x:Nat),.int .i64 ((j+1:Nat):Int)][0]?=some (.int .i64 (x:Nat)):=rfl
 have f1:[Value.int .i64 (x:Nat),.int .i64 ((j+1:Nat):Int)][1]?=some (.int .i64 ((j+1:Nat):Int)):=rfl
 refine iP 3 ?_
 refine gg23 ?_
 refine uX (nY hE hB gx) O ?_
 rintro _ _⟨rfl,rfl⟩
 simp only[uV,uW]
 refine gg45 ?_
 refine uX (qHc hE hB hj hl) O ?_
 rintro _ _⟨rfl,rfl⟩
 simp only[uV,uW]
 refine gg27 ?_
 exact uZ O (.tmp O (.tmp O .nil)) ⟨O,O⟩
theorem qEh (hE:Seat E)(hB:Base E.w0){x j:Nat}(hx:x≤Es.length)(hj:j<Es.length)(hl:lvl (rls Es) (j+1)<0)(hn:Es.length≤1048576):Ct E 11 [uPt pp,.int .i64 ((j+1:Nat):Int),.int .i64 (x:Nat)] [cells pp [uPt s,uPt tb] 86,tabP tb s (rls Es),bR s most Es] (fun v Q=>v= .tuple #[.slice none 0 0,.iface 60 (.int .i64 4)]∧Q=[cells pp [uPt s,uPt tb] 86,tabP tb s (rls Es),bR s most Es]):=by
 refine bO (hE.fn Tryz.func11) O O O (fun R=>?_)
 simp only[dU,uV,uW]
 refine gg11 ?_
 refine uU ?_
 refine aU (hE.t O) (hE.t O) O O O (fun b20=>?_)
 refine uX (wO (Es:=Es) (most:=most) (tb:=tb) (x:=j+1) (y:=x) hE oO oO oO) O ?_
 rintro _ _⟨rfl,rfl⟩
 simp only[uV,uW]
 refine gg22 ?_
 refine uU ?_
 refine aU (hE.t O) (hE.t O) O O O (fun b29=>?_)
 refine gg5 ?_
 have f0:[Value.int .i64 ((j+1:Nat):Int),.int .i64 (x:Nat)][0]?=some (.int .i64 ((j+1:Nat):Int)):=rfl
 have f1:[Value.int .i64 ((j+1:Nat):Int),.int .i64 (x:Nat)][1]?=some (.int .i64 (x:Nat)):=rfl
 refine iP 3 ?_
 refine gg23 ?_
 refine uX (qHc hE hB hj hl) O ?_
 rintro _ _⟨rfl,rfl⟩
 simp only[uV,uW]
 refine gg27 ?_
 exact uZ O (.tmp O (.tmp O .nil)) ⟨O,O⟩
theorem tT (hE:Seat E)(hB:Base E.w0){raw:Int}{t:Tx}(ht:OkT E.w0 t):Ct E 5 [.int .i64 raw,.slice t.a t.bs.length t.c] [] (fun v Q=>v= .bool true∧Q=[]):=by
 have hnil:OkT E.w0 ⟨none,[],0⟩:=⟨fun h=>absurd O h,Nat.zero_le _,Nat.zero_le _⟩
 have htl:=ht.2.1
 refine bO (hE.fn Tryz.func5) O O O (fun R=>?_)
 simp only[dU,uV,uW]
 refine gg13 ?_
 refine bE O (fun h0=>?_) (fun h0=>?_)
 ·refine gg7 ?_
  exact uZ O (.tmp O .nil) ⟨O,O⟩
 refine gg5 ?_
 refine uX (ct_two42 (a:=t) (b:=⟨none,[],0⟩) hE hB ht hnil oO (Nat.zero_le _)) O ?_
 rintro _ _⟨pp,s,tb,M,x,y,rfl,hM,hx, -,rfl⟩
 simp only[List.length_nil,Nat.add_zero]at hM
 simp only[uV,uW]
 refine gg24 ?_
 refine uX (fO hE) O ?_
 rintro _ _⟨rfl,rfl⟩
 simp only[uV,uW]
 refine gg6 ?_
 refine uX (qHj (Es:=M) (most:=1048576) hE 113 oO) O ?_
 rintro _ _⟨M1,one,rfl,hM1,ho1,hol,rfl⟩
 obtain⟨m,rfl⟩:∃m,one=m+1:=⟨one-1,oO⟩
 rw[Nat.add_sub_cancel]at hol
 have hml:m<(M++M1).length:=by have:=(List.getElem?_eq_some_iff.1 hol).1;rwa [bQ]at this
 have hMl:(M++M1).length≤401:=by rw[List.length_append];omega
 simp only[uV,uW]
 refine qQ (cK (p:=tabP tb s (rls M)) (p':=tabP tb s (rls (M++M1))) uK (fun _ h=>by rw[dA M];exact qA _ h)) ?_
 refine xH (p:=bR s 1048576 (M++M1)) uK (fun _ h=>dS h) (fun hsay=>?_)
 have hent:(M++M1)[m]?=some ((M++M1)[m]'hml):=List.getElem?_eq_getElem hml
 generalize(M++M1)[m]'hml=en at hent
 have htx:=hsay.2.1 m en hent
 have hle:en.t.length=1:=by rw[htx,mO hol];rfl
 have hmx:dB=1152921504606846976:=rfl
 refine gg12 ?_
 refine uX (qKk (Es:=M++M1) (most:=1048576) hE hent hent oO oO) O ?_
 rintro _ _⟨M2,id,rfl,hM2,hid,hrl,rfl⟩
 obtain⟨j,rfl⟩:∃j,id=j+1:=⟨id-1,oO⟩
 rw[Nat.add_sub_cancel]at hrl
 have hjl:j<(M++M1++M2).length:=by have:=(List.getElem?_eq_some_iff.1 hrl).1;rwa [bQ]at this
 have hEl:(M++M1++M2).length≤402:=by rw[List.length_append];omega
 simp only[uV,uW]
 refine qQ (cK (p:=tabP tb s (rls (M++M1))) (p':=tabP tb s (rls (M++M1++M2))) uK (fun _ h=>by rw[dA (M++M1)];exact qA _ h)) ?_
 refine xH (p:=bR s 1048576 (M++M1++M2)) uK (fun _ h=>dS h) (fun hsay2=>?_)
 have hlv:lvl (rls (M++M1++M2)) (j+1)<0:=by
  rw[(lY hrl (hsay2.1.ok _ _ hrl)).2,if_neg (by simp)]
  omega
 have hx2:Sn (rls (M++M1++M2)) t.bs x:=by rw[dA,dA];exact(hx.ext _).ext _
 have hxl:=hx2.gd.1
 rw[bQ]at hxl
 refine gg24 ?_
 refine uX (qHe hE) O ?_
 rintro _ _⟨rfl,rfl⟩
 simp only[uV,uW]
 refine gg13 ?_
 refine uX (qEi (Es:=M++M1++M2) (most:=1048576) hE hB hx2.gd hjl hlv oO) O ?_
 rintro _ _⟨rfl,rfl⟩
 simp only[uV,uW]
 refine gg12 ?_
 refine uX (qEh (Es:=M++M1++M2) (most:=1048576) hE hB hxl hjl hlv oO) O ?_
 rintro _ _⟨rfl,rfl⟩
 simp only[uV,uW]
 refine gg20 ?_
 refine uX (qQl hE (by decide)) O ?_
 rintro _ _⟨rfl,rfl⟩
 simp only[uV,uW]
 refine gg7 ?_
 refine uX (qQl hE (by decide)) O ?_
 rintro _ _⟨rfl,rfl⟩
 simp only[uV,uW]
 refine gg13 ?_
 refine dV 88 O (fun h2=>?_) (fun h2=>?_)
 ·refine gg5 ?_
  refine uX (tZ hE) O ?_
  rintro _ _⟨rfl,rfl⟩
  simp only[uV,uW]
  refine gg4 ?_
  refine dV 94 O (fun h3=>?_) (fun h3=>?_)
  ·refine gg15 ?_
   exact uZ O (.tmp O .nil) ⟨O,O⟩
  refine gg7 ?_
  refine uX (yE (Es:=M++M1++M2) hE oO) O ?_
  rintro _ _⟨rfl,rfl⟩
  simp only[uV,uW]
  refine gg9 ?_
  refine uX (yF (Es:=M++M1++M2) hE oO oO) O ?_
  rintro _ _⟨rfl,rfl⟩
  simp only[uV,uW]
  refine gg7 ?_
  exact uZ O (.tmp O .nil) ⟨O,O⟩
 refine gg13 ?_
 refine uX (yE (Es:=M++M1++M2) hE oO) O ?_
 rintro _ _⟨rfl,rfl⟩
 simp only[uV,uW]
 refine gg9 ?_
 refine uX (yF (Es:=M++M1++M2) hE oO oO) O ?_
 rintro _ _⟨rfl,rfl⟩
 simp only[uV,uW]
 refine gg7 ?_
 exact uZ O (.tmp O .nil) ⟨O,O⟩
end
end Go.Proofs.YtblljbllmnbiaaaGreatDoor
