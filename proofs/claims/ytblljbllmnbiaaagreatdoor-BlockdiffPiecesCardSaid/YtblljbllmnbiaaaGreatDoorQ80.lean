import Derived.Test.YtblljbllmnbiaaaGreatDoorQ79
set_option linter.all false
set_option maxHeartbeats 1000000
namespace Go.Proofs.YtblljbllmnbiaaaGreatDoor
open Go Go.RowKit Sl Eg
set_option maxRecDepth 10000
section
variable {E:Env}
theorem xR (hE:Seat E){a n:Nat}(h1:1≤a)(h2:a<n):Ct E 157 [.int .i64 (a:Nat),.int .i64 (n:Nat)] [] (fun v Q=>v= .bool true∧Q=[]):=by
 refine bO (hE.fn Tryz.func157) O O O (fun R=>?_)
 simp only[dV,uV,uW]
 refine gg10 ?_
 refine l_eq 7 (.bool true) O (congrArg Value.bool (decide_eq_true oO)) ?_
 refine gg11 ?_
 exact uZ O (.tmp O .nil) ⟨congrArg Value.bool (decide_eq_true oO),O⟩
theorem qQk (hE:Seat E){r:Rl}{n:Nat}(ho:r.ok n)(h1:1≤n)(hn:n≤1099511627776):Ct E 133 [.agg #[.int .i64 (Rl.kind (r):Nat),.int .u8 (Rl.byte (r):Nat),.int .i64 (Rl.left (r):Nat),.int .i64 (Rl.right (r):Nat),.int .i64 (Rl.times (r):Nat)],.int .i64 (n:Nat)] [] (fun v Q=>v= .int .i64 0∧Q=[]):=by
 cases r with
 |letter b=>
  refine bO (hE.fn Tryz.func133) O O O (fun R=>?_)
  simp only[dV,uV,uW]
  simp only[Rl.kind,Rl.byte,Rl.left,Rl.right,Rl.times]
  refine gg2 ?_
  refine uU ?_
  refine iV O (fun b2=>?_)
  refine gg25 ?_
  refine l_eq 12 (.bool false) O (by simp) ?_
  refine gg8 ?_
  refine l_eq 17 (.bool false) O (by simp) ?_
  refine gg9 ?_
  refine bE O (fun e1=>?_) (fun e1=>?_)
  ·exact absurd O e1
  refine gg9 ?_
  refine bE O (fun e2=>?_) (fun e2=>?_)
  ·exfalso;omega
  refine gg10 ?_
  exact uZ O (.tmp O .nil) ⟨O,O⟩
 |pair a b=>
  obtain⟨a1,a2,bx1,bx2⟩:=ho
  refine bO (hE.fn Tryz.func133) O O O (fun R=>?_)
  simp only[dV,uV,uW]
  simp only[Rl.kind,Rl.byte,Rl.left,Rl.right,Rl.times]
  refine gg2 ?_
  refine uU ?_
  refine iV O (fun b2=>?_)
  refine gg32 ?_
  refine l_eq 29 (.bool false) O (by simp) ?_
  refine gg9 ?_
  refine bE O (fun e1=>?_) (fun e1=>?_)
  ·exact absurd O e1
  refine gg8 ?_
  refine l_eq 36 (.bool false) O (congrArg Value.bool (decide_eq_false oO)) ?_
  refine gg7 ?_
  refine uX (xR hE a1 a2) O ?_
  rintro _ _⟨rfl,rfl⟩
  simp only[uV,uW]
  refine gg11 ?_
  refine uX (xR hE bx1 bx2) O ?_
  rintro _ _⟨rfl,rfl⟩
  simp only[uV,uW]
  refine gg16 ?_
  exact uZ O (.tmp O .nil) ⟨O,O⟩
 |power a t=>
  obtain⟨a1,a2,t2⟩:=ho
  refine bO (hE.fn Tryz.func133) O O O (fun R=>?_)
  simp only[dV,uV,uW]
  simp only[Rl.kind,Rl.byte,Rl.left,Rl.right,Rl.times]
  refine gg2 ?_
  refine uU ?_
  refine iV O (fun b2=>?_)
  refine gg39 ?_
  refine l_eq 55 (.bool false) O (by simp) ?_
  refine gg8 ?_
  refine l_eq 60 (.bool false) O (by simp) ?_
  refine gg9 ?_
  refine bE O (fun e1=>?_) (fun e1=>?_)
  ·exfalso;omega
  refine gg8 ?_
  refine l_eq 67 (.bool false) O (congrArg Value.bool (decide_eq_false oO)) ?_
  refine gg7 ?_
  refine uX (xR hE a1 a2) O ?_
  rintro _ _⟨rfl,rfl⟩
  simp only[uV,uW]
  refine gg16 ?_
  exact uZ O (.tmp O .nil) ⟨O,O⟩
theorem qLo (hE:Seat E){G:List Rl}(hw:Wf G)(hGl:G.length≤100000){p:Option Addr}{c:Nat}:Ct E 105 [.slice p G.length c] [sl p c 74 5 G.length (rusC G)] (fun v Q=>v= .int .i64 0∧Q=[sl p c 74 5 G.length (rusC G)]):=by
 refine fG (p:=sl p c 74 5 G.length (rusC G)) uK (fun _ h=>fun hpos=>eZ h hpos) (fun hp=>?_)
 refine bO (hE.fn Tryz.func105) O O O (fun R=>?_)
 simp only[dV,uV,uW]
 refine gg12 ?_
 refine dX (fun k:Nat=>[(0,.slice p G.length c),(3,.int .i64 (k:Nat))]) (fun k=>[sl p c 74 5 G.length (rusC G),R]) (fun k=>G.length-k) (fun k=>k≤G.length) 0 (Nat.zero_le _) ⟨O,O,trivial⟩ uI ?_
 rintro k hk
 refine gg9 ?_
 refine bE O (fun e1=>?_) (fun e1=>?_)
 ·have hkl:k<G.length:=oO
  obtain⟨g,rfl⟩:=hp oO
  obtain⟨r,hr⟩:∃x,G[k]?=some x:=⟨_,List.getElem?_eq_getElem hkl⟩
  obtain⟨f0,f1,f2,f3,f4⟩:=qMq hr (0+((k:Nat):Int).toNat*5) oO
  refine gg12 ?_
  refine l_eq 16 (.int .i64 ((k+1:Nat):Int)) O (bW oO) ?_
  refine uX (qQk (r:=r) (n:=k+1) hE (hw.ok k r hr) oO oO) O ?_
  rintro _ _⟨rfl,rfl⟩
  simp only[uV,uW]
  refine gg9 ?_
  refine bE O (fun e2=>?_) (fun e2=>?_)
  ·exact absurd O e2
  refine gg8 ?_
  refine bS (ι:=Nat) (j:=k+1) oO oO ⟨O,congrArg some (bW oO),trivial⟩ uI
 refine gg11 ?_
 exact uZ O (.tmp O .nil) ⟨O,O⟩
theorem yA (hE:Seat E){n:Nat}(h:n≤1152921504606846976):Ct E 134 [.int .i64 (n:Nat)] [] (fun v Q=>v= .bool true∧Q=[]):=by
 refine bO (hE.fn Tryz.func134) O O O (fun R=>?_)
 simp only[dV,uV,uW]
 refine gg10 ?_
 refine l_eq 5 (.bool true) O (congrArg Value.bool (decide_eq_true oO)) ?_
 refine gg9 ?_
 exact uZ O (.tmp O .nil) ⟨congrArg Value.bool (decide_eq_true oO),O⟩
theorem ct_r1Add (hE:Seat E){a b:Nat}(h:a+b≤1152921504606846976):Ct E 106 [.int .i64 (a:Nat),.int .i64 (b:Nat)] [] (fun v Q=>v= .tuple #[.int .i64 ((a+b:Nat):Int),.int .i64 0]∧Q=[]):=by
 refine bO (hE.fn Tryz.func106) O O O (fun R=>?_)
 simp only[dV,uV,uW]
 refine gg10 ?_
 refine uX (yA (n:=a) hE oO) O ?_
 rintro _ _⟨rfl,rfl⟩
 simp only[uV,uW]
 refine gg5 ?_
 refine uX (yA (n:=b) hE oO) O ?_
 rintro _ _⟨rfl,rfl⟩
 simp only[uV,uW]
 refine gg17 ?_
 refine bE O (fun e1=>?_) (fun e1=>?_)
 ·exfalso;omega
 refine gg12 ?_
 exact uZ O (.tmp O (.tmp O .nil)) ⟨O,O⟩
theorem ct_r1Mul (hE:Seat E){a b:Nat}(h0:1≤a)(hb0:1≤b)(h:b*a≤1152921504606846976):Ct E 107 [.int .i64 (a:Nat),.int .i64 (b:Nat)] [] (fun v Q=>v= .tuple #[.int .i64 ((b*a:Nat):Int),.int .i64 0]∧Q=[]):=by
 have hb:b*1≤b*a:=Nat.mul_le_mul_left _ h0
 have ha:1*a≤b*a:=Nat.mul_le_mul_right _ hb0
 have hz:(a:Int)*(b:Nat)=((b*a:Nat):Int):=by rw[Nat.mul_comm b a];exact(Int.natCast_mul a b).symm
 have hq:(b:Int)≤1152921504606846976/(a:Nat):=Int.le_ediv_of_mul_le oO (by rw[Int.mul_comm,hz];omega)
 refine bO (hE.fn Tryz.func107) O O O (fun R=>?_)
 simp only[dV,uV,uW]
 refine gg10 ?_
 refine uX (yA (n:=a) hE oO) O ?_
 rintro _ _⟨rfl,rfl⟩
 simp only[uV,uW]
 refine gg9 ?_
 refine bE O (fun e1=>?_) (fun e1=>?_)
 ·exfalso;omega
 refine gg8 ?_
 refine l_eq 15 (.bool true) O (congrArg Value.bool (decide_eq_true oO)) ?_
 refine gg11 ?_
 refine bE O (fun e2=>?_) (fun e2=>?_)
 ·exfalso;omega
 refine gg7 ?_
 refine l_eq 23 (.int .i64 ((b*a:Nat):Int)) O (bW hz) ?_
 refine gg5 ?_
 exact uZ O (.tmp O (.tmp O .nil)) ⟨O,O⟩
def lnL (G:List Rl)(k:Nat):List Value:=(List.range k).map fun j=> .int .i64 (len G (j+1):Nat)
theorem lnL_succ (G:List Rl)(k:Nat):lnL G (k+1)=lnL G k++[.int .i64 (len G (k+1):Nat)]:=by
 unfold lnL
 rw[List.range_succ,List.map_append]
 rfl
theorem qOl {G:List Rl}{k a:Nat}(h1:1≤a)(h2:a≤k)(o:Nat)(ho:o=a-1):(lnL G k)[o]?=some (.int .i64 (len G a:Nat)):=by
 subst ho
 unfold lnL
 rw[List.getElem?_map,List.getElem?_range oO]
 simp only[Option.map_some]
 rw[show a-1+1=a by omega]
structure LnG where
 k:Nat
 p:Option Addr
 c:Nat
theorem qFs (hE:Seat E){G:List Rl}(hw:Wf G)(hGl:G.length≤100000){p:Option Addr}{c:Nat}:Ct E 70 [.slice p G.length c] [sl p c 74 5 G.length (rusC G)] (fun v Q=>∃p2 c2,v= .tuple #[.slice p2 G.length c2,.int .i64 0]∧Q=[sl p c 74 5 G.length (rusC G),sl p2 c2 3 1 G.length (lnL G G.length)]):=by
 refine fG (p:=sl p c 74 5 G.length (rusC G)) uK (fun _ h=>fun hpos=>eZ h hpos) (fun hp=>?_)
 have hmx:dB=1152921504606846976:=rfl
 refine bO (hE.fn Tryz.func70) O O O (fun R=>?_)
 simp only[dV,uV,uW]
 refine gg10 ?_
 refine uX (qLo hE hw hGl) O ?_
 rintro _ _⟨rfl,rfl⟩
 simp only[uV,uW]
 refine gg9 ?_
 refine bE O (fun e0=>?_) (fun e0=>?_)
 ·exact absurd O e0
 refine gg14 ?_
 refine dX (fun x:LnG=>[(0,.slice p G.length c),(5,.slice x.p x.k x.c),(6,.int .i64 (x.k:Nat))]) (fun x=>[sl p c 74 5 G.length (rusC G),sl x.p x.c 3 1 x.k (lnL G x.k),R]) (fun x=>G.length-x.k) (fun x=>x.k≤G.length) ⟨0,none,0⟩ (Nat.zero_le _) ⟨O,O,O,trivial⟩ ?_ ?_
 ·apply cO (gW (t:=3) (sz:=1))
  exact uI
 rintro⟨k,p2,c2⟩hk
 simp only at hk ⊢
 refine gg9 ?_
 refine bE O (fun e1=>?_) (fun e1=>?_)
 ·have hkl:k<G.length:=oO
  obtain⟨g,rfl⟩:=hp oO
  obtain⟨r,hr⟩:∃x,G[k]?=some x:=⟨_,List.getElem?_eq_getElem hkl⟩
  obtain⟨f0,f1,f2,f3,f4⟩:=qMq hr (0+((k:Nat):Int).toNat*5) oO
  have hok:=hw.ok k r hr
  have hsh:=hw.short (k+1)
  refine gg10 ?_
  refine jS (fun _:Unit=>[(0,.slice (some ⟨g,0,none⟩) G.length c),(5,.slice p2 k c2),(6,.int .i64 (k:Nat)),(7,.int .i64 (len G (k+1):Nat)),(8,.int .i64 0)]) (fun _=>[sl (some ⟨g,0,none⟩) c 74 5 G.length (rusC G),sl p2 c2 3 1 k (lnL G k),R]) (fun _=>True) ?_ ?_
  ·refine jY (p:=sl p2 c2 3 1 k (lnL G k)) uK (fun _ h=>fun hpos=>eZ h hpos) ?_
   intro hp2
   cases r with
   |letter b=>
    simp only[Rl.kind,Rl.byte,Rl.left,Rl.right,Rl.times]at f0 f1 f2 f3 f4 ⊢
    refine gg26 ?_
    refine fA () trivial ⟨O,O,O,congrArg some (bW (by rw[sZ hr];rfl)),O,trivial⟩ uI
   |pair a b=>
    have hl:=nV hr hok
    obtain⟨a1,a2,bx1,bx2⟩:=hok
    simp only[Rl.kind,Rl.byte,Rl.left,Rl.right,Rl.times]at f0 f1 f2 f3 f4 ⊢
    obtain⟨g2,rfl⟩:=hp2 oO
    have f5:=qOl (G:=G) (k:=k) a1 oO ((((a:Nat):Int)-1).toNat) oO
    have f6:=qOl (G:=G) (k:=k) bx1 oO ((((b:Nat):Int)-1).toNat) oO
    refine gg17 ?_
    refine uH ([sl (some ⟨g,0,none⟩) c 74 5 G.length (rusC G),sl (some ⟨g2,0,none⟩) c2 3 1 k (lnL G k)]) ?_
    refine gg18 ?_
    apply dG 18 O oK O
    refine uC (ct_r1Add (a:=len G a) (b:=len G b) hE oO) O ?_
    rintro _ _⟨rfl,rfl⟩
    simp only[uV,uW]
    refine uE ?_
    refine gg7 ?_
    refine fA () trivial ⟨O,O,O,congrArg some (bW (by rw[hl])),O,trivial⟩ uI
   |power a t=>
    have hl:=kH hr hok
    obtain⟨a1,a2,t2⟩:=hok
    have hap:=hw.pos a a1 oO
    simp only[Rl.kind,Rl.byte,Rl.left,Rl.right,Rl.times]at f0 f1 f2 f3 f4 ⊢
    obtain⟨g2,rfl⟩:=hp2 oO
    have f5:=qOl (G:=G) (k:=k) a1 oO ((((a:Nat):Int)-1).toNat) oO
    refine gg24 ?_
    refine uH ([sl (some ⟨g,0,none⟩) c 74 5 G.length (rusC G),sl (some ⟨g2,0,none⟩) c2 3 1 k (lnL G k)]) ?_
    refine gg14 ?_
    apply dG 14 O oK O
    refine uC (ct_r1Mul (a:=len G a) (b:=t) hE oO oO oO) O ?_
    rintro _ _⟨rfl,rfl⟩
    simp only[uV,uW]
    refine uE ?_
    refine gg7 ?_
    refine fA () trivial ⟨O,O,O,congrArg some (bW (by rw[hl])),O,trivial⟩ uI
  rintro _ _
  refine gg7 ?_
  refine bE O (fun e2=>?_) (fun e2=>?_)
  ·exact absurd O e2
  refine gg5 ?_
  refine uU ?_
  refine aU (hE.t O) (hE.t O) O O O (fun b74=>?_)
  refine uU ?_
  apply bU (hE.t O) (hE.t O) O O O
  ·exact uK
  ·exact uK
  ·rfl
  ·rfl
  ·omega
  ·omega
  ·(unfold maxLen;omega)
  intro g75 c75 n75 x75 hn75 hx75
  refine gg9 ?_
  obtain rfl:n75=k+1:=by omega
  obtain rfl:x75=lnL G (k+1):=by rw[hx75,lnL_succ];rfl
  refine bS (ι:=LnG) (j:=⟨k+1,some ⟨g75,0,none⟩,c75⟩) (by simp only;omega) (by simp only;omega) ⟨O,O,congrArg some (bW (by simp only;omega)),trivial⟩ uI
 obtain rfl:k=G.length:=by omega
 refine gg13 ?_
 exact uZ O (.tmp O (.tmp O .nil)) ⟨p2,c2,O,O⟩
end
section
variable {E:Env}
structure PlG where
 k:Nat
 p:Option Addr
 c:Nat
theorem rep_snoc (T:List UInt8)(k:Nat):(List.replicate (k+1) T).flatten=(List.replicate k T).flatten++T:=by
 rw[List.replicate_succ',List.flatten_append]
 simp
theorem qBf (hE:Seat E){G:List Rl}(hw:Wf G)(hGl:G.length≤100000){p:Option Addr}{c:Nat}:∀n,n≤G.length→len G n≤4096→Ct E 71 [.slice p G.length c,.int .i64 (n:Nat)] [sl p c 74 5 G.length (rusC G)] (fun v Q=>∃p2 c2,v= .slice p2 (len G n) c2∧Q=[sl p c 74 5 G.length (rusC G),sl p2 c2 5 1 (len G n) (byC (txt G n))]):=by
 intro n
 induction n using Nat.strongRecOn with
 |ind n ih=>
  intro hn hlen
  refine fG (p:=sl p c 74 5 G.length (rusC G)) uK (fun _ h=>fun hpos=>eZ h hpos) (fun hp=>?_)
  rcases Nat.eq_zero_or_pos n with rfl|h0
  ·refine bO (hE.fn Tryz.func71) O O O (fun R=>?_)
   simp only[dV,uV,uW]
   refine gg20 ?_
   apply cB
   ·rfl
   ·(apply Rs.tmp rfl;exact Rs.nil)
   ·exact⟨none,0,O,O⟩
   apply cO (gW (t:=5) (sz:=1))
   exact uI
  obtain⟨i,rfl⟩:∃i,n=i+1:=⟨n-1,oO⟩
  obtain⟨g,rfl⟩:=hp oO
  obtain⟨r,hr⟩:∃x,G[i]?=some x:=⟨_,List.getElem?_eq_getElem oO⟩
  have hok:=hw.ok i r hr
  obtain⟨f0,f1,f2,f3,f4⟩:=qMq hr (0+(((i+1:Nat):Int)-1).toNat*5) oO
  refine bO (hE.fn Tryz.func71) O O O (fun R=>?_)
  simp only[dV,uV,uW]
  refine gg12 ?_
  refine bE O (fun e0=>?_) (fun e0=>?_)
  ·exfalso;omega
  refine gg9 ?_
  refine uU (cZ (hE.t O) (fun b5=>?_))
  refine gg3 ?_
  cases r with
  |letter b=>
   have hx:=jE hr
   have hl:len G (i+1)=1:=by rw[len,hx];rfl
   rw[hl,hx]
   simp only[Rl.kind,Rl.byte,Rl.left,Rl.right,Rl.times]at f0 f1 f2 f3 f4 ⊢
   refine gg19 ?_
   refine uU ?_
   refine aU (hE.t O) (hE.t O) O O O (fun b22=>?_)
   refine gg6 ?_
   apply cB
   ·rfl
   ·(apply Rs.tmp rfl;exact Rs.nil)
   ·exact⟨some ⟨b22,0,none⟩,1,O,O⟩
   apply cO (cK (p:=cells b22 [.int .u8 (b.toNat:Nat)] 5) (p':=sl (some ⟨b22,0,none⟩) 1 5 1 1 (byC [b])) uK (gK O (by unfold maxLen;omega)))
   exact uI
  |pair a b=>
   have hx:=kC hr hok
   have hl:=nV hr hok
   obtain⟨a1,a2,bx1,bx2⟩:=hok
   rw[hl,hx]
   simp only[Rl.kind,Rl.byte,Rl.left,Rl.right,Rl.times]at f0 f1 f2 f3 f4 ⊢
   refine gg23 ?_
   refine uH ([cells b5 [.int .i64 ((2:Nat):Int),.int .u8 ((0:Nat):Int),.int .i64 (a:Nat),.int .i64 (b:Nat),.int .i64 ((0:Nat):Int)] 74]) ?_
   refine gg3 ?_
   refine uD 4 O (aB O) ?_
   refine gg2 ?_
   apply dG 3 O oK O
   refine uC (ih a oO oO oO) O ?_
   rintro _ _⟨pa,ca,rfl,rfl⟩
   simp only[uV,uW]
   refine uE ?_
   apply dG 7 O oK O
   refine uC (ih b oO oO oO) O ?_
   rintro _ _⟨pb,cb,rfl,rfl⟩
   simp only[uV,uW]
   refine uE ?_
   apply dG 8 O oK O
   apply qO (hE.t O) (hE.t O) O O O
   ·exact uK
   ·exact uK
   ·exact vQ _
   ·omega
   ·unfold maxLen;omega
   intro p3 c3 m3 x3 hm3 hx3
   obtain rfl:m3=len G a+len G b:=hm3
   obtain rfl:x3=byC (txt G a++txt G b):=by rw[hx3,qDn]
   refine uE ?_
   refine gg6 ?_
   exact uZ O (.tmp O .nil) ⟨p3,c3,O,O⟩
  |power a t=>
   have hx:=jX hr hok
   have hl:=kH hr hok
   obtain⟨a1,a2,t2⟩:=hok
   have hap:=hw.pos a a1 oO
   have ht1:1*len G a≤t*len G a:=Nat.mul_le_mul_right _ oO
   have ht2:t*1≤t*len G a:=Nat.mul_le_mul_left _ hap
   rw[hl,hx]
   simp only[Rl.kind,Rl.byte,Rl.left,Rl.right,Rl.times]at f0 f1 f2 f3 f4 ⊢
   refine gg30 ?_
   refine uX (ih a oO oO oO) O ?_
   rintro _ _⟨pa,ca,rfl,rfl⟩
   simp only[uV,uW]
   refine gg15 ?_
   refine dX (fun x:PlG=>[(5,uPt b5),(6,.slice pa (len G a) ca),(7,.slice x.p (x.k*len G a) x.c),(8,.int .i64 (x.k:Nat))]) (fun x=>[sl (some ⟨g,0,none⟩) c 74 5 G.length (rusC G),cells b5 [.int .i64 ((3:Nat):Int),.int .u8 ((0:Nat):Int),.int .i64 (a:Nat),.int .i64 ((0:Nat):Int),.int .i64 (t:Nat)] 74,sl pa ca 5 1 (len G a) (byC (txt G a)),sl x.p x.c 5 1 (x.k*len G a) (byC ((List.replicate x.k (txt G a)).flatten)),R]) (fun x=>t-x.k) (fun x=>x.k≤t) ⟨0,none,0⟩ (Nat.zero_le _) ⟨O,O,congrArg some (by simp),O,trivial⟩ ?_ ?_
   ·simp only[Nat.zero_mul]
    apply cO (gW (t:=5) (sz:=1))
    exact uI
   rintro⟨k,p2,c2⟩hk
   simp only at hk ⊢
   refine gg9 ?_
   refine bE O (fun e1=>?_) (fun e1=>?_)
   ·have hkt:(k+1)*len G a≤t*len G a:=Nat.mul_le_mul_right _ oO
    have hk1:(k+1)*len G a=k*len G a+len G a:=Nat.succ_mul _ _
    have hT:(txt G a).length=len G a:=rfl
    refine gg7 ?_
    refine uU ?_
    apply qO (hE.t O) (hE.t O) O O O
    ·exact uK
    ·exact uK
    ·exact vQ _
    ·omega
    ·unfold maxLen;omega
    intro p3 c3 m3 x3 hm3 hx3
    obtain rfl:m3=(k+1)*len G a:=by rw[hk1];exact hm3
    obtain rfl:x3=byC ((List.replicate (k+1) (txt G a)).flatten):=by rw[hx3,rep_snoc,qDn]
    refine gg9 ?_
    refine bS (ι:=PlG) (j:=⟨k+1,p3,c3⟩) (by simp only;omega) (by simp only;omega) ⟨O,O,O,congrArg some (bW (by simp only;omega)),trivial⟩ uI
   obtain rfl:k=t:=by omega
   refine gg12 ?_
   exact uZ O (.tmp O .nil) ⟨p2,c2,O,O⟩
theorem qBe (hE:Seat E){G:List Rl}(hw:Wf G)(hGl:G.length≤100000){p:Option Addr}{c:Nat}(hlen:len G G.length≤4096):Ct E 40 [.slice p G.length c,.int .i64 (G.length:Nat)] [sl p c 74 5 G.length (rusC G)] (fun v Q=>∃p2 c2,v= .tuple #[.slice p2 (len G G.length) c2,.bool true]∧Q=[sl p c 74 5 G.length (rusC G),sl p2 c2 5 1 (len G G.length) (byC (txt G G.length))]):=by
 refine bO (hE.fn Tryz.func40) O O O (fun R=>?_)
 simp only[dV,uV,uW]
 refine gg9 ?_
 refine uX (qFs hE hw hGl) O ?_
 rintro _ _⟨p1,c1,rfl,rfl⟩
 simp only[uV,uW]
 refine vD (p:=sl p1 c1 3 1 G.length (lnL G G.length)) uK (fun _ h=>fun hpos=>eZ h hpos) ?_
 intro hp1
 refine gg13 ?_
 refine l_eq 15 (.bool false) O (by simp) ?_
 refine gg6 ?_
 refine l_eq 19 (.bool false) O (congrArg Value.bool (decide_eq_false oO)) ?_
 refine gg10 ?_
 refine l_eq 25 (.bool false) O (congrArg Value.bool (decide_eq_false oO)) ?_
 refine gg6 ?_
 rcases Nat.eq_zero_or_pos G.length with h0|h0
 ·refine l_eq 28 (.bool false) O (congrArg Value.bool (decide_eq_false oO)) ?_
  refine gg18 ?_
  refine uX (qBf hE hw hGl G.length (Nat.le_refl _) hlen) O ?_
  rintro _ _⟨p2,c2,rfl,rfl⟩
  simp only[uV,uW]
  refine gg5 ?_
  exact uZ O (.tmp O (.tmp O .nil)) ⟨p2,c2,O,O⟩
 obtain⟨g1,rfl⟩:=hp1 h0
 have f0:=qOl (G:=G) (k:=G.length) h0 (Nat.le_refl _) ((((G.length:Nat):Int)-1).toNat) oO
 refine l_eq 28 (.bool true) O (congrArg Value.bool (decide_eq_true oO)) ?_
 refine gg17 ?_
 refine bE O (fun e1=>?_) (fun e1=>?_)
 ·exfalso;omega
 refine gg6 ?_
 refine uX (qBf hE hw hGl G.length (Nat.le_refl _) hlen) O ?_
 rintro _ _⟨p2,c2,rfl,rfl⟩
 simp only[uV,uW]
 refine gg5 ?_
 exact uZ O (.tmp O (.tmp O .nil)) ⟨p2,c2,O,O⟩
end
section
variable {E:Env}{Es:List Ent}{s most:Nat}
theorem Iso.txt {L1 L2:List Rl}(w1:Wf L1)(w2:Wf L2){x y:Nat}(h:Iso L1 L2 x y):Eg.txt L1 x=Eg.txt L2 y:=by
 induction h with
 |letter h1 h2=>rw[jE h1,jE h2]
 |pair h1 h2 _ _ i1 i2=>rw[kC h1 (w1.ok _ _ h1),kC h2 (w2.ok _ _ h2),i1,i2]
 |power h1 h2 _ i=>rw[jX h1 (w1.ok _ _ h1),jX h2 (w2.ok _ _ h2),i]
theorem Rea.down {L:List Rl}(hw:Wf L){k x:Nat}(h:Rea L k x):x≤k:=by
 induction h with
 |self h=>exact Nat.le_refl _
 |kid h1 h2 _ ih=>
  have:=pF (hw.ok _ _ h1) _ h2
  omega
theorem RcL.last {L:List Rl}{id:Nat}{V:List Nat}(hw:Wf L)(h:RcL L id V)(h1:1≤id)(h2:id≤L.length):id∈V∧numb V id=V.length:=by
 have hin:id∈V:=(h.all id).2 (by
  obtain⟨n,rfl⟩:∃n,id=n+1:=⟨id-1,oO⟩
  exact .self oO)
 have hl:=List.length_pos_of_mem hin
 obtain⟨z,hz⟩:∃z,V[V.length-1]?=some z:=⟨_,List.getElem?_eq_getElem oO⟩
 have hz1:=((h.all z).1 (List.mem_of_getElem? hz)).down hw
 obtain⟨i,hi⟩:=List.getElem?_of_mem hin
 have hil:=(List.getElem?_eq_some_iff.1 hi).1
 have hz2:id≤z:=by
  rcases Nat.lt_or_ge i (V.length-1)with e| e
  ·have:=(List.pairwise_iff_getElem.1 h.srt) i (V.length-1) hil oO e
   rw[(List.getElem?_eq_some_iff.1 hi).2,(List.getElem?_eq_some_iff.1 hz).2]at this
   exact this
  have e2:i=V.length-1:=oO
  subst e2
  rw[hi]at hz
  cases hz
  exact Nat.le_refl _
 obtain rfl:z=id:=by omega
 refine⟨hin,?_⟩
 rw[qRj h.nd hz]
 omega
theorem qTm (hE:Seat E):Ct E 69 [uPt s,.int .i64 ((0:Nat):Int)] [] (fun v Q=>v= .slice none 0 0∧Q=[]):=by
 refine bO (hE.fn Tryz.func69) O O O (fun R=>?_)
 simp only[dV,uV,uW]
 refine gg20 ?_
 exact uZ O (.tmp O .nil) ⟨O,O⟩
theorem qPt (hE:Seat E):Ct E 39 [uPt s,.int .i64 ((0:Nat):Int)] [bR s most Es]
  (fun v Q=>∃p c,v= .tuple #[.slice p ([]:List Rl).length c,.nilIface]∧Q=[bR s most Es,sl p c 74 5 ([]:List Rl).length (rusC [])]):=by
 refine bO (hE.fn Tryz.func39) O O O (fun R=>?_)
 simp only[dV,uV,uW]
 refine gg21 ?_
 refine uX (qNo hE ((0:Nat):Int)) O ?_
 rintro _ _⟨rfl,rfl⟩
 simp only[uV,uW]
 refine gg3 ?_
 refine w_eq 18 (.bool false) O (by simp) ?_
 refine gg7 ?_
 refine uX (qTm hE) O ?_
 rintro _ _⟨rfl,rfl⟩
 simp only[uV,uW]
 refine gg7 ?_
 refine uU ?_
 refine qEj .i64 (kt:=24) (et:=24) (by rw[hE.P];kernel_rfl) O (fun b25=>?_)
 refine gg7 ?_
 refine uU ?_
 refine kK (hE.t O) (hE.t O) O O (by first |omega |exact Nat.le_of_ble_eq_true rfl) (by(unfold maxLen;first |omega |exact Nat.le_of_ble_eq_true rfl)) (fun b28 us28 hu28=>?_)
 refine gg12 ?_
 refine jI (cK (p:=sl (some ⟨b28,0,none⟩) 0 74 5 0 us28) (p':=sl (some ⟨b28,0,none⟩) 0 74 5 0 (rusC [])) uK (nM (Nat.zero_le _) (by simp[rusC]) (by simp))) ?_
 refine dX (fun _:Unit=>[(8,.slice (some ⟨b28,0,none⟩) 0 0),(30,.int .i64 ((0:Nat):Int)),(31,.int .i64 0)]) (fun _=>[bR s most Es,sl (some ⟨b28,0,none⟩) 0 74 5 0 (rusC []),R]) (fun _=>0) (fun _=>True) () trivial ⟨O,O,O,trivial⟩ uI ?_
 rintro _ _
 refine gg6 ?_
 refine bE O (fun e1=>?_) (fun e1=>?_)
 ·exfalso;omega
 refine gg13 ?_
 exact uZ O (.tmp O (.tmp O .nil)) ⟨_,_,O,O⟩
theorem qPz (hE:Seat E){id:Nat}(h2:id≤Es.length)(hn:Es.length<65536)(hlen:len (rls Es) id≤4096):Ct E 15 [uPt s,.int .i64 (id:Nat)] [bR s most Es]
  (fun v Q=>∃p c,v= .tuple #[.slice p (len (rls Es) id) c,.bool true]∧Q=[bR s most Es,sl p c 5 1 (len (rls Es) id) (byC (txt (rls Es) id))]):=by
 refine fG (p:=bR s most Es) uK (fun _ h=>dU h) (fun hsay=>?_)
 have hw:=hsay.1
 have hLl:=bQ Es
 rcases Nat.eq_zero_or_pos id with rfl|h1
 ·have hlen0:len [] ([]:List Rl).length≤4096:=hlen
  refine bO (hE.fn Tryz.func15) O O O (fun R=>?_)
  simp only[dV,uV,uW]
  refine gg10 ?_
  refine uX (qPt hE) O ?_
  rintro _ _⟨p,c,rfl,rfl⟩
  simp only[uV,uW]
  refine gg22 ?_
  refine uX (qBe (G:=[]) hE wf_nil (by simp) hlen0) O ?_
  rintro _ _⟨p2,c2,rfl,rfl⟩
  simp only[uV,uW]
  refine gg7 ?_
  exact uZ O (.tmp O (.tmp O .nil)) ⟨p2,c2,O,O⟩
 refine bO (hE.fn Tryz.func15) O O O (fun R=>?_)
 simp only[dV,uV,uW]
 refine gg10 ?_
 refine uX (qSw hE h1 h2 hn) O ?_
 rintro _ _⟨V,p,c,rfl,hR,rfl⟩
 have hlis:=hR.lis hw
 obtain⟨hin,hnb⟩:=hR.last hw h1 oO
 have hiso:=hlis.iso id hin
 have hVl:=hlis.acc.len
 have hgl:(gram (rls Es) V).length=V.length:=qAd
 rw[hnb,←hgl]at hiso
 have htx:=hiso.txt hw hlis.gwf
 have hle:=hiso.len hw hlis.gwf
 rw[←hgl]
 simp only[uV,uW]
 refine gg22 ?_
 refine uX (qBe (G:=gram (rls Es) V) hE hlis.gwf oO (hle▸hlen)) O ?_
 rintro _ _⟨p2,c2,rfl,rfl⟩
 rw[←hle,←htx]
 simp only[uV,uW]
 refine gg7 ?_
 exact uZ O (.tmp O (.tmp O .nil)) ⟨p2,c2,O,O⟩
end
end Go.Proofs.YtblljbllmnbiaaaGreatDoor
