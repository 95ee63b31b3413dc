import Derived.Test.YtblljbllmnbiaaaGreatDoorQ95
import Derived.Test.YtblljbllmnbiaaaGreatDoorQClc
set_option linter.all false
set_option maxHeartbeats 1000000
namespace Go.Proofs.YtblljbllmnbiaaaGreatDoor
set_option maxRecDepth 10000
section
open Go Go.RowKit Sl Eg
variable {E:Env}{Es:List Ent}{pp tb s most:Nat}
def lzC (L:List Rl)(n:Nat):List Value:=(List.range (n+1)).map fun i=> .int .i64 (len L i:Nat)
theorem qEs (L:List Rl)(n:Nat):lzC L (n+1)=lzC L n++[.int .i64 (len L (n+1):Nat)]:=by
 unfold lzC
 rw[List.range_succ,List.map_append]
 rfl
theorem lzC_at (L:List Rl){i n:Nat}(h:i≤n)(o:Nat)(ho:o=i):(lzC L n)[o]?=some (.int .i64 (len L i:Nat)):=by
 subst ho
 unfold lzC
 rw[List.getElem?_map,List.getElem?_range oO]
 rfl
theorem lr_lt {i:Nat}{r:Rl}(h:Rl.ok (i+1) r):r.left≤i∧r.right≤i:=by
 cases r with
 |letter b=>exact⟨Nat.zero_le _,Nat.zero_le _⟩
 |pair a b=>simp only[Rl.ok]at h;exact⟨by show a≤i;omega,by show b≤i;omega⟩
 |power a k=>simp only[Rl.ok]at h;exact⟨by show a≤i;omega,Nat.zero_le _⟩
structure TbG where
 i:Nat
 p:Option Addr
 c:Nat
 p2:Option Addr
 c2:Nat
theorem ct_table (hE:Seat E)(hn:Es.length<65536):Ct E 9 [uPt s] [bR s most Es]
  (fun v Q=>∃p c p2 c2,v= .tuple #[.slice p (Es.length+1) c,.slice p2 (Es.length+1) c2,.bool true]∧Q=[bR s most Es,sl p c 74 5 (Es.length+1) (ruC (rls Es)),sl p2 c2 3 1 (Es.length+1) (lzC (rls Es) Es.length)]):=by
 refine fF (p:=bR s most Es) uK (fun _ h=>dQ h) (fun hsay=>?_)
 have hw:=hsay.1
 have hLl:=bQ Es
 refine bO (hE.fn Tryz.func9) O O O (fun R=>?_)
 simp only[dR,uV,uW]
 refine gg10 ?_
 refine uU ?_
 refine aU (hE.t O) (hE.t O) O O O (fun b13=>?_)
 refine uU ?_
 refine aU (hE.t O) (hE.t O) O O O (fun b14=>?_)
 refine gg11 ?_
 refine jR (cK (p:=cells b13 (ruC []) 74) (p':=sl (some ⟨b13,0,none⟩) 1 74 5 1 (ruC [])) uK (kD O (by unfold maxLen;omega))) ?_
 refine jR (cK (p:=cells b14 [.int .i64 0] 3) (p':=sl (some ⟨b14,0,none⟩) 1 3 1 1 (lzC (rls Es) 0)) uK (kD O (by unfold maxLen;omega))) ?_
 refine dV (fun x:TbG=>[(0,uPt s),(5,.slice x.p (x.i+1) x.c),(6,.slice x.p2 (x.i+1) x.c2),(7,.int .i64 ((x.i+1:Nat):Int))]) (fun x=>[bR s most Es,sl x.p x.c 74 5 (x.i+1) (ruC ((rls Es).take x.i)),sl x.p2 x.c2 3 1 (x.i+1) (lzC (rls Es) x.i),R]) (fun x=>Es.length-x.i) (fun x=>x.i≤Es.length) ⟨0,some ⟨b13,0,none⟩,1,some ⟨b14,0,none⟩,1⟩ (Nat.zero_le _) ⟨O,O,O,O,trivial⟩ uI ?_
 rintro⟨i,p,c,p2,c2⟩hi
 simp only at hi ⊢
 refine gg5 ?_
 refine uX (qCi hE) O ?_
 rintro _ _⟨rfl,rfl⟩
 simp only[uV,uW]
 refine gg3 ?_
 refine bE O (fun h=>?_) (fun h=>?_)
 ·obtain⟨en,hent⟩:∃y,Es[i]?=some y:=⟨_,List.getElem?_eq_getElem oO⟩
  have hri:(rls Es)[i]?=some en.r:=tC hent
  have htl:en.t.length=len (rls Es) (i+1):=by rw[hsay.2.1 i en hent];rfl
  obtain⟨hl1,hl2⟩:=lr_lt (hw.ok _ _ hri)
  have hruS:ruC ((rls Es).take (i+1))=ruC ((rls Es).take i)++rlC en.r:=by
   rw[List.take_add_one,hri,←qNd]
   rfl
  refine gg8 ?_
  refine uX (pF hE hent) O ?_
  rintro _ _⟨rfl,rfl⟩
  simp only[uV,uW]
  refine gg3 ?_
  refine uU (cZ (hE.t O) (fun b8=>?_))
  refine gg8 ?_
  refine uX (lQ hE hent) O ?_
  rintro _ _⟨rfl,rfl⟩
  simp only[uV,uW]
  rw[htl]
  refine gg3 ?_
  refine uU (cZ (hE.t O) (fun b10=>?_))
  refine gg24 ?_
  refine dS 44 O (fun h1=>?_) (fun h1=>?_)
  ·exfalso;omega
  refine gg8 ?_
  refine dS 49 O (fun h2=>?_) (fun h2=>?_)
  ·exfalso;omega
  refine gg10 ?_
  refine dS 55 O (fun h3=>?_) (fun h3=>?_)
  ·exfalso;omega
  refine gg11 ?_
  refine bE O (fun h4=>?_) (fun h4=>?_)
  ·exfalso;omega
  refine gg2 ?_
  refine uN 10 ([cells b8 [.int .i64 (Rl.kind (en.r):Nat),.int .u8 (Rl.byte (en.r):Nat),.int .i64 (Rl.left (en.r):Nat),.int .i64 (Rl.right (en.r):Nat),.int .i64 (Rl.times (en.r):Nat)] 74,cells b10 [.int .i64 (len (rls Es) (i+1):Nat),.int .i64 (fU en.t:Nat),.int .i64 (kE en.t:Nat),.int .i64 (kF en.t:Nat),.int .u64 (dval en.t:Nat),.int .u64 (eZ en.t:Nat)] 81]) ?_
  refine gg2 ?_
  refine uT 4 O (aB O) ?_
  refine gg2 ?_
  apply qEt 2 7 O O oK O O
  ·refine aU (hE.t O) (hE.t O) O O O (fun b63=>?_)
   refine uE ?_
   apply qEt 3 7 O O oK O O
   ·apply bU (hE.t O) (hE.t O) O O O
    ·exact uK
    ·exact uK
    ·rfl
    ·rfl
    ·omega
    ·omega
    ·(unfold maxLen;omega)
    intro g64 c64 n64 x64 hn64 hx64
    refine uE ?_
    apply dX 7 O oK O
    refine aU (hE.t O) (hE.t O) O O O (fun b68=>?_)
    refine uE ?_
    apply dX 8 O oK O
    apply bU (hE.t O) (hE.t O) O O O
    ·exact uK
    ·exact uK
    ·rfl
    ·rfl
    ·omega
    ·omega
    ·(unfold maxLen;omega)
    intro g69 c69 n69 x69 hn69 hx69
    refine uE ?_
    apply dF 9 O oK
    ·exact aC O
    ·rfl
    apply dF 10 O oK
    ·exact aC O
    ·rfl
    refine gg8 ?_
    obtain rfl:x64=ruC ((rls Es).take (i+1)):=by rw[hx64,hruS];rfl
    obtain rfl:n64=i+1+1:=by omega
    obtain rfl:x69=lzC (rls Es) (i+1):=by rw[hx69,qEs];rfl
    obtain rfl:n69=i+1+1:=by omega
    refine bS (ι:=TbG) (j:=⟨i+1,some ⟨g64,0,none⟩,c64,some ⟨g69,0,none⟩,c69⟩) (by simp only;omega) (by simp only;omega) ⟨O,O,O,congrArg some (bW (by simp only;omega)),trivial⟩ uI
   refine aU (hE.t O) (hE.t O) O O O (fun b68=>?_)
   refine uE ?_
   apply dX 3 O oK O
   apply bU (hE.t O) (hE.t O) O O O
   ·exact uK
   ·exact uK
   ·rfl
   ·rfl
   ·omega
   ·omega
   ·(unfold maxLen;omega)
   intro g64 c64 n64 x64 hn64 hx64
   refine uE ?_
   apply dX 8 O oK O
   apply bU (hE.t O) (hE.t O) O O O
   ·exact uK
   ·exact uK
   ·rfl
   ·rfl
   ·omega
   ·omega
   ·(unfold maxLen;omega)
   intro g69 c69 n69 x69 hn69 hx69
   refine uE ?_
   apply dF 9 O oK
   ·exact aC O
   ·rfl
   apply dF 10 O oK
   ·exact aC O
   ·rfl
   refine gg8 ?_
   obtain rfl:x64=ruC ((rls Es).take (i+1)):=by rw[hx64,hruS];rfl
   obtain rfl:n64=i+1+1:=by omega
   obtain rfl:x69=lzC (rls Es) (i+1):=by rw[hx69,qEs];rfl
   obtain rfl:n69=i+1+1:=by omega
   refine bS (ι:=TbG) (j:=⟨i+1,some ⟨g64,0,none⟩,c64,some ⟨g69,0,none⟩,c69⟩) (by simp only;omega) (by simp only;omega) ⟨O,O,O,congrArg some (bW (by simp only;omega)),trivial⟩ uI
  refine aU (hE.t O) (hE.t O) O O O (fun b68=>?_)
  refine uE ?_
  apply dX 2 O oK O
  refine aU (hE.t O) (hE.t O) O O O (fun b63=>?_)
  refine uE ?_
  apply dX 3 O oK O
  apply bU (hE.t O) (hE.t O) O O O
  ·exact uK
  ·exact uK
  ·rfl
  ·rfl
  ·omega
  ·omega
  ·(unfold maxLen;omega)
  intro g64 c64 n64 x64 hn64 hx64
  refine uE ?_
  apply dX 8 O oK O
  apply bU (hE.t O) (hE.t O) O O O
  ·exact uK
  ·exact uK
  ·rfl
  ·rfl
  ·omega
  ·omega
  ·(unfold maxLen;omega)
  intro g69 c69 n69 x69 hn69 hx69
  refine uE ?_
  apply dF 9 O oK
  ·exact aC O
  ·rfl
  apply dF 10 O oK
  ·exact aC O
  ·rfl
  refine gg8 ?_
  obtain rfl:x64=ruC ((rls Es).take (i+1)):=by rw[hx64,hruS];rfl
  obtain rfl:n64=i+1+1:=by omega
  obtain rfl:x69=lzC (rls Es) (i+1):=by rw[hx69,qEs];rfl
  obtain rfl:n69=i+1+1:=by omega
  refine bS (ι:=TbG) (j:=⟨i+1,some ⟨g64,0,none⟩,c64,some ⟨g69,0,none⟩,c69⟩) (by simp only;omega) (by simp only;omega) ⟨O,O,O,congrArg some (bW (by simp only;omega)),trivial⟩ uI
 obtain rfl:i=Es.length:=by omega
 rw[List.take_of_length_le oO]
 refine gg15 ?_
 exact uZ O (.tmp O (.tmp O (.tmp O .nil))) ⟨p,c,p2,c2,O,O⟩
end
section
open Go Go.RowKit Sl Eg
variable {E:Env}{Es:List Ent}{pp tb s most:Nat}
def vzC (F:Nat→Int)(n:Nat):List Value:=(List.range n).map fun k=> .int .i64 (F k)
theorem qPw (F:Nat→Int)(n:Nat):(vzC F n).length=n:=by simp[vzC]
theorem yL (F:Nat→Int){n k:Nat}(hk:k<n)(o:Nat)(ho:o=k):(vzC F n)[o]?=some (.int .i64 (F k)):=by
 subst ho
 unfold vzC
 rw[List.getElem?_map,List.getElem?_range hk]
 rfl
theorem qJn (F:Nat→Int){n k:Nat}(hk:k<n)(o:Nat)(ho:o=k)(x:Int):bX (vzC F n) o (bP (.int .i64 x))=vzC (fun j=>if j=k then x else F j) n:=by
 subst ho
 apply List.ext_getElem?
 intro i
 show((vzC F n).set o (.int .i64 x))[i]?=_
 rw[List.getElem?_set,qPw]
 by_cases e:o=i
 ·subst e
  rw[if_pos rfl,if_pos hk,yL _ hk _ rfl,if_pos rfl]
 rw[if_neg e]
 unfold vzC
 rw[List.getElem?_map,List.getElem?_map]
 rcases Nat.lt_or_ge i n with h| h
 ·rw[List.getElem?_range h]
  simp only[Option.map_some]
  rw[if_neg (fun h=>e h.symm)]
 rw[List.getElem?_eq_none (by simpa using h)];rfl
theorem vzC_fill (us:List Value){n i:Nat}(hu:us.length=n)(hi:i<n)(o:Nat)(ho:o=i):bX (List.replicate i (Value.int .i64 (-1))++us.drop i) o (bP (.int .i64 (-1)))=List.replicate (i+1) (Value.int .i64 (-1))++us.drop (i+1):=by
 subst ho
 show(List.replicate o (Value.int .i64 (-1))++us.drop o).set o (.int .i64 (-1))=_
 have e:=List.drop_eq_getElem_cons (l:=us) (i:=o) oO
 rw[List.set_append_right _ _ (by simp),List.length_replicate,Nat.sub_self,e,List.replicate_succ',List.append_assoc]
 rfl
theorem vzC_full (us:List Value){n:Nat}(hu:us.length=n):List.replicate n (Value.int .i64 (-1))++us.drop n=vzC (fun _=> -1) n:=by
 rw[List.drop_eq_nil_of_le oO,List.append_nil]
 apply List.ext_getElem?
 intro i
 unfold vzC
 rw[List.getElem?_map,List.getElem?_replicate]
 rcases Nat.lt_or_ge i n with h| h
 ·rw[if_pos h,List.getElem?_range h];rfl
 rw[if_neg oO,List.getElem?_eq_none (by simpa using h)];rfl
def fz (f:Nat→Option Nat)(k:Nat):Int:=match f k with |some a=>(a:Nat)|none=> -1
def lst (x y:Int):Int:=if x<0∨y<x then y else x
theorem qEn {f:Nat→Option Nat}{k a:Nat}(h:f k=some a):fz f k=(a:Nat):=by simp[fz,h]
theorem qKo {f:Nat→Option Nat}{k:Nat}(h:f k=none):fz f k= -1:=by simp[fz,h]
theorem qEm (f:Nat→Option Nat)(k:Nat):(f k=none∧fz f k= -1)∨∃a,f k=some a∧fz f k=(a:Nat):=by
 cases h:f k with
 |none=>exact .inl ⟨rfl,qKo h⟩
 |some a=>exact .inr ⟨a,rfl,qEn h⟩
theorem fz_put (f:Nat→Option Nat)(k a:Nat):(fun j=>if j=k then lst (fz f k) (a:Nat)else fz f j)=fz (fput f k a):=by
 funext j
 by_cases e:j=k
 ·subst e
  rw[if_pos rfl]
  rcases qEm f j with⟨h1,h2⟩|⟨b,h1,h2⟩
  ·rw[h2,qEn (f:=fput f j a) (a:=a) (by simp[fput,h1])];simp[lst]
  rw[h2,qEn (f:=fput f j a) (a:=min b a) (by simp[fput,h1])]
  unfold lst
  split <;>omega
 rw[if_neg e]
 unfold fz fput
 rw[if_neg e]
theorem qEe (hE:Seat E){x y:Int}:Ct E 38 [.int .i64 x,.int .i64 y] [] (fun v Q=>v= .int .i64 (lst x y)∧Q=[]):=by
 refine bO (hE.fn Tryz.func38) O O O (fun R=>?_)
 simp only[dR,uV,uW]
 refine gg11 ?_
 refine dS 7 O (fun h1=>?_) (fun h1=>?_)
 ·refine gg15 ?_
  exact uZ O (.tmp O .nil) ⟨congrArg (Value.int .i64) (by rw[lst,if_pos (.inl h1)]),O⟩
 refine gg9 ?_
 refine bE O (fun h2=>?_) (fun h2=>?_)
 ·refine gg8 ?_
  exact uZ O (.tmp O .nil) ⟨congrArg (Value.int .i64) (by rw[lst,if_pos (.inr h2)]),O⟩
 refine gg9 ?_
 exact uZ O (.tmp O .nil) ⟨congrArg (Value.int .i64) (by rw[lst,if_neg oO]),O⟩
structure FiG where
 i:Nat
 F:Nat→Int
 f:Nat→Option Nat
structure FiI (L:List Rl)(id i:Nat)(F:Nat→Int)(f:Nat→Option Nat):Prop where
 le:i≤id
 eq:∀j,j≠0→F j=fz f j
 dn:vL L i f=fG L id
 fin:FIn L (len L id) f
theorem FiI.skip {L:List Rl}{id i:Nat}{F:Nat→Int}{f:Nat→Option Nat}(h:FiI L id (i+1) F f)(hs:nJ L i f=f):FiI L id i F f:=⟨by have:=h.le;omega,h.eq,by have:=h.dn;rw[vL,hs]at this;exact this,h.fin⟩
theorem FiI.put {f:Nat→Option Nat}{F:Nat→Int}{k a:Nat}(h:∀j,j≠0→F j=fz f j) (hk:k≠0):∀j,j≠0→(fun j=>if j=k then lst (F k) (a:Nat)else F j) j=fz (fput f k a) j:=fun j hj=>by
 rw[←fz_put]
 show(if j=k then lst (F k) (a:Nat)else F j)=if j=k then lst (fz f k) (a:Nat)else fz f j
 rw[h k hk,h j hj]
theorem FiI.last {L:List Rl}(hw:Wf L){id:Nat}(hid:id≤L.length){F:Nat→Int}{f:Nat→Option Nat}(h:FiI L id 0 F f):(fun j=>if j=0 then(-1:Int)else F j)=fz (fG L id):=by
 have e:f=fG L id:=h.dn
 funext j
 by_cases h0:j=0
 ·subst h0
  rw[if_pos rfl,qKo (qMf (rR hw hid))]
 rw[if_neg h0,h.eq j h0,e]
theorem FiI.start (L:List Rl)(id:Nat):FiI L id id (fun j=>if j=id then(0:Int)else -1) (jK id):=by
 refine⟨Nat.le_refl _,fun j hj=>?_,O,FIn.base id⟩
 show(if j=id then(0:Int)else -1)=_
 by_cases e:j=id
 ·rw[if_pos e,qEn (a:=0) (by simp[jK,e];omega)];rfl
 rw[if_neg e,qKo (by simp[jK,e])]
theorem rk_cases {L:List Rl}{i a:Nat}{f:Nat→Option Nat}{r:Rl}(h:Rl.ok (i+1) r):(r.kind=1∧xC L f a r=f)∨(r.kind=2∧1≤r.left∧r.left≤i∧1≤r.right∧r.right≤i∧xC L f a r=fput (fput f r.left a) r.right (a+len L r.left))∨(r.kind=3∧1≤r.left∧r.left≤i∧xC L f a r=fput f r.left a):=by
 cases r with
 |letter b=>exact .inl ⟨rfl,rfl⟩
 |pair x y=>simp only[Rl.ok]at h;exact .inr (.inl ⟨rfl,by show 1≤x;omega,by show x≤i;omega,by show 1≤y;omega,by show y≤i;omega,rfl⟩)
 |power x k=>simp only[Rl.ok]at h;exact .inr (.inr ⟨rfl,by show 1≤x;omega,by show x≤i;omega,rfl⟩)
theorem qCj (hE:Seat E){L:List Rl}(hw:Wf L){id cr cl:Nat}{pr pl:Option Addr}(hid:id≤L.length)(hn:L.length<65536):
  Ct E 14 [.slice pr (L.length+1) cr,.slice pl (L.length+1) cl,.int .i64 (id:Nat)] [sl pr cr 74 5 (L.length+1) (ruC L),sl pl cl 3 1 (L.length+1) (lzC L L.length)]
   (fun v Q=>∃b13,v= .slice (some ⟨b13,0,none⟩) (L.length+1) (L.length+1)∧Q=[sl pr cr 74 5 (L.length+1) (ruC L),sl pl cl 3 1 (L.length+1) (lzC L L.length),sl (some ⟨b13,0,none⟩) (L.length+1) 3 1 (L.length+1) (vzC (fz (fG L id)) (L.length+1))]):=by
 refine bO (hE.fn Tryz.func14) O O O (fun R=>?_)
 simp only[dR,uV,uW]
 refine gg9 ?_
 refine uU ?_
 refine ld_makeN (hE.t O) (hE.t O) O oO (by(unfold maxLen;omega)) (fun b13 us13 hu13=>?_)
 refine gg10 ?_
 refine jU (p:=sl pr cr 74 5 (L.length+1) (ruC L)) uK (fun _ h=>fB h oO) ?_
 rintro⟨gr,rfl⟩
 refine jU (p:=sl pl cl 3 1 (L.length+1) (lzC L L.length)) uK (fun _ h=>fB h oO) ?_
 rintro⟨gl,rfl⟩
 rw[Nat.mul_one]at hu13
 refine dV (fun i:Nat=>[(0,.slice (some ⟨gr,0,none⟩) (L.length+1) cr),(1,.slice (some ⟨gl,0,none⟩) (L.length+1) cl),(2,.int .i64 (id:Nat)),(7,.slice (some ⟨b13,0,none⟩) (L.length+1) (L.length+1)),(8,.int .i64 (i:Nat))]) (fun i=>[sl (some ⟨gr,0,none⟩) cr 74 5 (L.length+1) (ruC L),sl (some ⟨gl,0,none⟩) cl 3 1 (L.length+1) (lzC L L.length),sl (some ⟨b13,0,none⟩) (L.length+1) 3 1 (L.length+1) (List.replicate i (Value.int .i64 (-1))++us13.drop i),R]) (fun i=>L.length+1-i) (fun i=>i≤L.length+1) 0 (Nat.zero_le _) ⟨O,O,O,O,O,trivial⟩ uI ?_
 rintro i hi
 refine gg9 ?_
 refine bE O (fun h=>?_) (fun h=>?_)
 ·refine gg17 ?_
  rw[vzC_fill us13 hu13 (i:=i) oO (((i:Nat):Int).toNat) oO]
  refine bS (ι:=Nat) (j:=i+1) oO oO ⟨O,O,O,O,congrArg some (bW oO),trivial⟩ uI
 obtain rfl:i=L.length+1:=by omega
 rw[vzC_full us13 hu13]
 clear hu13
 refine gg21 ?_
 rw[qJn (fun _=> -1) (n:=L.length+1) (k:=id) oO (((id:Nat):Int).toNat) oO]
 refine dV (fun x:FiG=>[(0,.slice (some ⟨gr,0,none⟩) (L.length+1) cr),(1,.slice (some ⟨gl,0,none⟩) (L.length+1) cl),(7,.slice (some ⟨b13,0,none⟩) (L.length+1) (L.length+1)),(9,.int .i64 (x.i:Nat))]) (fun x=>[sl (some ⟨gr,0,none⟩) cr 74 5 (L.length+1) (ruC L),sl (some ⟨gl,0,none⟩) cl 3 1 (L.length+1) (lzC L L.length),sl (some ⟨b13,0,none⟩) (L.length+1) 3 1 (L.length+1) (vzC x.F (L.length+1)),R]) (fun x=>x.i) (fun x=>FiI L id x.i x.F x.f) ⟨id,_,jK id⟩ (FiI.start L id) ⟨O,O,O,O,trivial⟩ uI ?_
 rintro⟨i,F,f⟩hI
 simp only at hI ⊢
 have hile:=hI.le
 refine gg7 ?_
 refine bE O (fun h1=>?_) (fun h1=>?_)
 ·obtain⟨i,rfl⟩:∃k,i=k+1:=⟨i-1,oO⟩
  obtain⟨r,hr⟩:∃r,L[i]?=some r:=⟨_,List.getElem?_eq_getElem oO⟩
  obtain⟨f0,f1,f2,f3,f4⟩:=ruC_at hr (0+((i+1:Nat):Int).toNat*5) oO
  have f5:=yL F (n:=L.length+1) (k:=i+1) oO (((i+1:Nat):Int).toNat) oO
  have hFi:=hI.eq (i+1) oO
  have hok:=hw.ok _ _ hr
  refine gg10 ?_
  refine uU (cZ (hE.t O) (fun b10=>?_))
  refine gg12 ?_
  rcases qEm f (i+1)with⟨g1,g2⟩|⟨a,g1,g2⟩
  ·have hI2:=hI.skip (qMm g1)
   rw[g2]at hFi
   refine dS 40 O (fun h2=>?_) (fun h2=>?_)
   ·refine gg16 ?_
    refine bS (ι:=FiG) (j:=⟨i,F,f⟩) hI2 (by simp only;omega) ⟨O,O,O,congrArg some (bW (by simp only;omega)),trivial⟩ uI
   exfalso;omega
  have hst:=vQ g1 hr
  rw[g2]at hFi
  refine dS 40 O (fun h2=>?_) (fun h2=>?_)
  ·exfalso;omega
  refine gg9 ?_
  rw[hFi]at f5
  have hdn:=hI.dn
  rw[vL,hst]at hdn
  have hfi2:=hI.fin.step hw (i:=i)
  have hal:=hI.fin (i+1) a g1
  have hsh:=hw.short id
  have hsl:=hw.short r.left
  have hmx:dB=1152921504606846976:=rfl
  rcases rk_cases (L:=L) (f:=f) (a:=a) hok with⟨k0,k1⟩|⟨k0,k1,k2,k3,k4,k5⟩|⟨k0,k1,k2,k3⟩
  ·refine bE O (fun h3=>?_) (fun h3=>?_)
   ·refine gg9 ?_
    refine bS (ι:=FiG) (j:=⟨i,F,f⟩) ⟨by simp only;omega,hI.eq,by rw[←hdn,k1],hI.fin⟩ (by simp only;omega) ⟨rfl,rfl,rfl,congrArg some (bW (by simp only;omega)),trivial⟩ uI
   exfalso;omega
  ·have f6:=yL F (n:=L.length+1) (k:=r.left) oO (((r.left:Nat):Int).toNat) oO
   refine bE O (fun h3=>?_) (fun h3=>?_)
   ·exfalso;omega
   refine gg3 ?_
   refine uN 14 ([cells b10 [.int .i64 (Rl.kind (r):Nat),.int .u8 (Rl.byte (r):Nat),.int .i64 (Rl.left (r):Nat),.int .i64 (Rl.right (r):Nat),.int .i64 (Rl.times (r):Nat)] 74,sl (some ⟨b13,0,none⟩) (L.length+1) 3 1 (L.length+1) (vzC F (L.length+1))]) ?_
   refine gg9 ?_
   apply dF 9 O oK
   ·exact aB O
   ·rfl
   apply dF 10 O oK
   ·exact uAj O O
   ·rfl
   apply dF 11 O oK
   ·(apply aO rfl (hE.t rfl) rfl;(repeat(first |rfl|assumption|constructor));done)
   ·rfl
   apply dX 12 O oK O
   refine uC (qEe hE) O ?_
   rintro _ _⟨rfl,rfl⟩
   simp only[uV,uW]
   refine uE ?_
   apply dF 13 O oK
   ·exact uAj O O
   ·rfl
   apply gJ O oK oK O
   refine uJ ?_
   refine gg8 ?_
   rw[qJn F (n:=L.length+1) (k:=r.left) oO (((r.left:Nat):Int).toNat) oO]
   obtain⟨F1,hF1⟩:∃F1:Nat→Int,F1=fun j=>if j=r.left then lst (F r.left) (a:Nat)else F j:=⟨_,rfl⟩
   rw[←hF1]
   have q1:∀j,j≠0→F1 j=fz (fput f r.left a) j:=fun j hj=>by rw[hF1];exact FiI.put hI.eq oO j hj
   have q2:F1 (i+1)=(a:Nat):=by
    rw[hF1]
    simp only
    rw[if_neg oO,hFi]
   refine bE O (fun h4=>?_) (fun h4=>?_)
   ·clear f5 f6
    have f5:=yL F1 (n:=L.length+1) (k:=i+1) oO (((i+1:Nat):Int).toNat) oO
    have f6:=yL F1 (n:=L.length+1) (k:=r.right) oO (((r.right:Nat):Int).toNat) oO
    have f7:=lzC_at L (n:=L.length) (i:=r.left) oO (((r.left:Nat):Int).toNat) oO
    rw[q2]at f5
    refine uN 20 ([cells b10 [.int .i64 (Rl.kind (r):Nat),.int .u8 (Rl.byte (r):Nat),.int .i64 (Rl.left (r):Nat),.int .i64 (Rl.right (r):Nat),.int .i64 (Rl.times (r):Nat)] 74,sl (some ⟨b13,0,none⟩) (L.length+1) 3 1 (L.length+1) (vzC F1 (L.length+1)),sl (some ⟨gl,0,none⟩) cl 3 1 (L.length+1) (lzC L L.length)]) ?_
    refine gg13 ?_
    apply dF 13 O oK
    ·exact uBf O
    ·rfl
    apply dF 14 O oK
    ·(apply aO rfl (hE.t rfl) rfl;(repeat(first |rfl|assumption|constructor));done)
    ·rfl
    apply dF 15 O oK
    ·exact uAj O O
    ·rfl
    apply dF 16 O oK
    ·(apply aO rfl (hE.t rfl) rfl;(repeat(first |rfl|assumption|constructor));done)
    ·rfl
    apply dF 17 O oK
    ·exact uAa O O
    ·rfl
    apply dX 18 O oK O
    rw[show((a:Nat):Int)+((len L r.left:Nat):Int)=((a+len L r.left:Nat):Int) by omega]
    refine uC (qEe hE) O ?_
    rintro _ _⟨rfl,rfl⟩
    simp only[uV,uW]
    refine uE ?_
    apply dF 19 O oK
    ·exact uAj O O
    ·rfl
    apply gJ O oK oK O
    refine uJ ?_
    refine gg7 ?_
    rw[qJn F1 (n:=L.length+1) (k:=r.right) oO (((r.right:Nat):Int).toNat) oO]
    have hdn5:vL L i (fput (fput f r.left a) r.right (a+len L r.left))=fG L id:=by rw[←hdn,k5]
    have hfi5:FIn L (len L id) (fput (fput f r.left a) r.right (a+len L r.left)):=by rw[←k5,←hst];exact hfi2
    have hq5:=FiI.put (k:=r.right) (a:=a+len L r.left) q1 oO
    refine bS (ι:=FiG) (j:=⟨i,fun j=>if j=r.right then lst (F1 r.right) ((a+len L r.left:Nat):Int)else F1 j,fput (fput f r.left a) r.right (a+len L r.left)⟩) ⟨by simp only;omega,hq5,hdn5,hfi5⟩ (by simp only;omega) ⟨rfl,rfl,rfl,congrArg some (bW (by simp only;omega)),trivial⟩ uI
   exfalso;omega
  have f6:=yL F (n:=L.length+1) (k:=r.left) oO (((r.left:Nat):Int).toNat) oO
  refine bE O (fun h3=>?_) (fun h3=>?_)
  ·exfalso;omega
  refine gg3 ?_
  refine uN 14 ([cells b10 [.int .i64 (Rl.kind (r):Nat),.int .u8 (Rl.byte (r):Nat),.int .i64 (Rl.left (r):Nat),.int .i64 (Rl.right (r):Nat),.int .i64 (Rl.times (r):Nat)] 74,sl (some ⟨b13,0,none⟩) (L.length+1) 3 1 (L.length+1) (vzC F (L.length+1))]) ?_
  refine gg9 ?_
  apply dF 9 O oK
  ·exact aB O
  ·rfl
  apply dF 10 O oK
  ·exact uAj O O
  ·rfl
  apply dF 11 O oK
  ·(apply aO rfl (hE.t rfl) rfl;(repeat(first |rfl|assumption|constructor));done)
  ·rfl
  apply dX 12 O oK O
  refine uC (qEe hE) O ?_
  rintro _ _⟨rfl,rfl⟩
  simp only[uV,uW]
  refine uE ?_
  apply dF 13 O oK
  ·exact uAj O O
  ·rfl
  apply gJ O oK oK O
  refine uJ ?_
  refine gg8 ?_
  rw[qJn F (n:=L.length+1) (k:=r.left) oO (((r.left:Nat):Int).toNat) oO]
  obtain⟨F1,hF1⟩:∃F1:Nat→Int,F1=fun j=>if j=r.left then lst (F r.left) (a:Nat)else F j:=⟨_,rfl⟩
  rw[←hF1]
  have q1:∀j,j≠0→F1 j=fz (fput f r.left a) j:=fun j hj=>by rw[hF1];exact FiI.put hI.eq oO j hj
  have q2:F1 (i+1)=(a:Nat):=by
   rw[hF1]
   simp only
   rw[if_neg oO,hFi]
  refine bE O (fun h4=>?_) (fun h4=>?_)
  ·exfalso;omega
  refine gg8 ?_
  have hdn5:vL L i (fput f r.left a)=fG L id:=by rw[←hdn,k3]
  have hfi5:FIn L (len L id) (fput f r.left a):=by rw[←k3,←hst];exact hfi2
  refine bS (ι:=FiG) (j:=⟨i,F1,fput f r.left a⟩) ⟨by simp only;omega,q1,hdn5,hfi5⟩ (by simp only;omega) ⟨rfl,rfl,rfl,congrArg some (bW (by simp only;omega)),trivial⟩ uI
 obtain rfl:i=0:=by omega
 have hlast:=hI.last hw hid
 refine gg19 ?_
 rw[qJn F (n:=L.length+1) (k:=0) oO ((0:Int).toNat) rfl,hlast]
 exact uZ O (.tmp O .nil) ⟨b13,O,O⟩
end
section
open Go Go.RowKit Sl Eg
variable {E:Env}{Es:List Ent}{pp tb s most:Nat}
theorem ct_IDs (hE:Seat E){A:List Nat}{p p2:Option Addr}{c c2:Nat}(hn:A.length<65536):Ct E 17 [.slice p A.length c,.slice p2 A.length c2] [sl p c 24 1 A.length (idC A),sl p2 c2 24 1 A.length (idC A)]
  (fun v Q=>v= .bool true∧Q=[sl p c 24 1 A.length (idC A),sl p2 c2 24 1 A.length (idC A)]):=by
 refine bO (hE.fn Tryz.func17) O O O (fun R=>?_)
 simp only[dR,uV,uW]
 refine gg15 ?_
 refine bE O (fun h0=>?_) (fun h0=>?_)
 ·exfalso;omega
 refine gg9 ?_
 refine dV (fun i:Nat=>[(0,.slice p A.length c),(1,.slice p2 A.length c2),(5,.int .i64 (i:Nat))]) (fun i=>[sl p c 24 1 A.length (idC A),sl p2 c2 24 1 A.length (idC A),R]) (fun i=>A.length-i) (fun i=>i≤A.length) 0 (Nat.zero_le _) ⟨O,O,O,trivial⟩ uI ?_
 rintro i hi
 refine gg9 ?_
 refine bE O (fun h=>?_) (fun h=>?_)
 ·obtain⟨x,hx⟩:∃x,A[i]?=some x:=⟨_,List.getElem?_eq_getElem oO⟩
  refine jU (p:=sl p c 24 1 A.length (idC A)) uK (fun _ h=>fB h oO) ?_
  rintro⟨g,rfl⟩
  refine jU (p:=sl p2 c2 24 1 A.length (idC A)) uK (fun _ h=>fB h oO) ?_
  rintro⟨g2,rfl⟩
  have f0:=jL hx (((i:Nat):Int).toNat) oO
  refine gg17 ?_
  refine bE O (fun h2=>?_) (fun h2=>?_)
  ·exfalso;omega
  refine gg8 ?_
  refine bS (ι:=Nat) (j:=i+1) oO oO ⟨O,O,congrArg some (bW oO),trivial⟩ uI
 refine gg11 ?_
 exact uZ O (.tmp O .nil) ⟨O,O⟩
theorem qSa:∀{A B:List Nat},A.Pairwise (· < ·)→B.Pairwise (· < ·)→(∀x,x∈A↔x∈B)→A=B
 |[],[],_,_,_=>rfl
 |[],b::B,_,_,h=>absurd ((h b).2 List.mem_cons_self) (by simp)
 |a::A,[],_,_,h=>absurd ((h a).1 List.mem_cons_self) (by simp)
 |a::A,b::B,h1,h2,h=>by
  rw[List.pairwise_cons]at h1 h2
  have e:a=b:=by
   rcases List.mem_cons.1 ((h a).1 List.mem_cons_self)with e| e
   ·exact e
   rcases List.mem_cons.1 ((h b).2 List.mem_cons_self)with e2|e2
   ·exact e2.symm
   have:=h2.1 a e;have:=h1.1 b e2;omega
  subst e
  refine congrArg (a:: ·) (qSa h1.2 h2.2 fun x=>⟨fun hx=>?_,fun hx=>?_⟩)
  ·rcases List.mem_cons.1 ((h x).1 (List.mem_cons_of_mem _ hx))with e| e
   ·subst e;have:=h1.1 x hx;omega
   exact e
  rcases List.mem_cons.1 ((h x).2 (List.mem_cons_of_mem _ hx))with e| e
  ·subst e;have:=h2.1 x hx;omega
  exact e
def FCov (L:List Rl)(base n:Nat)(f:Nat→Option Nat):Prop:=f base≠none∧∀p r k,n≤p→L[p]?=some r→Rea L base (p+1)→k∈kids r→f k≠none
theorem FCov.at {L:List Rl}(hw:Wf L){base n:Nat}{f:Nat→Option Nat}(h:FCov L base n f){x:Nat}(hx:Rea L base x)(hn:n≤x):f x≠none:=by
 rcases hx.up with rfl|⟨p,r,h1,h2,h3⟩
 ·exact h.1
 have:=sU (hw.ok p r h2) x h3
 exact h.2 p r x oO h2 h1 h3
theorem FCov.down {L:List Rl}(hw:Wf L){base:Nat}:∀{n:Nat}{f:Nat→Option Nat},FCov L base n f→FCov L base 0 (vL L n f)
 |0,f,h=>h
 |n+1,f,h=>by
  refine FCov.down hw (n:=n) ⟨rV h.1,fun p r k hp hr hx hk=>?_⟩
  rcases Nat.eq_or_lt_of_le hp with rfl|hp
  ·exact qHt (h.at hw hx (Nat.le_refl _)) hr hk
  exact rV (h.2 p r k hp hr hx hk)
theorem qOs {L:List Rl}(hw:Wf L){base x:Nat}(hb:base≤L.length):fG L base x≠none↔Rea L base x:=by
 refine⟨rR hw hb x,fun h=>?_⟩
 have h0:base≠0:=by rintro rfl;cases h
 have hc:FCov L base base (jK base):=⟨by simp[jK,h0],fun p r k hp hr hx hk=>by have:=rea_le hw hx;omega⟩
 exact(hc.down hw).at hw h (Nat.zero_le _)
theorem fz_rea {L:List Rl}(hw:Wf L){base x:Nat}(hb:base≤L.length):0≤fz (fG L base) x↔Rea L base x:=by
 rw[←qOs hw hb]
 rcases qEm (fG L base) x with⟨h1,h2⟩|⟨a,h1,h2⟩
 ·rw[h1,h2];simp
 rw[h1,h2];simp
def xY (P:Nat→Bool)(n:Nat):List Nat:=((List.range n).map (· +1)).filter P
theorem qPy (P:Nat→Bool)(n:Nat):xY P (n+1)=xY P n++if P (n+1)then[n+1]else[]:=by
 unfold xY
 rw[List.range_succ,List.map_append,List.filter_append]
 congr 1
 cases h:P (n+1)<;>simp[h]
theorem qPx (P:Nat→Bool)(n:Nat):(xY P n).Pairwise (· < ·):=by
 refine List.Pairwise.filter _ (List.pairwise_map.2 ?_)
 exact List.pairwise_lt_range.imp fun h=>by omega
theorem qUk (P:Nat→Bool)(n x:Nat):x∈xY P n↔1≤x∧x≤n∧P x=true:=by
 unfold xY
 rw[List.mem_filter,List.mem_map]
 constructor
 ·rintro⟨⟨k,h1,rfl⟩,h2⟩
  have:=List.mem_range.1 h1
  exact⟨oO,oO,h2⟩
 rintro⟨h1,h2,h3⟩
 exact⟨⟨x-1,List.mem_range.2 oO,oO⟩,h3⟩
theorem qJo (P:Nat→Bool)(n:Nat):(xY P n).length≤n:=by
 refine Nat.le_trans (List.length_filter_le _ _) ?_
 simp
theorem qLl {L:List Rl}(hw:Wf L){a b:Nat}(ha:a≤L.length)(hb:b≤L.length){X:List Nat}(hX:X.Pairwise (· < ·))(hm:∀x,x∈X↔Rea L a x∧Rea L b x):
  xY (fun j=>decide (0≤fz (fG L a) j)&&decide (0≤fz (fG L b) j)) L.length=X:=by
 refine qSa (qPx _ _) hX fun x=>?_
 rw[qUk,hm,Bool.and_eq_true,decide_eq_true_iff,decide_eq_true_iff,fz_rea hw ha,fz_rea hw hb]
 exact⟨fun h=>h.2.2,fun h=>⟨h.1.pos.1,h.1.pos.2,h⟩⟩
def am (c:Nat):Nat:=(IntKind.u32.wrap (((BitVec.ofInt IntKind.u32.bits (c:Int))&&&(BitVec.ofInt IntKind.u32.bits 65535)).toNat:Int)).toNat
theorem am_lt (c:Nat):am c<4294967296∧IntKind.u32.wrap (((BitVec.ofInt IntKind.u32.bits (c:Int))&&&(BitVec.ofInt IntKind.u32.bits 65535)).toNat:Int)=(am c:Nat):=by
 unfold am
 generalize(((BitVec.ofInt IntKind.u32.bits (c:Int))&&&(BitVec.ofInt IntKind.u32.bits 65535)).toNat:Int)=z
 have e:IntKind.u32.wrap z=z%4294967296:=by simp[IntKind.wrap,IntKind.bits,IntKind.signed]
 rw[e]
 omega
structure WsG where
 i:Nat
 q:Option Addr
 d:Nat
theorem tQ (hE:Seat E)(hB:Base E.w0){a b:Tx}{z:Nat}(hz:z<4294967296)(ha:OkT E.w0 a)(hb:OkT E.w0 b):Ct E 4 [.slice a.a a.bs.length a.c,.slice b.a b.bs.length b.c,.int .u32 (z:Nat)] [] (fun v Q=>v= .bool true∧Q=[]):=by
 have hal:=ha.2.1
 have hbl:=hb.2.1
 have hz16:z/2^16<4294967296:=Nat.lt_of_le_of_lt (Nat.div_le_self _ _) hz
 obtain⟨hamb,hame⟩:=am_lt z
 refine bO (hE.fn Tryz.func4) O O O (fun R=>?_)
 simp only[dR,uV,uW]
 refine gg8 ?_
 refine uB (nY (j:=16) O O (by decide)) ?_
 refine gg13 ?_
 rw[hame]
 generalize z/2^16=u at hz16 ⊢
 generalize am z=w at hamb ⊢
 refine dS 28 O (fun h1=>?_) (fun h1=>?_)
 ·refine gg14 ?_
  exact uZ O (.tmp O .nil) ⟨O,O⟩
 refine gg9 ?_
 refine bE O (fun h2=>?_) (fun h2=>?_)
 ·refine gg7 ?_
  exact uZ O (.tmp O .nil) ⟨O,O⟩
 refine gg6 ?_
 refine uX (ct_two42 hE hB ha hb oO oO) O ?_
 rintro _ _⟨pp,s,tb,M,x,y,rfl,hM,hx,hy,rfl⟩
 have hLl:=bQ M
 have hxl:=hx.gd.1
 have hyl:=hy.gd.1
 rw[hLl]at hxl hyl
 clear hx hy
 simp only[uV,uW]
 refine xH (p:=bR s 1048576 M) uK (fun _ h=>dQ h) (fun hsay=>?_)
 have hw:=hsay.1
 refine gg24 ?_
 refine uX (gQ hE) O ?_
 rintro _ _⟨rfl,rfl⟩
 simp only[uV,uW]
 refine uX (ct_table (Es:=M) (most:=1048576) hE oO) O ?_
 rintro _ _⟨p,c,p2,c2,rfl,rfl⟩
 simp only[uV,uW]
 refine gg19 ?_
 refine jD (fun q:Nat=>[(8,.int .u32 (w:Nat)),(9,uPt pp),(10,.int .i64 (q:Nat)),(11,.int .i64 (y:Nat)),(13,.slice p (M.length+1) c),(14,.slice p2 (M.length+1) c2)]) (fun q=>[cells pp [uPt s,uPt tb] 86,tabP tb s (rls M),bR s 1048576 M,sl p c 74 5 (M.length+1) (ruC (rls M)),sl p2 c2 3 1 (M.length+1) (lzC (rls M) M.length),R]) (fun q=>q≤M.length) ?_ ?_
 ·refine gg7 ?_
  refine bE O (fun h3=>?_) (fun h3=>?_)
  ·refine gg8 ?_
   refine eG (ι:=Nat) (u%(M.length+1)) (by have:=Nat.mod_lt u (show 0<M.length+1 by omega);omega) ⟨O,O,congrArg some (bW oO),O,O,O,trivial⟩ uI
  refine gg1 ?_
  refine eG (ι:=Nat) x hxl ⟨O,O,O,O,O,O,trivial⟩ uI
 rintro x hxl
 refine jD (fun q:Nat=>[(9,uPt pp),(10,.int .i64 (x:Nat)),(11,.int .i64 (q:Nat)),(13,.slice p (M.length+1) c),(14,.slice p2 (M.length+1) c2)]) (fun q=>[cells pp [uPt s,uPt tb] 86,tabP tb s (rls M),bR s 1048576 M,sl p c 74 5 (M.length+1) (ruC (rls M)),sl p2 c2 3 1 (M.length+1) (lzC (rls M) M.length),R]) (fun q=>q≤M.length) ?_ ?_
 ·refine gg7 ?_
  refine bE O (fun h3=>?_) (fun h3=>?_)
  ·refine gg8 ?_
   refine eG (ι:=Nat) (w%(M.length+1)) (by have:=Nat.mod_lt w (show 0<M.length+1 by omega);omega) ⟨O,O,congrArg some (bW oO),O,O,trivial⟩ uI
  refine gg1 ?_
  refine eG (ι:=Nat) y hyl ⟨O,O,O,O,O,trivial⟩ uI
 rintro y hyl
 refine gg5 ?_
 refine uX (qQo (Es:=M) (most:=1048576) hE hxl hyl oO) O ?_
 rintro _ _⟨q,d,X,rfl,hX,hXm,rfl⟩
 simp only[uV,uW]
 have hXe:=qLl hw (a:=x) (b:=y) oO oO hX hXm
 have hXl:X.length≤M.length:=by rw[←hXe,←hLl];exact qJo _ _
 rw[←hLl]at hXl hxl hyl ⊢
 refine gg12 ?_
 refine uX (qCj (L:=rls M) hE hw hxl oO) O ?_
 rintro _ _⟨fx,rfl,rfl⟩
 simp only[uV,uW]
 refine gg3 ?_
 refine uX (qCj (L:=rls M) hE hw hyl oO) O ?_
 rintro _ _⟨fy,rfl,rfl⟩
 simp only[uV,uW]
 generalize hP:(fun j=>decide (0≤fz (fG (rls M) x) j)&&decide (0≤fz (fG (rls M) y) j))=P at hXe
 have hPj:∀j,P j=(decide (0≤fz (fG (rls M) x) j)&&decide (0≤fz (fG (rls M) y) j)):=fun j=>by rw[←hP]
 clear hP
 generalize fz (fG (rls M) x)=F at hPj ⊢
 generalize fz (fG (rls M) y)=G at hPj ⊢
 generalize hN:(rls M).length=N at hLl hXl hXe ⊢
 refine gg16 ?_
 refine jR (gZ (t:=24) (sz:=1)) ?_
 refine dV (fun k:WsG=>[(13,.slice p (N+1) c),(15,.slice q X.length d),(16,.nilIface),(17,.slice (some ⟨fx,0,none⟩) (N+1) (N+1)),(18,.slice (some ⟨fy,0,none⟩) (N+1) (N+1)),(19,.slice k.q (xY P k.i).length k.d),(20,.int .i64 ((k.i+1:Nat):Int))]) (fun k=>[sl q d 24 1 X.length (idC X),sl (some ⟨fx,0,none⟩) (N+1) 3 1 (N+1) (vzC F (N+1)),sl (some ⟨fy,0,none⟩) (N+1) 3 1 (N+1) (vzC G (N+1)),sl k.q k.d 24 1 (xY P k.i).length (idC (xY P k.i)),R]) (fun k=>N-k.i) (fun k=>k.i≤N) ⟨0,none,0⟩ (Nat.zero_le _) ⟨O,O,O,O,O,O,O,trivial⟩ uI ?_
 rintro⟨i,q3,d3⟩hi
 simp only at hi ⊢
 have hwl:=qJo P i
 refine gg9 ?_
 refine bE O (fun h3=>?_) (fun h3=>?_)
 ·have f0:=yL F (n:=N+1) (k:=i+1) oO (((i+1:Nat):Int).toNat) oO
  have f1:=yL G (n:=N+1) (k:=i+1) oO (((i+1:Nat):Int).toNat) oO
  have hws:=qPy P i
  rw[hPj]at hws
  refine gg12 ?_
  refine dS 94 O (fun h4=>?_) (fun h4=>?_)
  ·refine gg13 ?_
   refine bE O (fun h5=>?_) (fun h5=>?_)
   ·rw[decide_eq_true h4,decide_eq_true h5,Bool.and_self,if_pos rfl]at hws
    refine gg3 ?_
    refine uU ?_
    refine aU (hE.t O) (hE.t O) O O O (fun b103=>?_)
    refine uU ?_
    apply bU (hE.t O) (hE.t O) O O O
    ·exact uK
    ·exact uK
    ·rfl
    ·rfl
    ·omega
    ·omega
    ·(unfold maxLen;omega)
    intro g104 c104 n104 x104 hn104 hx104
    refine gg9 ?_
    obtain rfl:x104=idC (xY P (i+1)):=by rw[hx104,hws,iK];rfl
    obtain rfl:n104=(xY P (i+1)).length:=by rw[hws,List.length_append];simp;omega
    refine bS (ι:=WsG) (j:=⟨i+1,some ⟨g104,0,none⟩,c104⟩) (by simp only;omega) (by simp only;omega) ⟨O,O,O,O,O,O,congrArg some (bW (by simp only;omega)),trivial⟩ uI
   rw[decide_eq_true h4,decide_eq_false h5,Bool.and_false,if_neg (by simp),List.append_nil]at hws
   refine gg8 ?_
   rw[←hws]
   refine bS (ι:=WsG) (j:=⟨i+1,q3,d3⟩) (by simp only;omega) (by simp only;omega) ⟨O,O,O,O,O,O,congrArg some (bW (by simp only;omega)),trivial⟩ uI
  rw[decide_eq_false h4,Bool.false_and,if_neg (by simp),List.append_nil]at hws
  refine gg17 ?_
  rw[←hws]
  refine bS (ι:=WsG) (j:=⟨i+1,q3,d3⟩) (by simp only;omega) (by simp only;omega) ⟨O,O,O,O,O,O,congrArg some (bW (by simp only;omega)),trivial⟩ uI
 obtain rfl:i=N:=by omega
 rw[hXe]
 refine gg15 ?_
 refine uX (ct_IDs (A:=X) hE oO) O ?_
 rintro _ _⟨rfl,rfl⟩
 simp only[uV,uW]
 refine gg5 ?_
 exact uZ O (.tmp O .nil) ⟨O,O⟩
end
section
open Go Go.ChangeShapes Go.WideShapes Go.ChangeAt Go.WideMaps Go.WideElems Go.RowKit Go.ChangeMaps Sl Eg
theorem word_nat {z:Int}(h:(Lit.int .u32 z).wf=true):∃n:Nat,z=(n:Int)∧n<4294967296:=by
 have hh:0≤z∧z<4294967296:=by
  simp only[Lit.wf,Bool.and_eq_true,decide_eq_true_eq]at h
  have h1:(IntKind.u32.min:Int)=0:=by rfl
  have h2:(IntKind.u32.max:Int)=4294967295:=by rfl
  omega
 exact⟨z.toNat,oO,oO⟩
end
end Go.Proofs.YtblljbllmnbiaaaGreatDoor
