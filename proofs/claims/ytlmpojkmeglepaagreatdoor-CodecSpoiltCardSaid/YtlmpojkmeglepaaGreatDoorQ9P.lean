import Derived.Test.YtlmpojkmeglepaaGreatDoorQ74
set_option linter.all false
set_option maxHeartbeats 1000000
namespace Go.Proofs.YtlmpojkmeglepaaGreatDoor
open Go Go.RowKit Sl Eg
set_option maxRecDepth 10000
section
def Apk (L:List Rl)(a b k:Nat):Prop:=∀u v,(expd L (k-1) a).getLast?=some u→(expd L (k-1) b).head?=some v→u≠v∧k≤aft L u v∧(aft L u v=k→num k=122∧(te L (Eg.key L u) (expd L (k-1) a)).1=false)
def Ap (L:List Rl)(a b:Nat):Prop:=∀k:Nat,1≤k→(k:Int)≤max (lvl L a) (lvl L b)→Apk L a b k
theorem qIp {L:List Rl}{c:Nat}{r o:List Nat}(h:Pg L c r o)(e:o=[]):r=[]:=by
 cases r with
 |nil=>rfl
 |cons z r=>exact absurd e h.nonempty
theorem even_tie {L:List Rl}(hw:Wf L){X X':List Nat}(h:Pg L 122 X X'):∀{u:Nat},X.getLast?=some u→(te L (Eg.key L u) X).1=false→¬X'.getLast?=some u:=by
 have hf:∀x y,eO 122 x y↔x=y:=fun x y=>by unfold eO;rw[if_pos rfl]
 induction h with
 |nil=>intro u hu;simp at hu
 | @one x r o h1 h2 ih=>
  intro u hu ht hl
  rcases pJ x r with⟨rfl,e⟩|⟨b,e1,e2⟩
  ·rw[e]at hu
   cases hu
   simp[te]at ht
  rw[e2]at hu
  cases hu
  have hr:(te L (Eg.key L u) r).1=false:=by
   simp only[te]at ht
   by_cases hA:(te L (Eg.key L u) r).2=true
   ·rw[if_pos hA]at ht
    have hne:¬Eg.key L x=Eg.key L u:=fun e=>by
     cases r with
     |nil=>simp at e1
     |cons y r=>exact h1 y rfl ((hf _ _).2 (e.trans (qGm hA y (by simp)).symm))
    rw[if_neg hne]at ht
    exact ht
   rw[if_neg hA]at ht;exact ht
  rcases pJ x o with⟨e3,_⟩|⟨b,q1,q2⟩
  ·rw[qIp h2 e3]at e1
   simp at e1
  rw[q2]at hl
  cases hl
  exact ih e1 hr q1
 | @two x y j r o h1 h2 h3 ih=>
  intro u hu ht hl
  have hxy:=(hf _ _).1 h1
  rcases pJ y r with⟨rfl,e⟩|⟨b,e1,e2⟩
  ·cases h3
   have:=hw.ok _ _ h2
   rw[List.getLast?_cons_cons,e]at hu
   cases hu
   simp at hl
   obtain⟨_,_,_,h4⟩:=this
   omega
  rw[List.getLast?_cons_cons,e2]at hu
  cases hu
  have hr:(te L (Eg.key L u) r).1=false:=by
   have e:x::y::r=[x,y]++r:=rfl
   rw[e,qJk]at ht
   by_cases hA:(te L (Eg.key L u) r).2=true
   ·rw[if_pos hA]at ht
    have e2:(te L (Eg.key L u) [x,y]).1=false:=by by_cases e:Eg.key L y=Eg.key L u<;>simp[te,hxy,e]
    simp only[e2,Bool.false_xor]at ht
    exact ht
   rw[if_neg hA]at ht;exact ht
  rcases pJ (j+1) o with⟨e3,_⟩|⟨b,q1,q2⟩
  ·rw[qIp h3 e3]at e1
   simp at e1
  rw[q2]at hl
  cases hl
  exact ih e1 hr q1
theorem Sig.tie_merged {L:List Rl}(hw:Wf L){a k u:Nat}(hs:Sig L a)(h1:1≤k)(hk:num k=122)(hev:k%2=0)(hu:(expd L (k-1) a).getLast?=some u)(ht:(te L (Eg.key L u) (expd L (k-1) a)).1=false):¬(expd L k a).getLast?=some u:=by
 have hq:=hs.step k h1
 unfold Sq at hq
 rw[if_neg oO,hk]at hq
 exact even_tie hw hq hu ht
theorem Inv.join {L:List Rl}{lv:Nat}{A B:List Nat}(ha:Inv L lv A)(hb:Inv L lv B)(h:∀u v,A.getLast?=some u→B.head?=some v→(u=v→lv%2=1∧lvl L u=lv-1)∧(u≠v→lv≤aft L u v)):Inv L lv (A++B):=by
 have hg:∀{i x y:Nat},(A++B)[i]?=some x→(A++B)[i+1]?=some y→(A[i]?=some x∧A[i+1]?=some y)∨(A.getLast?=some x∧B.head?=some y)∨∃j,B[j]?=some x∧B[j+1]?=some y:=fun{i x y}h1 h2=>by
  rcases Nat.lt_or_ge (i+1) A.length with hlt|hge
  ·rw[List.getElem?_append_left oO]at h1
   rw[List.getElem?_append_left hlt]at h2
   exact .inl ⟨h1,h2⟩
  rcases Nat.lt_or_ge i A.length with hlt|hge2
  ·rw[List.getElem?_append_left hlt]at h1
   rw[List.getElem?_append_right hge]at h2
   refine .inr (.inl ⟨by rw[List.getLast?_eq_getElem?,show A.length-1=i by omega];exact h1,?_⟩)
   rw[List.head?_eq_getElem?,←h2]
   congr 1
   omega
  rw[List.getElem?_append_right hge2]at h1
  rw[List.getElem?_append_right oO]at h2
  exact .inr (.inr ⟨i-A.length,h1,by rw[←h2];congr 1;omega⟩)
 refine⟨ha.wf,fun x hx=>?_,fun i x h1 h2=>?_,fun i x y h1 h2 h3=>?_⟩
 ·rcases List.mem_append.1 hx with h| h
  ·exact ha.ok x h
  exact hb.ok x h
 ·rcases hg h1 h2 with⟨g1,g2⟩|⟨g1,g2⟩|⟨j,g1,g2⟩
  ·exact ha.same i x g1 g2
  ·exact(h x x g1 g2).1 O
  exact hb.same j x g1 g2
 rcases hg h1 h2 with⟨g1,g2⟩|⟨g1,g2⟩|⟨j,g1,g2⟩
 ·exact ha.diff i x y g1 g2 h3
 ·exact(h x y g1 g2).2 h3
 exact hb.diff j x y g1 g2 h3
theorem zT {L:List Rl}(hw:Wf L){u v k:Nat}(h1:lvl L u<(k:Int))(h2:lvl L v<(k:Int))(h3:1≤k)(hev:k%2=0)(hf:eO (num k) (Eg.key L u) (Eg.key L v)):aft L u v≤k:=by
 unfold aft
 exact(nA (gQ hw u) (gQ hw v)).2 k oO hev hf
theorem Ap.nb {L:List Rl}(hw:Wf L){a b:Nat}(sa:Sig L a)(sb:Sig L b)(h:Ap L a b):Nb L a b:=fun k hk hl=>by
 have hp:=h k hk hl
 have ia:=sa.inv k hk
 have ib:=sb.inv k hk
 refine⟨fun u v hu hv=>?_,ia.join ib fun u v hu hv=>?_⟩
 ·obtain⟨p1,p2,p3⟩:=hp u v hu hv
  split
  ·exact p1
  rename_i ho
  intro hlast hf
  have ou:=ia.ok u (List.mem_of_getLast? hu)
  have ov:=ib.ok v (List.mem_of_head? hv)
  have:=zT hw oO oO hk oO hf
  obtain⟨q1,q2⟩:=p3 oO
  exact sa.tie_merged hw hk q1 oO hu q2 hlast
 obtain⟨p1,p2,p3⟩:=hp u v hu hv
 exact⟨fun e=>absurd e p1,fun _=>p2⟩
theorem Sq.two_same {L:List Rl}{k a b:Nat}(hab:a≠b)(h:k%2=0→¬eO (num k) (Eg.key L a) (Eg.key L b)):Sq L k [a,b] [a,b]:=by
 have hj:[a,b]=[a]++[b]:=rfl
 rw[hj]
 refine(Sq.one L k a).join (Sq.one L k b) fun u v hu hv=>?_
 simp at hu hv
 subst hu hv
 split
 ·exact hab
 exact fun _=>h oO
theorem Inv.two {L:List Rl}{k a b:Nat}(ia:Inv L k [a])(ib:Inv L k [b])(hab:a≠b)(h:k≤aft L a b):Inv L k [a,b]:=by
 have hj:[a,b]=[a]++[b]:=rfl
 rw[hj]
 refine ia.join ib fun u v hu hv=>?_
 simp at hu hv
 subst hu hv
 exact⟨fun e=>absurd e hab,fun _=>h⟩
theorem sig_pair {L:List Rl}(hw:Wf L){i a b:Nat}(hr:L[i]?=some (.pair a b))(h0:0≤lvl L (i+1))(sa:Sig L a)(sb:Sig L b)(hn:Nb L a b):Sig L (i+1):=by
 have hk:=hw.ok _ _ hr
 have hi:=(List.getElem?_eq_some_iff.1 hr).1
 obtain⟨g1,g2,g3,g4,g5⟩:=kR hw (x:=i+1) oO hr h0
 have gp:=(jM hr hk).2
 have hla:=sa.lv
 have hlb:=sb.lv
 rw[if_pos ⟨g2,hla,hlb⟩]at gp
 have ga:lvl L (i+1)=(aft L a b:Nat):=gp
 generalize hA:aft L a b=A at ga
 have key:∀k,1≤k→Inv L k (expd L (k-1) (i+1))∧Sq L k (expd L (k-1) (i+1)) (expd L k (i+1)):=fun k hk1=>by
  rcases Nat.lt_or_ge A k with hlt|hge
  ·rw[dZ oO oO,dZ oO oO]
   exact⟨.one hw oO oO h0 oO,.one L k _⟩
  rw[fK hw hr (l:=k-1) oO]
  by_cases hm:(k:Int)≤max (lvl L a) (lvl L b)
  ·rw[fK hw hr (l:=k) oO]
   obtain⟨n1,n2⟩:=hn k hk1 hm
   exact⟨n2,(sa.step k hk1).join (sb.step k hk1) n1⟩
  have ha1:lvl L a≤((k-1:Nat):Int):=oO
  have hb1:lvl L b≤((k-1:Nat):Int):=oO
  rw[dZ sa.pos ha1,dZ sb.pos hb1]
  have ia:Inv L k [a]:= .one hw sa.pos sa.le hla oO
  have ib:Inv L k [b]:= .one hw sb.pos sb.le hlb oO
  have i2:=ia.two ib g2 oO
  refine⟨i2,?_⟩
  rcases Nat.lt_or_ge k A with hkA|hkA
  ·rw[fK hw hr (l:=k) oO,dZ sa.pos oO,dZ sb.pos oO]
   exact .two_same g2 fun hev hf=>by
    have:=zT hw (u:=a) (v:=b) (k:=k) oO oO hk1 hev hf
    omega
  obtain rfl:k=A:=by omega
  rw[dZ oO oO]
  unfold Sq
  rw[if_neg oO]
  exact .two (g5 k ga) hr .nil
 exact⟨oO,oO,h0,fun k hk=>(key k hk).1,fun k hk=>(key k hk).2⟩
theorem qFr {α:Type}(A:List α):∀s:Nat,1≤s→(List.replicate s A).flatten.getLast?=A.getLast?∧(List.replicate s A).flatten.head?=A.head?
 |0,h=>by omega
 |1,_=>by simp
 |s+2,_=>by
  obtain⟨h1,h2⟩:=qFr A (s+1) oO
  rw[List.replicate_succ,List.flatten_cons]
  cases A with
  |nil=>simp
  |cons x A=>
   refine⟨?_,O⟩
   rw[List.getLast?_append,h1]
   rw[List.getLast?_eq_some_getLast (l:=x::A) (by simp)]
   rfl
theorem Inv.repl {L:List Rl}{lv:Nat}{A:List Nat}(ha:Inv L lv A)(h:∀u v,A.getLast?=some u→A.head?=some v→(u=v→lv%2=1∧lvl L u=lv-1)∧(u≠v→lv≤aft L u v)):∀s:Nat,1≤s→Inv L lv (List.replicate s A).flatten
 |0,hs=>by omega
 |1,_=>by simpa using ha
 |s+2,_=>by
  rw[List.replicate_succ,List.flatten_cons]
  refine ha.join (Inv.repl ha h (s+1) oO) fun u v hu hv=>h u v hu ?_
  rwa [(qFr A (s+1) oO).2]at hv
theorem Sq.repl {L:List Rl}{lv:Nat}{A B:List Nat}(ha:Sq L lv A B)(h:Bdry L lv A B A):∀s:Nat,1≤s→Sq L lv (List.replicate s A).flatten (List.replicate s B).flatten
 |0,hs=>by omega
 |1,_=>by simpa using ha
 |s+2,_=>by
  rw[List.replicate_succ,List.flatten_cons,List.replicate_succ (a:=B),List.flatten_cons]
  refine ha.join (Sq.repl ha h (s+1) oO) fun u v hu hv=>h u v hu ?_
  rwa [(qFr A (s+1) oO).2]at hv
theorem qEz {α:Type}(x:α):∀s:Nat,(List.replicate s [x]).flatten=List.replicate s x
 |0=>rfl
 |s+1=>by rw[List.replicate_succ,List.flatten_cons,qEz x s];rfl
theorem qTn {L:List Rl}(hw:Wf L){i y t:Nat}(hr:L[i]?=some (.power y t))(h0:0≤lvl L (i+1))(sy:Sig L y)(hn:Nb L y y):Sig L (i+1):=by
 have hk:=hw.ok _ _ hr
 have hi:=(List.getElem?_eq_some_iff.1 hr).1
 obtain⟨g1,g2⟩:=mM hw (x:=i+1) oO hr h0
 have ht:2≤t:=by simp only[Rl.ok]at hk;omega
 have hly:=sy.lv
 have key:∀k,1≤k→Inv L k (expd L (k-1) (i+1))∧Sq L k (expd L (k-1) (i+1)) (expd L k (i+1)):=fun k hk1=>by
  rcases Int.lt_or_le (lvl L (i+1)) (k:Int)with hlt|hge
  ·rw[dZ oO oO,dZ oO oO]
   exact⟨.one hw oO oO h0 oO,.one L k _⟩
  rw[fO hw hr (l:=k-1) oO]
  by_cases hm:(k:Int)≤lvl L y
  ·rw[fO hw hr (l:=k) oO]
   obtain⟨n1,n2⟩:=hn k hk1 oO
   refine⟨(sy.inv k hk1).repl (fun u v hu hv=>?_) t oO,(sy.step k hk1).repl n1 t oO⟩
   obtain⟨C,eC⟩:=List.getLast?_eq_some_iff.1 hu
   obtain⟨D,eD⟩:∃D,expd L (k-1) y=v::D:=by
    cases e:expd L (k-1) y with
    |nil=>rw[e]at hv;cases hv
    |cons z D=>rw[e]at hv;cases hv;exact⟨D,rfl⟩
   have e1:(expd L (k-1) y++expd L (k-1) y)[C.length]?=some u:=by
    rw[List.getElem?_append_left (by rw[eC];simp),eC,List.getElem?_append_right (Nat.le_refl _),Nat.sub_self];rfl
   have e2:(expd L (k-1) y++expd L (k-1) y)[C.length+1]?=some v:=by
    have hl:(expd L (k-1) y).length=C.length+1:=by rw[eC];simp
    rw[List.getElem?_append_right oO,hl,Nat.sub_self,eD];rfl
   exact⟨fun e=>by subst e;exact n2.same _ _ e1 e2,fun e=>n2.diff _ _ _ e1 e2 e⟩
  have hy1:lvl L y≤((k-1:Nat):Int):=oO
  have hkk:(k:Int)=lvl L y+1:=oO
  rw[dZ sy.pos hy1,qEz,dZ oO oO]
  have iy:Inv L k [y]:= .one hw sy.pos sy.le hly oO
  refine⟨?_,?_⟩
  ·have:=iy.repl (fun u v hu hv=>by
    simp at hu hv
    subst hu hv
    exact⟨fun _=>⟨oO,oO⟩,fun e=>absurd O e⟩) t oO
   rwa [qEz]at this
  unfold Sq
  rw[if_pos oO]
  have:=Rg.run (L:=L) (x:=y) (t:=t) (id:=i+1) (r:=[]) (o:=[]) oO (.inr ⟨ht,i,rfl,hr⟩) (by simp) .nil
  rwa [List.append_nil]at this
 exact⟨oO,oO,h0,fun k hk=>(key k hk).1,fun k hk=>(key k hk).2⟩
end
section
variable {E:Env}{G:List Rl}
def ApdJ (G:List Rl)(k left right:Nat)(x:ApdG):Prop:=(1≤x.a∧x.a≤k)∧(1≤x.b∧x.b≤k)∧(x.h:Int)=max (lvl G x.a) (lvl G x.b)∧(expd G x.h left).getLast?=some x.a∧(expd G x.h right).head?=some x.b∧∀q:Nat,x.h<q→(q:Int)≤max (lvl G left) (lvl G right)→Apk G left right q
theorem apd_next (hw:Wf G){left right u v h low:Nat}(hs:Sig G left)(hul:(expd G (h-1) left).getLast?=some u)(hvl:(expd G (h-1) right).head?=some v)(hlu:lvl G u≤(low:Nat))(hlv:lvl G v≤(low:Nat))(hlow:low<h)(hL:left≤G.length)(hR:right≤G.length)(hu:1≤u∧u≤G.length)(hv:1≤v∧v≤G.length)(hne:u≠v)(hgt:low<aft G u v)(hev:aft G u v%2=0)
  (hc:h<aft G u v∨(num (aft G u v)=122∧(te G (key G u) (expd G (aft G u v-1) left)).1=false∧aft G u v≤h)) (q:Nat) (h1:low<q) (h2:q≤h):Apk G left right q:=fun u' v' hu' hv'=>by
 have lu:∀j,low≤j→j≤h-1→(expd G j left).getLast?=some u:=fun j j1 j2=>(nU hw (l:=j) (m:=h-1) (A:=left) hL j2 hul hu).2 oO
 have hv2:=(nT hw (l:=q-1) (m:=h-1) (A:=right) hR oO hvl hv).2 oO
 rw[lu (q-1) oO oO]at hu'
 rw[hv2]at hv'
 cases hu'
 cases hv'
 refine⟨hne,?_,?_⟩
 ·rcases hc with h|⟨c1,c2,c3⟩
  ·omega
  apply Classical.byContradiction
  intro hn
  exact hs.tie_merged hw (k:=aft G u v) oO c1 hev (lu _ oO oO) c2 (lu _ oO oO)
 rcases hc with h|⟨c1,c2,c3⟩
 ·intro e;omega
 intro e
 rw[←e]
 exact⟨c1,c2⟩
theorem qCt (hE:Seat E)(hB:Base E.w0)(hw:Wf G)(hGl:G.length≤100000){k left right pb g1 c1 g2 c2 g3 c3:Nat}(hkG:k≤G.length)(hlk:∀j,1≤j→j≤k→0≤lvl G j∧lvl G j≤1048576) (hL:1≤left∧left≤k) (hR:1≤right∧right≤k) (hs:Sig G left):
  Ct E 91 [uPt pb,.int .i64 (left:Nat),.int .i64 (right:Nat)] [cells pb [.slice (some ⟨g1,0,none⟩) (G.length+1) c1,.slice (some ⟨g2,0,none⟩) (G.length+1) c2,.slice (some ⟨g3,0,none⟩) (G.length+1) c3] 151,sl (some ⟨g1,0,none⟩) c1 86 5 (G.length+1) (ruC G),sl (some ⟨g2,0,none⟩) c2 3 1 (G.length+1) (lvC G k),sl (some ⟨g3,0,none⟩) c3 70 1 (G.length+1) (kzC G k)] (fun v Q=>∃b,v= .bool b∧(b=true→Ap G left right)∧Q=[cells pb [.slice (some ⟨g1,0,none⟩) (G.length+1) c1,.slice (some ⟨g2,0,none⟩) (G.length+1) c2,.slice (some ⟨g3,0,none⟩) (G.length+1) c3] 151,sl (some ⟨g1,0,none⟩) c1 86 5 (G.length+1) (ruC G),sl (some ⟨g2,0,none⟩) c2 3 1 (G.length+1) (lvC G k),sl (some ⟨g3,0,none⟩) c3 70 1 (G.length+1) (kzC G k)]):=by
 have lvat:∀j,1≤j→j≤k→(lvC G k)[((j:Nat):Int).toNat]?=some (.int .i64 (lvl G j)):=fun j h1 h2=>tH oO h2 _ oO
 have kyat:∀j,1≤j→j≤k→(kzC G k)[((j:Nat):Int).toNat]?=some (.int .u64 (key G j:Nat)):=fun j h1 h2=>tH oO h2 _ oO
 have hfld:∀gs g,E.P.underlying 228=some (.struct gs)→gs[0]?=some g→g.type=4:=fun gs g h1 h2=>by
  have h3:(match E.P.underlying 228 with |some (.struct gs)=>gs[0]?.map (·.type)|_=>none)=some 4:=by rw[hE.P];kernel_rfl
  rw[h1]at h3
  simp only[h2,Option.map_some]at h3
  exact Option.some.inj h3
 have hlkL:=hlk left hL.1 hL.2
 have hlkR:=hlk right hR.1 hR.2
 have f0:=lvat left hL.1 hL.2
 have f1:=lvat right hR.1 hR.2
 obtain⟨h0,hh0⟩:=qFi (y:=lvl G right) hlkL.1
 have hle1:lvl G left≤(h0:Nat):=by rw[hh0];exact Int.le_max_left _ _
 have hle2:lvl G right≤(h0:Nat):=by rw[hh0];exact Int.le_max_right _ _
 refine bO (hE.fn Tryz.func91) O O O (fun R=>?_)
 simp only[dU,uV,uW]
 refine gg14 ?_
 refine uH ([cells pb [.slice (some ⟨g1,0,none⟩) (G.length+1) c1,.slice (some ⟨g2,0,none⟩) (G.length+1) c2,.slice (some ⟨g3,0,none⟩) (G.length+1) c3] 151,sl (some ⟨g2,0,none⟩) c2 3 1 (G.length+1) (lvC G k)]) ?_
 refine gg20 ?_
 refine eZ (fun x:ApdG=>[(0,uPt pb),(1,.int .i64 (left:Nat)),(7,.int .i64 (x.a:Nat)),(8,.int .i64 (x.b:Nat)),(9,.int .i64 (x.h:Nat))]) (fun x=>[cells pb [.slice (some ⟨g1,0,none⟩) (G.length+1) c1,.slice (some ⟨g2,0,none⟩) (G.length+1) c2,.slice (some ⟨g3,0,none⟩) (G.length+1) c3] 151,sl (some ⟨g1,0,none⟩) c1 86 5 (G.length+1) (ruC G),sl (some ⟨g2,0,none⟩) c2 3 1 (G.length+1) (lvC G k),sl (some ⟨g3,0,none⟩) c3 70 1 (G.length+1) (kzC G k),R]) (fun x=>x.h) (ApdJ G k left right) ⟨left,right,h0⟩ ⟨hL,hR,hh0,by simp only;rw[dZ hL.1 hle1];rfl,by simp only;rw[dZ hR.1 hle2];rfl,fun q h1 h2=>by simp only at h1;omega⟩ ⟨rfl,rfl,rfl,rfl,congrArg some (bW ((qMq _ _).trans hh0.symm)),trivial⟩ uI ?_
 clear f0 f1 hle1 hle2 hh0 h0
 rintro⟨a,b,h⟩hI
 obtain⟨ha,hb,hh,hla,hhb,hhm⟩:=hI
 simp only at ha hb hh hla hhb hhm ⊢
 have hla1:=hlk a ha.1 ha.2
 have hlb1:=hlk b hb.1 hb.2
 have hle1:lvl G a≤(h:Nat):=by rw[hh];exact Int.le_max_left _ _
 have hle2:lvl G b≤(h:Nat):=by rw[hh];exact Int.le_max_right _ _
 have f0:=lvat a ha.1 ha.2
 have f1:=lvat b hb.1 hb.2
 refine gg7 ?_
 refine bE O (fun h1=>?_) (fun h1=>?_)
 ·have hh1:1≤h:=oO
  obtain⟨na,rfl⟩:∃n,a=n+1:=⟨a-1,oO⟩
  obtain⟨nb,rfl⟩:∃n,b=n+1:=⟨b-1,oO⟩
  obtain⟨ra,hra⟩:∃r,G[na]?=some r:=⟨_,List.getElem?_eq_getElem oO⟩
  obtain⟨rb,hrb⟩:∃r,G[nb]?=some r:=⟨_,List.getElem?_eq_getElem oO⟩
  refine gg3 ?_
  refine nS (fun u:Nat=>[(0,uPt pb),(1,.int .i64 (left:Nat)),(7,.int .i64 (u:Nat)),(8,.int .i64 ((nb+1:Nat):Int)),(9,.int .i64 (h:Nat))]) (fun _=>[cells pb [.slice (some ⟨g1,0,none⟩) (G.length+1) c1,.slice (some ⟨g2,0,none⟩) (G.length+1) c2,.slice (some ⟨g3,0,none⟩) (G.length+1) c3] 151,sl (some ⟨g1,0,none⟩) c1 86 5 (G.length+1) (ruC G),sl (some ⟨g2,0,none⟩) c2 3 1 (G.length+1) (lvC G k),sl (some ⟨g3,0,none⟩) c3 70 1 (G.length+1) (kzC G k),R]) (fun u=>(1≤u∧u≤k)∧(expd G (h-1) left).getLast?=some u∧0≤lvl G u∧lvl G u<(h:Nat)) ?_ ?_
  ·refine gg13 ?_
   refine bE O (fun h2=>?_) (fun h2=>?_)
   ·have hd:=wB hw hra (h:=h) oO hh1
    have hel:=(nU hw (l:=h-1) (m:=h) (A:=left) oO oO hla ⟨ha.1,oO⟩).1
    have hkl:=iE (hw.ok na ra hra) (lN ra) (by
     cases ra with
     |letter b=>have:=hd.2.2.1;simp[lN]at this
     |pair a b=>simp[lN,kids]
     |power a t=>simp[lN,kids])
    refine gg3 ?_
    refine uX (zH hE hra hGl) O ?_
    rintro _ _⟨rfl,rfl⟩
    simp only[uV,uW]
    refine gg2 ?_
    refine fJ (ι:=Nat) (lN ra) ⟨⟨hd.2.2.1,oO⟩,by rw[hel];exact hd.1,hd.2.2.2.2.2.2.1,hd.2.2.2.2.2.2.2.1⟩ ⟨rfl,rfl,rfl,rfl,rfl,trivial⟩ uI
   refine gg1 ?_
   have hel:=(nU hw (l:=h-1) (m:=h) (A:=left) oO oO hla ⟨ha.1,oO⟩).2 oO
   refine fJ (ι:=Nat) (na+1) ⟨ha,hel,hla1.1,oO⟩ ⟨O,O,O,O,O,trivial⟩ uI
  rintro u⟨hu,hul,hu0,huh⟩
  obtain⟨e0,e1,e2,e3,e4⟩:=wV hrb (((nb+1:Nat):Int).toNat*5) oO
  obtain⟨d0,d1,d2,d3,d4⟩:=wV hrb (0+((nb+1:Nat):Int).toNat*5) oO
  refine nS (fun v:Nat=>[(0,uPt pb),(1,.int .i64 (left:Nat)),(7,.int .i64 (u:Nat)),(8,.int .i64 (v:Nat)),(9,.int .i64 (h:Nat))]) (fun _=>[cells pb [.slice (some ⟨g1,0,none⟩) (G.length+1) c1,.slice (some ⟨g2,0,none⟩) (G.length+1) c2,.slice (some ⟨g3,0,none⟩) (G.length+1) c3] 151,sl (some ⟨g1,0,none⟩) c1 86 5 (G.length+1) (ruC G),sl (some ⟨g2,0,none⟩) c2 3 1 (G.length+1) (lvC G k),sl (some ⟨g3,0,none⟩) c3 70 1 (G.length+1) (kzC G k),R]) (fun v=>(1≤v∧v≤k)∧(expd G (h-1) right).head?=some v∧0≤lvl G v∧lvl G v<(h:Nat)) ?_ ?_
  ·refine gg13 ?_
   refine bE O (fun h2=>?_) (fun h2=>?_)
   ·have hd:=wB hw hrb (h:=h) oO hh1
    have hel:=(nT hw (l:=h-1) (m:=h) (A:=right) oO oO hhb ⟨hb.1,oO⟩).1
    have hkl:=iE (hw.ok nb rb hrb) rb.left (by
     cases rb with
     |letter b=>have:=hd.2.2.2.2.1;simp[Rl.left]at this
     |pair a b=>simp[Rl.left,kids]
     |power a t=>simp[Rl.left,kids])
    refine gg11 ?_
    refine fJ (ι:=Nat) rb.left ⟨⟨hd.2.2.2.2.1,oO⟩,by rw[hel];exact hd.2.1,hd.2.2.2.2.2.2.2.2.1,hd.2.2.2.2.2.2.2.2.2⟩ ⟨rfl,rfl,rfl,rfl,rfl,trivial⟩ uI
   refine gg1 ?_
   have hel:=(nT hw (l:=h-1) (m:=h) (A:=right) oO oO hhb ⟨hb.1,oO⟩).2 oO
   refine fJ (ι:=Nat) (nb+1) ⟨hb,hel,hlb1.1,oO⟩ ⟨O,O,O,O,O,trivial⟩ uI
  rintro v⟨hv,hvl,hv0,hvh⟩
  clear e0 e1 e2 e3 e4 d0 d1 d2 d3 d4 f0 f1
  have g0:=lvat u hu.1 hu.2
  have g4:=lvat v hv.1 hv.2
  have g5:=kyat u hu.1 hu.2
  have g6:=kyat v hv.1 hv.2
  have hub:=(hlk u hu.1 hu.2).2
  have hvb:=(hlk v hv.1 hv.2).2
  obtain⟨low,hlow⟩:=qFi (y:=lvl G v) hu0
  have hlw1:lvl G u≤(low:Nat):=by rw[hlow];exact Int.le_max_left _ _
  have hlw2:lvl G v≤(low:Nat):=by rw[hlow];exact Int.le_max_right _ _
  have hlw3:(low:Int)<(h:Nat):=by rw[hlow];exact Int.max_lt.2 ⟨huh,hvh⟩
  have hlw4:low≤1048576:=by
   have:(low:Int)≤1048576:=by rw[hlow];exact Int.max_le.2 ⟨hub,hvb⟩
   omega
  have haft:after low (key G u) (key G v)=aft G u v:=by
   unfold aft
   congr 1
   omega
  have hAb:=qEa (low:=low) (gQ hw u) (gQ hw v)
  have hAe:=pR low (key G u) (key G v)
  rw[haft]at hAb hAe
  have hgt:low<aft G u v:=by
   have:=(sU (low:=low) (gQ hw u) (gQ hw v)).1
   rwa [haft]at this
  have hnext:(h<aft G u v∨(num (aft G u v)=122∧(te G (key G u) (expd G (aft G u v-1) left)).1=false∧aft G u v≤h))→u≠v→ApdJ G k left right ⟨u,v,low⟩:=fun hc hne=>⟨hu,hv,hlow,(nU hw (l:=low) (m:=h-1) (A:=left) oO oO hul ⟨hu.1,oO⟩).2 hlw1,(nT hw (l:=low) (m:=h-1) (A:=right) oO oO hvl ⟨hv.1,oO⟩).2 hlw2,fun q q1 q2=>by
   simp only at q1
   rcases Nat.lt_or_ge h q with hq|hq
   ·exact hhm q hq q2
   exact apd_next hw hs hul hvl hlw1 hlw2 oO oO oO ⟨hu.1,oO⟩ ⟨hv.1,oO⟩ hne hgt hAe hc q q1 hq⟩
  refine gg1 ?_
  refine uH ([cells pb [.slice (some ⟨g1,0,none⟩) (G.length+1) c1,.slice (some ⟨g2,0,none⟩) (G.length+1) c2,.slice (some ⟨g3,0,none⟩) (G.length+1) c3] 151,sl (some ⟨g2,0,none⟩) c2 3 1 (G.length+1) (lvC G k)]) ?_
  refine gg18 ?_
  refine w_eq 10 (.int .i64 (low:Nat)) O (bW ((qMq _ _).trans hlow.symm)) ?_
  refine gg8 ?_
  refine bE O (fun d9=>?_) (fun d9=>?_)
  ·refine gg11 ?_
   exact uZ O (.tmp O .nil) ⟨false,O,(fun h=>by cases h),rfl⟩
  refine gg3 ?_
  refine uH ([cells pb [.slice (some ⟨g1,0,none⟩) (G.length+1) c1,.slice (some ⟨g2,0,none⟩) (G.length+1) c2,.slice (some ⟨g3,0,none⟩) (G.length+1) c3] 151,sl (some ⟨g3,0,none⟩) c3 70 1 (G.length+1) (kzC G k)]) ?_
  refine gg15 ?_
  apply dH 15 O oK O
  refine uC (qLt hE hB hlw4 (gQ hw u) (gQ hw v)) O ?_
  rintro _ _⟨rfl,rfl⟩
  simp only[uV,uW]
  rw[haft]
  refine uE ?_
  refine gg9 ?_
  refine dY 100 O (fun d8=>?_) (fun d8=>?_)
  ·refine gg9 ?_
   refine bE O (fun d7=>?_) (fun d7=>?_)
   ·refine gg3 ?_
    by_cases hl122:lnum (aft G u v)=122
    ·refine uX (mW (l:=aft G u v) hE oO hAe oO hl122) O ?_
     rintro _ _⟨rfl,rfl⟩
     simp only[uV,uW]
     refine gg24 ?_
     refine l_eq 115 (.int .i64 ((aft G u v-1:Nat):Int)) O (bW oO) ?_
     refine gg7 ?_
     refine uU ?_
     refine rZ .i64 (fun b123=>?_)
     refine gg1 ?_
     refine uU (dA (hE.t O) (fun b15=>?_))
     refine gg7 ?_
     refine uX (qQy (K:=key G u) (l:=aft G u v-1) hE hw hGl hkG (fun j h1 h2=>(hlk j h1 h2).1) left hL.1 hL.2 (fun _=>none) (fun x v hx=>by cases hx)) rfl ?_
     rintro _ _⟨rfl,fm,hfm,rfl⟩
     simp only[uV,uW]
     cases hto:(te G (key G u) (expd G (aft G u v-1) left)).1 with
     |false=>
      refine uB (qLn (v:= .bool false) (cs:=[.bool (te G (key G u) (expd G (aft G u v-1) left)).1,.bool (te G (key G u) (expd G (aft G u v-1) left)).2]) O (hE.t O) O hfld (hE.t O) O (congrArg (fun b=>some (Value.bool b)) hto)) ?_
      refine gg10 ?_
      refine bS (ι:=ApdG) (j:=⟨u,v,low⟩) (hnext (.inr ⟨hl122,hto,oO⟩) (fun e=>d9 (by rw[e]))) (by simp only;omega) ⟨O,O,O,O,O,trivial⟩ uI
     |true=>
      refine uB (qLn (v:= .bool true) (cs:=[.bool (te G (key G u) (expd G (aft G u v-1) left)).1,.bool (te G (key G u) (expd G (aft G u v-1) left)).2]) O (hE.t O) O hfld (hE.t O) O (congrArg (fun b=>some (Value.bool b)) hto)) ?_
      refine gg14 ?_
      exact uZ O (.tmp O .nil) ⟨false,O,(fun h=>by cases h),rfl⟩
    refine uX (qE (l:=aft G u v) hE oO hAe oO hl122) O ?_
    rintro _ _⟨rfl,rfl⟩
    simp only[uV,uW]
    refine gg29 ?_
    exact uZ O (.tmp O .nil) ⟨false,O,(fun h=>by cases h),rfl⟩
   refine gg7 ?_
   refine bS (ι:=ApdG) (j:=⟨u,v,low⟩) (hnext (.inl oO) (fun e=>d9 (by rw[e]))) (by simp only;omega) ⟨O,O,O,O,O,trivial⟩ uI
  exact absurd (show ¬((aft G u v:Nat):Int)=0 by omega) d8
 refine gg11 ?_
 apply cB
 ·rfl
 ·(apply Rs.tmp rfl;exact Rs.nil)
 ·refine⟨true,O,fun _ q q1 q2=>?_,O⟩
  have h00:h=0:=oO
  subst h00
  exact hhm q oO q2
 exact uI
end
section
variable {E:Env}
def vacc:List UInt8→Nat
 |[]=>0
 |b::bs=>b.toNat%128+128*vacc bs
theorem pow7 (i:Nat):2^(7*(i+1))=128*2^(7*i):=by rw[Nat.mul_add,Nat.pow_add,Nat.mul_comm]
theorem qJm (bs:List UInt8)(b:UInt8):vacc (bs++[b])=vacc bs+b.toNat%128*2^(7*bs.length):=by
 induction bs with
 |nil=>simp[vacc]
 |cons c bs ih=>
  rw[List.cons_append,vacc,ih,vacc,List.length_cons,pow7,Nat.mul_add,←Nat.add_assoc]
  congr 1
  rw[Nat.mul_left_comm]
theorem qUn (bs:List UInt8):vacc bs<2^(7*bs.length):=by
 induction bs with
 |nil=>simp[vacc]
 |cons c bs ih=>
  rw[vacc,List.length_cons,pow7]
  have:c.toNat%128<128:=Nat.mod_lt _ oO
  omega
theorem vacc_pos (bs:List UInt8){x:UInt8}(h:x.toNat<128)(h0:x.toNat≠0):1≤vacc (bs++[x]):=by
 rw[qJm,Nat.mod_eq_of_lt h]
 have:1*1≤x.toNat*2^(7*bs.length):=Nat.mul_le_mul oO Nat.one_le_two_pow
 omega
theorem qJt {x:UInt8}{n:Nat}(h:n=x.toNat):UInt8.ofNat n=x:=by subst h;simp
theorem qUr:∀(bs:List UInt8){x:UInt8},(∀b∈bs,128≤b.toNat)→x.toNat<128→(x.toNat≠0∨bs=[])→vput (vacc (bs++[x]))=bs++[x]
 |[],x,_,hx,_=>by
  have e:vacc ([]++[x])=x.toNat:=by simp[vacc,Nat.mod_eq_of_lt hx]
  rw[e,gW hx,qJt rfl]
  rfl
 |b::bs,x,hb,hx,h0=>by
  have hx0:x.toNat≠0:=by
   rcases h0 with h| h
   ·exact h
   cases h
  have hp:=vacc_pos bs hx hx0
  have ih:=qUr bs (fun c hc=>hb c (by simp[hc])) hx (.inl hx0)
  have hb1:=hb b (by simp)
  have hb2:=b.toNat_lt
  rw[List.cons_append,vacc]
  have hm:b.toNat%128<128:=Nat.mod_lt _ oO
  rw[kN oO,show(b.toNat%128+128*vacc (bs++[x]))/128=vacc (bs++[x]) by omega,ih]
  congr 1
  exact qJt oO
theorem qUb {Bs:List UInt8}{i:Nat}{b:UInt8}(h:Bs[i]?=some b):Bs.take (i+1)=Bs.take i++[b]:=by rw[List.take_add_one,h];rfl
theorem pW (hE:Seat E){Bs:List UInt8}{a:Option Addr}{c:Nat}{q:HP}(hq:Rdb E.w0 a (byC Bs) q):Ct E 59 [.slice a Bs.length c] [q]
  (fun v Q=>Q=[q]∧((∃n t,n<18446744073709551616∧Bs=vput n++t∧v= .tuple #[.int .u64 (n:Nat),.int .i64 ((vput n).length:Nat),.nilIface])∨v= .tuple #[.int .u64 0,.int .i64 0,.iface 58 (.int .i64 4)])):=by
 refine bO (hE.fn Tryz.func59) O O O (fun R=>?_)
 simp only[dU,uV,uW]
 refine gg16 ?_
 refine eZ (fun i:Nat=>[(2,.int .u64 (vacc (Bs.take i):Nat)),(7,.slice a Bs.length c),(8,.int .i64 (Bs.length:Nat)),(9,.int .i64 (i:Nat))]) (fun _=>[q,R]) (fun i=>10-i) (fun i=>i≤9∧i≤Bs.length∧∀b∈Bs.take i,128≤b.toNat) 0 ⟨Nat.zero_le _,Nat.zero_le _,by simp⟩ ⟨rfl,rfl,rfl,rfl,trivial⟩ uI ?_
 rintro i⟨hi9,hil,hhi⟩
 have htl:(Bs.take i).length=i:=by rw[List.length_take];omega
 have hlow:=qUn (Bs.take i)
 rw[htl]at hlow
 have hpw:2^(7*i)≤2^63:=Nat.pow_le_pow_right oO oO
 have h63:(2:Nat)^63=9223372036854775808:=rfl
 have hacc:vacc (Bs.take i)<18446744073709551616:=oO
 refine gg6 ?_
 refine bE O (fun h=>?_) (fun h=>?_)
 ·have hBi:i<Bs.length:=oO
  obtain⟨g,o,rfl,hq'⟩:=hq (vS (by intro e;rw[e]at hBi;simp at hBi))
  obtain⟨b,hb⟩:∃b,Bs[i]?=some b:=⟨_,List.getElem?_eq_getElem hBi⟩
  have f0:(byC Bs)[i]?=some (.int .u8 (b.toNat:Nat)):=qEc hb i O
  have f1:(byC Bs)[((i:Nat):Int).toNat]?=some (.int .u8 (b.toNat:Nat)):=by rw[Int.toNat_natCast];exact f0
  have hb1:=b.toNat_lt
  have hts:=qUb hb
  have hvs:=qJm (Bs.take i) b
  rw[←hts,htl]at hvs
  generalize hbv:b.toNat=bv at f0 f1 hb1 hvs
  have hlow2:=qUn (Bs.take (i+1))
  have htl2:(Bs.take (i+1)).length=i+1:=by rw[List.length_take];omega
  rw[htl2]at hlow2
  refine gg13 ?_
  refine nS (fun _:Unit=>[(2,.int .u64 (vacc (Bs.take i):Nat)),(5,.int .i64 (i:Nat)),(6,.int .u8 (bv:Nat)),(7,.slice (some ⟨g,o,none⟩) Bs.length c),(8,.int .i64 (Bs.length:Nat)),(9,.int .i64 (i:Nat))]) (fun _=>[q,R]) (fun _=>i=9→bv≤1) ?_ ?_
  ·refine gg5 ?_
   refine dY 16 O (fun h9=>?_) (fun h9=>?_)
   ·refine gg7 ?_
    refine bE O (fun h2=>?_) (fun h2=>?_)
    ·refine gg15 ?_
     exact uZ O (.tmp O (.tmp O (.tmp O .nil))) ⟨O,.inr O⟩
    refine gg1 ?_
    refine fJ (ι:=Unit) () (fun _=>by omega) ⟨rfl,rfl,rfl,rfl,rfl,rfl,trivial⟩ ?_
    exact uI
   refine gg7 ?_
   refine fJ (ι:=Unit) () (fun e=>absurd (show((i:Nat):Int)=9 by omega) h9) ⟨rfl,rfl,rfl,rfl,rfl,rfl,trivial⟩ ?_
   exact uI
  rintro⟨⟩hmid
  have hnx:vacc (Bs.take (i+1))<18446744073709551616:=by
   rcases Nat.lt_or_ge i 9 with h| h
   ·have:2^(7*(i+1))≤2^63:=Nat.pow_le_pow_right oO oO
    omega
   obtain rfl:i=9:=by omega
   have:=hmid rfl
   have e2:(2:Nat)^(7*9)=9223372036854775808:=rfl
   rw[hvs,Nat.mod_eq_of_lt (show bv<128 by omega),e2]
   rw[e2]at hlow
   omega
  have hdm:bv%128*2^(7*i)<18446744073709551616:=oO
  refine gg4 ?_
  refine uB (qNx hb1 O O) ?_
  refine gg3 ?_
  refine l_eq 26 (.int .i64 ((7*i:Nat):Int)) O (bW oO) ?_
  refine uB (y_shl O O oO hdm) ?_
  refine uB (y_or64 O O hacc hdm) ?_
  refine l_eq 28 (.int .u64 (vacc (Bs.take (i+1)):Nat)) O (by rw[or_sum hlow,hvs]) ?_
  refine gg9 ?_
  refine bE O (fun h3=>?_) (fun h3=>?_)
  ·have hbs:bv<128:=oO
   have hok:(bv≠0∨Bs.take i=[])→∃n t,n<18446744073709551616∧Bs=vput n++t∧Value.tuple #[.int .u64 (vacc (Bs.take (i+1)):Nat),.int .i64 ((i:Nat)+1:Int),.nilIface]= .tuple #[.int .u64 (n:Nat),.int .i64 ((vput n).length:Nat),.nilIface]:=fun h0=>by
    have e:=qUr (Bs.take i) (x:=b) hhi (by rw[hbv];exact hbs) (by rw[hbv];exact h0)
    rw[←hts]at e
    refine⟨vacc (Bs.take (i+1)),Bs.drop (i+1),hnx,by rw[e,List.take_append_drop],?_⟩
    rw[e,htl2]
    rfl
   refine gg6 ?_
   refine dY 33 O (fun z=>?_) (fun z=>?_)
   ·refine gg7 ?_
    refine bE O (fun z2=>?_) (fun z2=>?_)
    ·refine gg15 ?_
     exact uZ O (.tmp O (.tmp O (.tmp O .nil))) ⟨O,.inr O⟩
    have hi0:i=0:=oO
    refine gg18 ?_
    exact uZ O (.tmp O (.tmp O (.tmp O .nil))) ⟨O,.inl (hok (.inr (by rw[hi0];rfl)))⟩
   refine gg24 ?_
   exact uZ O (.tmp O (.tmp O (.tmp O .nil))) ⟨O,.inl (hok (.inl (fun e=>z oO)))⟩
  have hi8:i≤8:=by
   apply Classical.byContradiction
   intro hn
   have:=hmid oO
   omega
  refine gg7 ?_
  refine bS (ι:=Nat) (j:=i+1) ⟨oO,oO,fun x hx=>?_⟩ oO ⟨O,O,O,congrArg some (bW oO),trivial⟩ uI
  rw[hts]at hx
  rcases List.mem_append.1 hx with hx|hx
  ·exact hhi x hx
  rw[List.mem_singleton.1 hx,hbv];omega
 refine gg14 ?_
 exact uZ O (.tmp O (.tmp O (.tmp O .nil))) ⟨O,.inr O⟩
end
section
variable {E:Env}
theorem qRi (hE:Seat E){b0:UInt8}{t Bs:List UInt8}(hBs:Bs=b0::t){a:Option Addr}{c:Nat}{q:HP}(hq:Rdb E.w0 a (byC Bs) q)(hc:Bs.length≤c)(hcl:Bs.length≤1099511627776):Ct E 88 [.slice a Bs.length c] [q]
  (fun v Q=>Q=[q]∧((∃(x y:Nat)(t':List UInt8),x<9223372036854775808∧y<9223372036854775808∧Bs=b0::(vput x++(vput y++t'))∧v= .tuple #[.int .i64 (x:Nat),.int .i64 (y:Nat),.int .i64 ((1+(vput x).length+(vput y).length:Nat):Int),.bool true])∨v= .tuple #[.int .i64 0,.int .i64 0,.int .i64 0,.bool false])):=by
 have hB1:Bs.length=1+t.length:=by rw[hBs,List.length_cons];omega
 have hd1:Bs.drop 1=t:=by rw[hBs];rfl
 refine bO (hE.fn Tryz.func88) O O O (fun R=>?_)
 simp only[dU,uV,uW]
 refine gg11 ?_
 refine uB (jJ (l:=1) (h:=Bs.length) O (hE.t O) ⟨_,O⟩ O oO oO) ?_
 refine l_eq 12 (.slice (vwA a c (1)) (Bs.drop 1).length (c-(1))) O (congrArg (fun z=>Value.slice _ z _) (by rw[List.length_drop])) ?_
 refine uX (pW hE (jO (k:=1) hq hc)) O ?_
 rintro _ _⟨rfl,⟨x,t1,hx,e1,rfl⟩|rfl⟩
 rotate_left
 ·simp only[uV,uW]
  refine gg31 ?_
  exact uZ O (.tmp O (.tmp O (.tmp O (.tmp O .nil)))) ⟨O,.inr O⟩
 simp only[uV,uW]
 have hx1:=fC hx
 have hl1:Bs.length=1+(vput x).length+t1.length:=by
  have:=congrArg List.length e1
  rw[hd1,List.length_append]at this
  omega
 have d2:Bs.drop (1+(vput x).length)=t1:=by rw[←List.drop_drop,e1];simp
 refine gg22 ?_
 refine bE O (fun g1=>?_) (fun g1=>?_)
 ·refine gg10 ?_
  exact uZ O (.tmp O (.tmp O (.tmp O (.tmp O .nil)))) ⟨O,.inr O⟩
 refine gg6 ?_
 refine l_eq 24 (.int .i64 ((1+(vput x).length:Nat):Int)) O (bW oO) ?_
 refine gg7 ?_
 refine uB (jJ (l:=1+(vput x).length) (h:=Bs.length) O (hE.t O) ⟨_,O⟩ O oO oO) ?_
 refine l_eq 28 (.slice (vwA a c (1+(vput x).length)) (Bs.drop (1+(vput x).length)).length (c-(1+(vput x).length))) O (congrArg (fun z=>Value.slice _ z _) (by rw[List.length_drop])) ?_
 refine uX (pW hE (jO (k:=1+(vput x).length) hq hc)) O ?_
 rintro _ _⟨rfl,⟨y,t2,hy,e2,rfl⟩|rfl⟩
 rotate_left
 ·simp only[uV,uW]
  refine gg31 ?_
  exact uZ O (.tmp O (.tmp O (.tmp O (.tmp O .nil)))) ⟨O,.inr O⟩
 simp only[uV,uW]
 have hy1:=fC hy
 refine gg22 ?_
 refine bE O (fun g2=>?_) (fun g2=>?_)
 ·refine gg10 ?_
  exact uZ O (.tmp O (.tmp O (.tmp O (.tmp O .nil)))) ⟨O,.inr O⟩
 refine gg11 ?_
 refine l_eq 45 (.int .i64 ((1+(vput x).length+(vput y).length:Nat):Int)) O (bW oO) ?_
 refine gg7 ?_
 apply cB
 ·rfl
 ·(apply Rs.tmp rfl;apply Rs.tmp rfl;apply Rs.tmp rfl;apply Rs.tmp rfl;exact Rs.nil)
 ·refine⟨O,.inl ⟨x,y,t2,oO,oO,?_,O⟩⟩
  rw[hBs,←hd1,e1,←d2,e2]
 exact uI
def zC (zs:List Int):List Value:=zs.map (.int .i64)
theorem zC_get {zs:List Int}{k:Nat}{z:Int}(h:zs[k]?=some z)(o:Nat)(ho:o=k):(zC zs)[o]?=some (.int .i64 z):=by subst ho;unfold zC;rw[List.getElem?_map,h];rfl
theorem qRb (hE:Seat E){a b:Int}:Ct E 56 [.agg #[.int .i64 2,.int .u8 0,.int .i64 a,.int .i64 b,.int .i64 0]] [] (fun v Q=>∃p c,v= .slice p 2 c∧Q=[sl p c 44 1 2 (zC [a,b])]):=by
 refine bO (hE.fn Tryz.func56) O O O (fun R=>?_)
 simp only[dU,uV,uW]
 refine gg2 ?_
 refine uU ?_
 refine fA O (fun b1=>?_)
 refine gg24 ?_
 refine uU ?_
 refine aU (hE.t O) (hE.t O) O O O (fun b11=>?_)
 refine gg6 ?_
 apply cB
 ·rfl
 ·(apply Rs.tmp rfl;exact Rs.nil)
 ·exact⟨some ⟨b11,0,none⟩,2,O,O⟩
 apply cZ (cO (p:=cells b11 [.int .i64 a,.int .i64 b] 44) (p':=sl (some ⟨b11,0,none⟩) 2 44 1 2 (zC [a,b])) uK (dX O (by unfold maxLen;omega)))
 exact uI
theorem qRa (hE:Seat E){a k:Int}:Ct E 56 [.agg #[.int .i64 3,.int .u8 0,.int .i64 a,.int .i64 0,.int .i64 k]] [] (fun v Q=>∃p c,v= .slice p 1 c∧Q=[sl p c 44 1 1 (zC [a])]):=by
 refine bO (hE.fn Tryz.func56) O O O (fun R=>?_)
 simp only[dU,uV,uW]
 refine gg2 ?_
 refine uU ?_
 refine fA O (fun b1=>?_)
 refine gg29 ?_
 refine uU ?_
 refine aU (hE.t O) (hE.t O) O O O (fun b16=>?_)
 refine gg6 ?_
 apply cB
 ·rfl
 ·(apply Rs.tmp rfl;exact Rs.nil)
 ·exact⟨some ⟨b16,0,none⟩,1,O,O⟩
 apply cZ (cO (p:=cells b16 [.int .i64 a] 44) (p':=sl (some ⟨b16,0,none⟩) 1 44 1 1 (zC [a])) uK (dX O (by unfold maxLen;omega)))
 exact uI
theorem qHi (hE:Seat E){vs:List Value}{zs:List Int}{n:Nat}(hr:Ct E 56 [.agg vs.toArray] [] (fun v Q=>∃p c,v= .slice p zs.length c∧Q=[sl p c 44 1 zs.length (zC zs)])) (hvs:∃v0 v1 v2 v3 v4,vs=[v0,v1,v2,v3,v4]) (hzl:zs.length≤2) (h1:1≤n) (hn:n≤1099511627776):
  Ct E 87 [.agg vs.toArray,.int .i64 (n:Nat)] [] (fun v Q=>Q=[]∧((v= .nilIface∧∀z∈zs,1≤z∧z<(n:Nat))∨v= .iface 58 (.int .i64 1))):=by
 obtain⟨v0,v1,v2,v3,v4,rfl⟩:=hvs
 refine bO (hE.fn Tryz.func87) O O O (fun R=>?_)
 simp only[dU,uV,uW]
 refine gg2 ?_
 refine uU ?_
 refine fA O (fun b2=>?_)
 refine gg10 ?_
 refine bE O (fun h0=>?_) (fun h0=>?_)
 ·exact absurd h0 oO
 refine gg5 ?_
 apply aA
 ·(first |(apply bV rfl (hE.t rfl) rfl;(repeat(first |rfl|assumption|constructor));done)|(apply y_load_agg_old rfl (hE.t rfl) rfl;assumption))
 ·rfl
 refine uX (hr) O ?_
 rintro _ _⟨p,c,rfl,rfl⟩
 simp only[uV,uW]
 refine gg5 ?_
 refine eZ (fun k:Nat=>[(1,.int .i64 (n:Nat)),(4,.nilIface),(11,.slice p zs.length c),(12,.int .i64 (zs.length:Nat)),(13,.int .i64 (k:Nat))]) (fun k=>[sl p c 44 1 zs.length (zC zs),R]) (fun k=>zs.length-k) (fun k=>k≤zs.length∧∀j z,j<k→zs[j]?=some z→1≤z∧z<(n:Nat)) 0 ⟨Nat.zero_le _,fun j z h=>by omega⟩ ⟨rfl,rfl,rfl,rfl,rfl,trivial⟩ ?_ ?_
 ·exact uI
 rintro k⟨hk,hall⟩
 refine gg6 ?_
 refine bE O (fun h2=>?_) (fun h2=>?_)
 ·have hkl2:k<zs.length:=oO
  obtain⟨z,hz⟩:∃x,zs[k]?=some x:=⟨_,List.getElem?_eq_getElem hkl2⟩
  refine iJ (p:=sl p c 44 1 zs.length (zC zs)) uK (fun _ h=>eU h oO) ?_
  rintro⟨g,rfl⟩
  have f0:=zC_get hz (0+(k:Int).toNat) oO
  have f1:=zC_get hz ((k:Int).toNat) oO
  refine gg16 ?_
  refine dY 19 O (fun h3=>?_) (fun h3=>?_)
  ·refine gg20 ?_
   exact uZ O (.tmp O .nil) ⟨O,.inr O⟩
  refine gg11 ?_
  refine bE O (fun h4=>?_) (fun h4=>?_)
  ·refine gg12 ?_
   exact uZ O (.tmp O .nil) ⟨O,.inr O⟩
  refine gg7 ?_
  refine bS (ι:=Nat) (j:=k+1) ⟨hkl2,fun j y hj hy=>?_⟩ oO ⟨O,O,O,O,congrArg some (bW oO),trivial⟩ ?_
  ·rcases Nat.lt_or_ge j k with h| h
   ·exact hall j y h hy
   obtain rfl:j=k:=by omega
   rw[hz]at hy
   cases hy
   exact⟨oO,oO⟩
  exact uI
 refine gg11 ?_
 apply cB
 ·rfl
 ·(apply Rs.tmp rfl;exact Rs.nil)
 ·refine⟨O,.inl ⟨O,fun z hz=>?_⟩⟩
  obtain⟨j,hj⟩:=List.getElem?_of_mem hz
  exact hall j z (by have:=(List.getElem?_eq_some_iff.1 hj).1;omega) hj
 exact uI
theorem qRc (hE:Seat E){n:Nat}(h1:1≤n)(hn:n≤1099511627776){Bs:List UInt8}{a:Option Addr}{c:Nat}{q:HP}(hq:Rdb E.w0 a (byC Bs) q)(hc:Bs.length≤c)(hcl:Bs.length≤1099511627776):Ct E 60 [.slice a Bs.length c,.int .i64 (n:Nat)] [q]
  (fun v Q=>Q=[q]∧((∃r t,r.ok n∧r.times<9223372036854775808∧Bs=rulB n r++t∧v= .tuple #[.agg #[.int .i64 (Rl.kind (r):Nat),.int .u8 (Rl.byte (r):Nat),.int .i64 (Rl.left (r):Nat),.int .i64 (Rl.right (r):Nat),.int .i64 (Rl.times (r):Nat)],.int .i64 ((rulB n r).length:Nat),.nilIface])∨∃e:Int,v= .tuple #[.agg #[.int .i64 0,.int .u8 0,.int .i64 0,.int .i64 0,.int .i64 0],.int .i64 0,.iface 58 (.int .i64 e)])):=by
 refine bO (hE.fn Tryz.func60) O O O (fun R=>?_)
 simp only[dU,uV,uW]
 refine gg2 ?_
 refine uU (dA (hE.t O) (fun b4=>?_))
 refine gg12 ?_
 refine bE O (fun e0=>?_) (fun e0=>?_)
 ·refine gg11 ?_
  apply cB
  ·rfl
  ·((apply Rs.cell rfl (hE.t rfl) rfl;(focus((repeat(first |rfl|assumption|constructor));done)));apply Rs.tmp rfl;apply Rs.tmp rfl;exact Rs.nil)
  ·exact⟨O,.inr ⟨_,O⟩⟩
  exact uI
 obtain⟨b0,t,hBs⟩:∃b0 t,Bs=b0::t:=by
  cases Bs with
  |nil=>exact absurd rfl e0
  |cons b t=>exact⟨b,t,rfl⟩
 have hBl:Bs.length=1+t.length:=by rw[hBs,List.length_cons];omega
 have hqq:=hq
 obtain⟨g,o,rfl,hq'⟩:=hq (vS (by intro e;rw[e]at hBs;cases hBs))
 have hb:=b0.toNat_lt
 have f0:(byC Bs)[0]?=some (.int .u8 (b0.toNat:Nat)):=by rw[hBs];rfl
 generalize hbv:b0.toNat=bv at f0 hb
 have hb0:UInt8.ofNat bv=b0:=qJt hbv.symm
 by_cases k1:bv=1
 ·subst k1
  have f0:(byC Bs)[0]?=some (.int .u8 1):=f0
  refine gg9 ?_
  refine uU (dA (hE.t O) (fun b7=>?_))
  refine gg31 ?_
  refine bE O (fun e1=>?_) (fun e1=>?_)
  ·refine gg13 ?_
   apply cB
   ·rfl
   ·((apply Rs.cell rfl (hE.t rfl) rfl;(focus((repeat(first |rfl|assumption|constructor));done)));apply Rs.tmp rfl;apply Rs.tmp rfl;exact Rs.nil)
   ·exact⟨O,.inr ⟨_,O⟩⟩
   exact uI
  obtain⟨b1,t1,rfl⟩:∃b1 t1,t=b1::t1:=by
   cases t with
   |nil=>exfalso;simp only[List.length_nil]at hBl;omega
   |cons b t=>exact⟨b,t,rfl⟩
  have f1:(byC Bs)[1]?=some (.int .u8 (b1.toNat:Nat)):=by rw[hBs];rfl
  have hb1:=b1.toNat_lt
  refine gg12 ?_
  refine jE (cO (p:=cells b7 [.int .i64 ((1:Nat):Int),.int .u8 (b1.toNat:Nat),.int .i64 ((0:Nat):Int),.int .i64 ((0:Nat):Int),.int .i64 ((0:Nat):Int)] 86) (p':=cells b7 [.int .i64 (Rl.kind ((Rl.letter b1)):Nat),.int .u8 (Rl.byte ((Rl.letter b1)):Nat),.int .i64 (Rl.left ((Rl.letter b1)):Nat),.int .i64 (Rl.right ((Rl.letter b1)):Nat),.int .i64 (Rl.times ((Rl.letter b1)):Nat)] 86) uK (fun _ h=>h)) ?_
  refine gg3 ?_
  apply aA
  ·(first |(apply bV rfl (hE.t rfl) rfl;(repeat(first |rfl|assumption|constructor));done)|(apply y_load_agg_old rfl (hE.t rfl) rfl;assumption))
  ·rfl
  refine gg1 ?_
  refine uX (qG (r:=(Rl.letter b1)) hE trivial h1 hn) O ?_
  rintro _ _⟨rfl,rfl⟩
  simp only[uV,uW]
  refine gg14 ?_
  apply aA
  ·(first |(apply bV rfl (hE.t rfl) rfl;(repeat(first |rfl|assumption|constructor));done)|(apply y_load_agg_old rfl (hE.t rfl) rfl;assumption))
  ·rfl
  refine gg7 ?_
  apply cB
  ·rfl
  ·((apply Rs.cell rfl (hE.t rfl) rfl;(focus((repeat(first |rfl|assumption|constructor));done)));apply Rs.tmp rfl;apply Rs.tmp rfl;exact Rs.nil)
  ·refine⟨O,.inl ⟨.letter b1,t1,trivial,by simp[Rl.times],?_,rfl⟩⟩
   rw[hBs,←hb0]
   rfl
  exact uI
 by_cases k2:bv=2
 ·subst k2
  have f0:(byC Bs)[0]?=some (.int .u8 2):=f0
  refine gg9 ?_
  refine uU (dA (hE.t O) (fun b7=>?_))
  refine gg37 ?_
  refine uX (qRi hE hBs hqq hc hcl) O ?_
  rintro _ _⟨rfl,⟨x,y,t',hx,hy,hB2,rfl⟩|rfl⟩
  rotate_left
  ·simp only[uV,uW]
   refine gg41 ?_
   apply cB
   ·rfl
   ·((apply Rs.cell rfl (hE.t rfl) rfl;(focus((repeat(first |rfl|assumption|constructor));done)));apply Rs.tmp rfl;apply Rs.tmp rfl;exact Rs.nil)
   ·exact⟨O,.inr ⟨_,O⟩⟩
   exact uI
  simp only[uV,uW]
  refine gg48 ?_
  refine bE O (fun e2=>?_) (fun e2=>?_)
  ·exfalso;omega
  refine gg7 ?_
  refine l_eq 69 (.int .i64 ((n:Int)-(x:Nat))) O (bW oO) ?_
  refine gg16 ?_
  refine l_eq 76 (.int .i64 ((n:Int)-(y:Nat))) O (bW oO) ?_
  refine gg8 ?_
  apply aA
  ·(first |(apply bV rfl (hE.t rfl) rfl;(repeat(first |rfl|assumption|constructor));done)|(apply y_load_agg_old rfl (hE.t rfl) rfl;assumption))
  ·rfl
  refine gg1 ?_
  refine uX (qHi (vs:=[.int .i64 2,.int .u8 0,.int .i64 ((n:Int)-(x:Nat)),.int .i64 ((n:Int)-(y:Nat)),.int .i64 0]) (zs:=[(n:Int)-(x:Nat),(n:Int)-(y:Nat)]) hE (qRb hE) ⟨_,_,_,_,_,O⟩ (by simp) h1 hn) O ?_
  rintro _ _⟨rfl,⟨rfl,hz⟩|rfl⟩
  rotate_left
  ·simp only[uV,uW]
   refine gg21 ?_
   apply cB
   ·rfl
   ·((apply Rs.cell rfl (hE.t rfl) rfl;(focus((repeat(first |rfl|assumption|constructor));done)));apply Rs.tmp rfl;apply Rs.tmp rfl;exact Rs.nil)
   ·exact⟨O,.inr ⟨_,O⟩⟩
   exact uI
  simp only[uV,uW]
  refine gg14 ?_
  apply aA
  ·(first |(apply bV rfl (hE.t rfl) rfl;(repeat(first |rfl|assumption|constructor));done)|(apply y_load_agg_old rfl (hE.t rfl) rfl;assumption))
  ·rfl
  refine gg7 ?_
  have z1:=hz ((n:Int)-(x:Nat)) (by simp)
  have z2:=hz ((n:Int)-(y:Nat)) (by simp)
  apply cB
  ·rfl
  ·((apply Rs.cell rfl (hE.t rfl) rfl;(focus((repeat(first |rfl|assumption|constructor));done)));apply Rs.tmp rfl;apply Rs.tmp rfl;exact Rs.nil)
  ·refine⟨O,.inl ⟨.pair (n-x) (n-y),t',⟨oO,oO,oO,oO⟩,by simp[Rl.times],?_,?_⟩⟩
   ·rw[hB2,←hb0]
    simp only[rulB,show n-(n-x)=x by omega,show n-(n-y)=y by omega]
    simp
   have e1:(rulB n (.pair (n-x) (n-y))).length=1+(vput x).length+(vput y).length:=by
    simp only[rulB,show n-(n-x)=x by omega,show n-(n-y)=y by omega]
    simp
    omega
   rw[e1]
   simp only[Rl.kind,Rl.byte,Rl.left,Rl.right,Rl.times,show((n-x:Nat):Int)=(n:Int)-(x:Nat) by omega,show((n-y:Nat):Int)=(n:Int)-(y:Nat) by omega]
   rfl
  exact uI
 by_cases k3:bv=3
 ·subst k3
  have f0:(byC Bs)[0]?=some (.int .u8 3):=f0
  refine gg9 ?_
  refine uU (dA (hE.t O) (fun b7=>?_))
  refine gg40 ?_
  refine uX (qRi hE hBs hqq hc hcl) O ?_
  rintro _ _⟨rfl,⟨x,y,t',hx,hy,hB2,rfl⟩|rfl⟩
  rotate_left
  ·simp only[uV,uW]
   refine gg41 ?_
   apply cB
   ·rfl
   ·((apply Rs.cell rfl (hE.t rfl) rfl;(focus((repeat(first |rfl|assumption|constructor));done)));apply Rs.tmp rfl;apply Rs.tmp rfl;exact Rs.nil)
   ·exact⟨O,.inr ⟨_,O⟩⟩
   exact uI
  simp only[uV,uW]
  refine gg34 ?_
  refine bE O (fun e3=>?_) (fun e3=>?_)
  ·refine gg13 ?_
   apply cB
   ·rfl
   ·((apply Rs.cell rfl (hE.t rfl) rfl;(focus((repeat(first |rfl|assumption|constructor));done)));apply Rs.tmp rfl;apply Rs.tmp rfl;exact Rs.nil)
   ·exact⟨O,.inr ⟨_,O⟩⟩
   exact uI
  refine gg15 ?_
  refine bE O (fun e2=>?_) (fun e2=>?_)
  ·exfalso;omega
  refine gg7 ?_
  refine l_eq 69 (.int .i64 ((n:Int)-(x:Nat))) O (bW oO) ?_
  refine gg15 ?_
  refine l_eq 79 (.int .i64 ((y:Int)+2)) O (bW oO) ?_
  refine gg8 ?_
  apply aA
  ·(first |(apply bV rfl (hE.t rfl) rfl;(repeat(first |rfl|assumption|constructor));done)|(apply y_load_agg_old rfl (hE.t rfl) rfl;assumption))
  ·rfl
  refine gg1 ?_
  refine uX (qHi (vs:=[.int .i64 3,.int .u8 0,.int .i64 ((n:Int)-(x:Nat)),.int .i64 0,.int .i64 ((y:Int)+2)]) (zs:=[(n:Int)-(x:Nat)]) hE (qRa hE) ⟨_,_,_,_,_,O⟩ (by simp) h1 hn) O ?_
  rintro _ _⟨rfl,⟨rfl,hz⟩|rfl⟩
  rotate_left
  ·simp only[uV,uW]
   refine gg21 ?_
   apply cB
   ·rfl
   ·((apply Rs.cell rfl (hE.t rfl) rfl;(focus((repeat(first |rfl|assumption|constructor));done)));apply Rs.tmp rfl;apply Rs.tmp rfl;exact Rs.nil)
   ·exact⟨O,.inr ⟨_,O⟩⟩
   exact uI
  simp only[uV,uW]
  refine gg14 ?_
  apply aA
  ·(first |(apply bV rfl (hE.t rfl) rfl;(repeat(first |rfl|assumption|constructor));done)|(apply y_load_agg_old rfl (hE.t rfl) rfl;assumption))
  ·rfl
  refine gg7 ?_
  have z1:=hz ((n:Int)-(x:Nat)) (by simp)
  apply cB
  ·rfl
  ·((apply Rs.cell rfl (hE.t rfl) rfl;(focus((repeat(first |rfl|assumption|constructor));done)));apply Rs.tmp rfl;apply Rs.tmp rfl;exact Rs.nil)
  ·refine⟨O,.inl ⟨.power (n-x) (y+2),t',⟨oO,oO,oO⟩,by simp only[Rl.times];omega,?_,?_⟩⟩
   ·rw[hB2,←hb0]
    simp only[rulB,show n-(n-x)=x by omega,show y+2-2=y by omega]
    simp
   have e1:(rulB n (.power (n-x) (y+2))).length=1+(vput x).length+(vput y).length:=by
    simp only[rulB,show n-(n-x)=x by omega,show y+2-2=y by omega]
    simp
    omega
   rw[e1]
   simp only[Rl.kind,Rl.byte,Rl.left,Rl.right,Rl.times,show((n-x:Nat):Int)=(n:Int)-(x:Nat) by omega,show((y+2:Nat):Int)=(y:Int)+2 by omega]
   rfl
  exact uI
 refine gg9 ?_
 refine uU (dA (hE.t O) (fun b7=>?_))
 refine gg22 ?_
 refine bE O (fun j1=>?_) (fun j1=>?_)
 ·exfalso;omega
 refine gg7 ?_
 refine bE O (fun j2=>?_) (fun j2=>?_)
 ·exfalso;omega
 refine gg5 ?_
 refine bE O (fun j3=>?_) (fun j3=>?_)
 ·exfalso;omega
 refine gg12 ?_
 apply cB
 ·rfl
 ·((apply Rs.cell rfl (hE.t rfl) rfl;(focus((repeat(first |rfl|assumption|constructor));done)));apply Rs.tmp rfl;apply Rs.tmp rfl;exact Rs.nil)
 ·exact⟨O,.inr ⟨_,O⟩⟩
 exact uI
end
section
variable {E:Env}
theorem rdb_view {w0:World}{a:Option Addr}{Bs nm t:List UInt8}{q:HP}{c k:Nat}(h:Rdb w0 a (byC Bs) q)(hc:Bs.length≤c)(hB:Bs≠[])(hd:Bs.drop k=nm++t):∃g o,vwA a c k=some ⟨g,o,none⟩∧∀z,q z→RdAt w0 g o (byC nm) z:=by
 obtain⟨g,o,rfl,hr⟩:=h (vS hB)
 by_cases hk:c=k
 ·refine⟨g,o,by unfold vwA;rw[if_pos hk],fun z hz i v hv=>?_⟩
  exfalso
  have:Bs.drop k=[]:=List.drop_eq_nil_of_le oO
  rw[this]at hd
  have h2:nm=[]:=(List.append_eq_nil_iff.1 hd.symm).1
  rw[h2]at hv
  simp[byC]at hv
 refine⟨g,o+k,by unfold vwA;rw[if_neg hk];simp[Addr.add],fun z hz i v hv=>?_⟩
 have e:(byC Bs)[k+i]?=some v:=by
  rw[←List.getElem?_drop,←qLr,hd,gL,List.getElem?_append_left (List.getElem?_eq_some_iff.1 hv).1]
  exact hv
 have:=hr z hz (k+i) v e
 rw[Nat.add_assoc]
 exact this
theorem qCi (hE:Seat E){mx:Nat}{Bs:List UInt8}(hmx2:mx≤1099511627776){a:Option Addr}{c:Nat}{q:HP}(hq:Rdb E.w0 a (byC Bs) q)(hc:Bs.length≤c)(hcl:Bs.length≤1099511627776):Ct E 61 [.slice a Bs.length c,.int .i64 (mx:Nat)] [q]
  (fun v Q=>(Q=[q]∧∃e:Int,v= .tuple #[.slice none 0 0,.int .i64 0,.iface 58 (.int .i64 e)])∨∃nm t g,Bs=fZ nm++t∧nm.length≤mx∧v= .tuple #[.slice (some ⟨g,0,none⟩) nm.length nm.length,.int .i64 ((fZ nm).length:Nat),.nilIface]∧Q=[q,sl (some ⟨g,0,none⟩) nm.length 5 1 nm.length (byC nm)]):=by
 refine bO (hE.fn Tryz.func61) O O O (fun R=>?_)
 simp only[dU,uV,uW]
 refine gg10 ?_
 refine uX (pW hE hq) O ?_
 rintro _ _⟨rfl,⟨n,t,hn,hBs,rfl⟩|rfl⟩
 rotate_left
 ·simp only[uV,uW]
  refine gg27 ?_
  exact uZ O (.tmp O (.tmp O (.tmp O .nil))) (.inl ⟨O,_,O⟩)
 simp only[uV,uW]
 have h10:=fC hn
 have hvp:=jR n
 have hBl:Bs.length=(vput n).length+t.length:=by rw[hBs,List.length_append]
 refine gg25 ?_
 refine l_eq 22 (.int .i64 (mx:Nat)) O (bW (by first |omega |simp)) ?_
 refine gg4 ?_
 refine bE O (fun e1=>?_) (fun e1=>?_)
 ·refine gg10 ?_
  exact uZ O (.tmp O (.tmp O (.tmp O .nil))) (.inl ⟨O,_,O⟩)
 refine gg14 ?_
 refine bE O (fun e2=>?_) (fun e2=>?_)
 ·refine gg10 ?_
  exact uZ O (.tmp O (.tmp O (.tmp O .nil))) (.inl ⟨O,_,O⟩)
 have hnt:n≤t.length:=oO
 obtain⟨nm,t2,rfl,rfl⟩:∃nm t2,t=nm++t2∧n=nm.length:=⟨t.take n,t.drop n,(List.take_append_drop n t).symm,by rw[List.length_take];omega⟩
 have hbl:=rG nm
 have hml:nm.length≤maxLen:=by unfold maxLen;omega
 have hmk:1*nm.length≤281474976710656:=oO
 have hdr:Bs.drop (vput nm.length).length=nm++t2:=by rw[hBs];simp
 have hbb:(fZ nm).length=(vput nm.length).length+nm.length:=List.length_append
 obtain⟨g,o,hga,hqn⟩:=rdb_view hq hc (by intro e;rw[e]at hBl;simp at hBl;omega) hdr
 refine gg5 ?_
 refine uU ?_
 refine qMo (hE.t O) (hE.t O) O hmk hml (fun b35 us35 hu35=>?_)
 refine gg8 ?_
 refine uB (jJ (l:=(vput nm.length).length) (h:=Bs.length) O (hE.t O) ⟨_,O⟩ O oO oO) ?_
 refine l_eq 39 (.slice (vwA a c ((vput nm.length).length)) (Bs.drop (vput nm.length).length).length (c-((vput nm.length).length))) O (congrArg (fun z=>Value.slice _ z _) (by rw[List.length_drop])) ?_
 rw[hdr,hga]
 have hmin:nm.length=Nat.min (nm++t2).length nm.length:=by rw[List.length_append];exact(Nat.min_eq_right oO).symm
 refine uU ?_
 refine qHz (m:=nm.length) (hE.t O) (hE.t O) O O hqn uK uK (qGx nm) hbl hmin oO ?_
 have hst:bX us35 0 (byC nm)=byC nm:=by
  rw[jT _ _ _ oO,List.take_zero,List.nil_append,Nat.zero_add,List.drop_eq_nil_of_le oO,List.append_nil]
 rw[hst]
 refine gg15 ?_
 exact uZ O (.tmp O (.tmp O (.tmp O .nil))) (.inr ⟨nm,t2,b35,by rw[hBs,fZ,List.append_assoc],oO,by rw[hbb];rfl,rfl⟩)
end
end Go.Proofs.YtlmpojkmeglepaaGreatDoor
