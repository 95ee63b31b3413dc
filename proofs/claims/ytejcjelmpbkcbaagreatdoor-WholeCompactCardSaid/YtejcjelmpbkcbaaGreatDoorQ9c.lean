import Derived.Test.YtejcjelmpbkcbaaGreatDoorQ9a
set_option linter.all false
set_option maxHeartbeats 1000000
namespace Gc
structure Cm where
 pa:Option Nat
 tx:Nat
 nt:List UInt8
def Ok (G:List Cm):Prop:=∀(i:Nat)(c:Cm)(p:Nat),G[i]?=some c->c.pa=some p->p<i
def paG (G:List Cm)(n:Nat):Option Nat:=(G[n]?).bind (·.pa)
def paG_lt {G:List Cm}(h:Ok G){n p:Nat}(e:paG G n=some p):p<n/\n<G.length:=by
 unfold paG at e;cases hc:G[n]? with
 |none=>rw[hc]at e;cases e
 |some c=>rw[hc]at e;exact⟨h n c p hc e,(ag.1 hc).1⟩
def lineF (G:List Cm):Nat->Nat->List Nat
 |0,n=>[n]
 |k+1,n=>n::match paG G n with
  |none=>[]
  |some p=>lineF G k p
def lineG (G:List Cm)(n:Nat):List Nat:=lineF G n n
def qZz {G:List Cm}(h:Ok G):∀(k j n:Nat),n<=k->n<=j->lineF G k n=lineF G j n
 |0,0,n,_,_=>rfl
 |0,j+1,n,h1,_=>by
  obtain rfl:n=0:=by omega
  show[0]=0::_;cases e:paG G 0 with
  |none=>rfl
  |some p=>exact absurd (paG_lt h e).1 oO
 |k+1,0,n,_,h1=>by
  obtain rfl:n=0:=by omega
  show 0::_=[0];cases e:paG G 0 with
  |none=>rfl
  |some p=>exact absurd (paG_lt h e).1 oO
 |k+1,j+1,n,h1,h2=>by
  show n::_=n::_;cases e:paG G n with
  |none=>rfl
  |some p=>have:=(paG_lt h e).1;simp only;rw[qZz h k j p oO oO]
def lineG_eq {G:List Cm}(h:Ok G)(n:Nat):lineG G n=n::match paG G n with
  |none=>[]
  |some p=>lineG G p:=by
 unfold lineG;cases n with
 |zero=>
  cases e:paG G 0 with
  |none=>rfl
  |some p=>exact absurd (paG_lt h e).1 oO
 |succ n=>
  show(n+1)::_=_
  cases e:paG G (n+1)with
  |none=>rfl
  |some p=>have:=(paG_lt h e).1;simp only;rw[qZz h n p p oO (aj _)]
def line_none {G:List Cm}(h:Ok G){n:Nat}(e:paG G n=none):lineG G n=[n]:=by rw[lineG_eq h,e]
def line_some {G:List Cm}(h:Ok G){n p:Nat}(e:paG G n=some p):lineG G n=n::lineG G p:=by rw[lineG_eq h,e]
def qZx {G:List Cm}(h:Ok G)(n:Nat):n∈lineG G n:=by rw[lineG_eq h];exact oM
def line_le {G:List Cm}(h:Ok G):∀(n m:Nat),m∈lineG G n->m<=n:=by
 intro n;induction n using Nat.strongRecOn with
 |_ n ih=>
  intro m hm
  rw[lineG_eq h]at hm
  rcases jo.1 hm with rfl|hm
  ·omega
  cases e:paG G n with
  |none=>rw[e]at hm;cases hm
  |some p=>rw[e]at hm;have:=(paG_lt h e).1;have:=ih p this m hm;omega
def line_len {G:List Cm}(h:Ok G):∀(n:Nat),(lineG G n).length<=n+1:=by
 intro n;induction n using Nat.strongRecOn with
 |_ n ih=>
  rw[lineG_eq h]
  cases e:paG G n with
  |none=>simp
  |some p=>have:=(paG_lt h e).1;have:=ih p this;simp only[bf];omega
def line_pa {G:List Cm}(h:Ok G){m p:Nat}(e:paG G m=some p):∀(n:Nat),m∈lineG G n->p∈lineG G n:=by
 intro n;induction n using Nat.strongRecOn with
 |_ n ih=>
  intro hm
  rw[lineG_eq h]at hm ⊢
  rcases jo.1 hm with rfl|hm
  ·rw[e]
   exact oJ _ (qZx h p)
  cases e2:paG G n with
  |none=>rw[e2]at hm;cases hm
  |some q=>rw[e2]at hm;exact oJ _ (ih q (paG_lt h e2).1 hm)
def line_up {G:List Cm}(h:Ok G):∀(n m:Nat),m∈lineG G n->m=n\/∃c,c∈lineG G n/\paG G c=some m:=by
 intro n;induction n using Nat.strongRecOn with
 |_ n ih=>
  intro m hm
  rw[lineG_eq h]at hm
  rcases jo.1 hm with rfl|hm
  ·exact .inl O
  cases e:paG G n with
  |none=>rw[e]at hm;cases hm
  |some q=>
   rw[e]at hm
   rcases ih q (paG_lt h e).1 m hm with rfl|⟨c,hc,he⟩
   ·exact .inr ⟨n,qZx h n,e⟩
   refine .inr ⟨c,?_,he⟩
   rw[line_some h e]
   exact oJ _ hc
def kp (G:List Cm)(S:List Nat)(m:Nat):Bool:=S.any fun x=>(lineG G x).contains m
def kp_iff {G:List Cm}{S:List Nat}{m:Nat}:kp G S m=true↔∃x∈S,m∈lineG G x:=by
 unfold kp;simp
def kp_self {G:List Cm}(h:Ok G){S:List Nat}{m:Nat}(hm:m∈S):kp G S m=true:=kp_iff.2 ⟨m,hm,qZx h m⟩
def kp_pa {G:List Cm}(h:Ok G){S:List Nat}{m p:Nat}(hm:kp G S m=true)(e:paG G m=some p):kp G S p=true:=by
 obtain⟨x,hx,hl⟩:=kp_iff.1 hm;exact kp_iff.2 ⟨x,hx,line_pa h e x hl⟩
def kp_up {G:List Cm}(h:Ok G){S:List Nat}{m:Nat}(hm:kp G S m=true):m∈S\/∃c,kp G S c=true/\paG G c=some m:=by
 obtain⟨x,hx,hl⟩:=kp_iff.1 hm;rcases line_up h x m hl with rfl|⟨c,hc,he⟩
 ·exact .inl hx
 exact .inr ⟨c,kp_iff.2 ⟨x,hx,hc⟩,he⟩
def kp_lt {G:List Cm}(h:Ok G){S:List Nat}(hS:∀x∈S,x<G.length) {m:Nat} (hm:kp G S m=true):m<G.length:=by
 obtain⟨x,hx,hl⟩:=kp_iff.1 hm;have:=line_le h x m hl;have:=hS x hx;omega
def mk (G:List Cm)(S:List Nat)(n m:Nat):Bool:=S.contains m||(List.range G.length).any fun c=>decide (n<=c)&&kp G S c&&(paG G c==some m)
def qZy {G:List Cm}{S:List Nat}{n m:Nat}:mk G S n m=true↔m∈S\/∃c,c<G.length/\n<=c/\kp G S c=true/\paG G c=some m:=by
 unfold mk;simp[and_assoc]
def mk_all {G:List Cm}{S:List Nat}(m:Nat):mk G S G.length m=S.contains m:=by
 rw[qm,qZy];simp;intro c h1 h2;omega
def mk_now {G:List Cm}(h:Ok G){S:List Nat}(hS:∀x∈S,x<G.length) {n m:Nat} (hn:n<=m+1):mk G S n m=kp G S m:=by
 rw[qm,qZy];constructor
 ·rintro(hm|⟨c,_,_,hk,e⟩)
  ·exact kp_self h hm
  exact kp_pa h hk e
 intro hk;rcases kp_up h hk with hm|⟨c,hc,e⟩
 ·exact .inl hm
 have:=(paG_lt h e);exact .inr ⟨c,oO,oO,hc,e⟩
def mk_no {G:List Cm}{S:List Nat}{n m:Nat}(h:kp G S n=false\/paG G n=none):mk G S n m=mk G S (n+1) m:=by
 rw[qm,qZy,qZy];constructor
 ·rintro(hm|⟨c,h1,h2,hk,e⟩)
  ·exact .inl hm
  refine .inr ⟨c,h1,?_,hk,e⟩;rcases Nat.eq_or_lt_of_le h2 with rfl|h2
  ·rcases h with h| h
   ·rw[h]at hk;cases hk
   rw[h]at e;cases e
  exact h2
 rintro(hm|⟨c,h1,h2,hk,e⟩)
 ·exact .inl hm
 exact .inr ⟨c,h1,oO,hk,e⟩
def mk_yes {G:List Cm}(h:Ok G){S:List Nat}{n m p:Nat}(hk:kp G S n=true)(e:paG G n=some p):mk G S n m=if m=p then true else mk G S (n+1) m:=by
 have hl:=paG_lt h e;split
 ·rename_i hm
  subst hm;exact qZy.2 (.inr ⟨n,hl.2,aj _,hk,e⟩)
 rename_i hm
 rw[qm,qZy,qZy];constructor
 ·rintro(hm'|⟨c,h1,h2,hk',e'⟩)
  ·exact .inl hm'
  refine .inr ⟨c,h1,?_,hk',e'⟩;rcases Nat.eq_or_lt_of_le h2 with rfl|h2
  ·rw[e]at e';exact absurd (mg e').symm hm
  exact h2
 rintro(hm'|⟨c,h1,h2,hk',e'⟩)
 ·exact .inl hm'
 exact .inr ⟨c,h1,oO,hk',e'⟩
def kl (G:List Cm)(S:List Nat)(n:Nat):List Nat:=(List.range n).filter (kp G S)
def pos (G:List Cm)(S:List Nat)(n:Nat):Nat:=(kl G S n).length
def qZw (G:List Cm)(S:List Nat)(n:Nat):kl G S (n+1)=if kp G S n=true then kl G S n++[n]else kl G S n:=by
 unfold kl;rw[List.range_succ,List.filter_append];by_cases h:kp G S n=true<;>simp[h]
def zAa (G:List Cm)(S:List Nat)(n:Nat):pos G S (n+1)=if kp G S n=true then pos G S n+1 else pos G S n:=by
 unfold pos;rw[qZw];split <;>simp
def kl_mem {G:List Cm}{S:List Nat}{n m:Nat}:m∈kl G S n↔m<n/\kp G S m=true:=by unfold kl;simp
def pos_le {G:List Cm}{S:List Nat}{n m:Nat}(h:n<=m):pos G S n<=pos G S m:=by
 induction m with
 |zero=>obtain rfl:n=0:=by omega
        exact aj _
 |succ m ih=>
  rcases Nat.eq_or_lt_of_le h with rfl| h
  ·exact aj _
  have:=ih oO
  rw[zAa]
  split <;>omega
def pos_lt {G:List Cm}{S:List Nat}{n m:Nat}(h:n<m)(hk:kp G S n=true):pos G S n<pos G S m:=by
 have:=pos_le (G:=G) (S:=S) (n:=n+1) (m:=m) h;rw[zAa,if_pos hk]at this;omega
def kl_at {G:List Cm}{S:List Nat}{n:Nat}(hk:kp G S n=true):∀{m:Nat},n<m->(kl G S m)[pos G S n]?=some n:=by
 intro m;induction m with
 |zero=>intro h;omega
 |succ m ih=>
  intro h
  rw[qZw]
  rcases Nat.eq_or_lt_of_le (Nat.le_of_lt_succ h)with rfl| h
  ·rw[if_pos hk,bq (by exact aj _)]
   unfold pos
   simp
  split
  ·rw[ax (by have:=pos_lt h hk;exact this)]
   exact ih h
  exact ih h
def qWq {G:List Cm}{S:List Nat}:∀{m i n:Nat},(kl G S m)[i]?=some n->n<m/\kp G S n=true/\pos G S n=i:=by
 intro m;induction m with
 |zero=>intro i n h;simp[kl]at h
 |succ m ih=>
  intro i n h
  rw[qZw]at h
  split at h
  ·rename_i hk
   rcases ed i (kl G S m).length with hi|hi
   ·rw[ax hi]at h
    obtain⟨h1,h2,h3⟩:=ih h
    exact⟨oO,h2,h3⟩
   rw[bq hi]at h
   have:i-(kl G S m).length=0:=by
    rcases fu (i-(kl G S m).length)with e| e
    ·exact e
    rw[fq (by simp;omega)]at h;cases h
   rw[this]at h
   simp at h
   subst h
   refine⟨oO,hk,?_⟩
   unfold pos
   omega
  obtain⟨h1,h2,h3⟩:=ih h
  exact⟨oO,h2,h3⟩
def mvC (G:List Cm)(S:List Nat)(f:Nat->Nat)(c:Cm):Cm:=⟨c.pa.map (pos G S),f c.tx,c.nt⟩
def cmAt (G:List Cm)(n:Nat):Cm:=G.getD n ⟨none,0,[]⟩
def cmAt_get {G:List Cm}{n:Nat}{c:Cm}(h:G[n]?=some c):cmAt G n=c:=by unfold cmAt;rw[jg,h];rfl
def cmAt_some {G:List Cm}{n:Nat}(h:n<G.length):G[n]?=some (cmAt G n):=by
 rw[cmAt_get (ah h)];exact ah h
def keepG (G:List Cm)(S:List Nat)(f:Nat->Nat)(n:Nat):List Cm:=(kl G S n).map fun m=>mvC G S f (cmAt G m)
def keepG_len (G:List Cm)(S:List Nat)(f:Nat->Nat)(n:Nat):(keepG G S f n).length=pos G S n:=by unfold keepG pos;simp
def keepG_at {G:List Cm}{S:List Nat}{f:Nat->Nat}{n m:Nat}(hk:kp G S n=true)(hn:n<m):(keepG G S f m)[pos G S n]?=some (mvC G S f (cmAt G n)):=by
 unfold keepG;rw[bu,kl_at hk hn];rfl
section keep
variable {G:List Cm}{S:List Nat}(h:Ok G)(hS:∀x∈S,x<G.length) (f:Nat->Nat)
include h hS
def zAb {n:Nat}(hk:kp G S n=true):paG (keepG G S f G.length) (pos G S n)=(paG G n).map (pos G S):=by
 unfold paG;rw[keepG_at hk (kp_lt h hS hk),cmAt_some (kp_lt h hS hk)];rfl
def keep_ok:Ok (keepG G S f G.length):=by
 intro i c p hc hp;have hi:=(ag.1 hc).1;rw[keepG_len]at hi;obtain⟨n,hn⟩:∃n,(kl G S G.length)[i]?=some n:=⟨_,ah hi⟩;obtain⟨h1,h2,h3⟩:=qWq hn;subst h3;have e:=zAb h hS f h2;have e2:paG (keepG G S f G.length) (pos G S n)=some p:=by unfold paG;rw[hc];exact hp
 rw[e2]at e;cases e3:paG G n with
 |none=>rw[e3]at e;cases e
 |some q=>
  rw[e3]at e
  simp only[ru,qj]at e
  subst e
  exact pos_lt (paG_lt h e3).1 (kp_pa h h2 e3)
def keep_line:∀(n:Nat),kp G S n=true->lineG (keepG G S f G.length) (pos G S n)=(lineG G n).map (pos G S):=by
 intro n;induction n using Nat.strongRecOn with
 |_ n ih=>
  intro hk
  have e:=zAb h hS f hk
  cases e3:paG G n with
  |none=>rw[e3]at e;rw[line_none h e3,line_none (keep_ok h hS f) e];rfl
  |some q=>
   rw[e3]at e
   rw[line_some h e3,line_some (keep_ok h hS f) e,ih q (paG_lt h e3).1 (kp_pa h hk e3)]
   rfl
def keep_all:∀i,i<pos G S G.length->kp (keepG G S f G.length) (S.map (pos G S)) i=true:=by
 intro i hi;obtain⟨n,hn⟩:∃n,(kl G S G.length)[i]?=some n:=⟨_,ah hi⟩;obtain⟨h1,h2,rfl⟩:=qWq hn;obtain⟨x,hx,hl⟩:=kp_iff.1 h2;refine kp_iff.2 ⟨pos G S x,dw.2 ⟨x,hx,O⟩,?_⟩;rw[keep_line h hS f x (kp_self h hx)];exact dw.2 ⟨n,hl,O⟩
end keep
def zAc {G:List Cm}{S:List Nat}(ha:∀i,i<G.length->kp G S i=true):∀(n:Nat),n<=G.length->kl G S n=List.range n:=by
 intro n;induction n with
 |zero=>intro _;rfl
 |succ n ih=>
  intro hn
  rw[qZw,if_pos (ha n oO),ih oO,List.range_succ]
def pos_full {G:List Cm}{S:List Nat}(ha:∀i,i<G.length->kp G S i=true) (n:Nat) (hn:n<=G.length):pos G S n=n:=by
 unfold pos;rw[zAc ha n hn];simp
def keepG_full {G:List Cm}(h:Ok G){S:List Nat}(ha:∀i,i<G.length->kp G S i=true) (f:Nat->Nat):keepG G S f G.length=G.map fun c=>⟨c.pa,f c.tx,c.nt⟩:=by
 apply kz;intro i;unfold keepG;rw[zAc ha _ (aj _),bu,bu];rcases ed i G.length with hi|hi
 ·rw[lu hi,cmAt_some hi];simp only[ru,mvC];have hg:=cmAt_some hi;generalize cmAt G i=c at hg;obtain⟨pa,tx,nt⟩:=c;cases pa with
  |none=>rfl
  |some p=>
   have:=h i _ p hg rfl
   simp only[ru,pos_full ha p oO]
 rw[fq (by simpa using hi),fq hi];rfl
end Gc
namespace Go.Proofs.YtejcjelmpbkcbaaGreatDoor
open Go Go.RowKit Sl Eg
set_option maxRecDepth 10000
section
variable {E:Env}
def qMe {x:HP}{B:List HP}:∀{A:List HP}{k:PH},dS (A++x::B) k->dS (x::(A++B)) k
 |[],k,h=>h
 |a::A,k,h=>gD (fP (p:=a) (fun _ h'=>qMe h') h)
def qEa {x:HP}{B:List HP}:∀{A:List HP}{k:PH},dS (x::(A++B)) k->dS (A++x::B) k
 |[],k,h=>h
 |a::A,k,h=>fP (p:=a) (fun _ h'=>qEa h') (gD h)
def rd_slzG {w0:World}{g c m sz:Nat}{vs xs:List Value}{t:TypeId}(h:∀(i:Nat)(v:Value),vs[i]?=some v->xs[i]?=some v):∀k,sl (some ⟨g,0,none⟩) c t sz m xs k->RdAt w0 g 0 vs k:=fun k hk i v hv=>by
 obtain⟨_,h1|⟨g',cur,h1,h2,h3,h4,h5,h6⟩⟩:=hk
 ·cases h1.1
 cases h1
 refine .inr ⟨cur,t,(0,0),h2,?_⟩;have hx:=h i v hv;rw[<-h6,kw]at hx;split at hx
 ·rw[kg];simpa using hx
 cases hx
def rdb_slG {w0:World}{p:Option Addr}{c n:Nat}{t:TypeId}{vs:List Value}(hn:vs.length=n)(h:0<n->∃g,p=some ⟨g,0,none⟩):Rdb w0 p vs (sl p c t 1 n vs):=fun hne=>by
 obtain⟨g,rfl⟩:=h (by
  rcases fu n with e| e
  ·exact absurd (cz oO) hne
  exact e)
 exact⟨g,0,O,rd_slzG (fun _ _ h=>h)⟩
def qTb {H:List HP}:∀k,dS H k->dS (dS []::H) k:=fun k x=>⟨fun _=>none,k,fun _=> .inl rfl,by funext b;simp[join],trivial,x⟩
structure Rw where
 c:Gc.Cm
 a:Option Addr
 k:Nat
def paN (c:Gc.Cm):Nat:=match c.pa with
 |none=>0
 |some _=>1
def paI (c:Gc.Cm):List Value:=match c.pa with
 |none=>[]
 |some p=>[.int .i64 (p:Nat)]
def paI_len (c:Gc.Cm):(paI c).length=paN c:=by unfold paI paN;cases c.pa<;>rfl
def paI_one (c:Gc.Cm):∀u∈paI c,u.oneCell'=true:=fun u h=>by
 unfold paI at h;cases e:c.pa with
 |none=>rw[e]at h;cases h
 |some p=>rw[e]at h;rw[az.1 h];rfl
def qXh (c:Gc.Cm):paN c<=1:=by unfold paN;cases c.pa<;>simp
def rJ {c:Gc.Cm}(h:c.pa=none):paN c=0:=by unfold paN;rw[h]
def zH {c:Gc.Cm}{p:Nat}(h:c.pa=some p):paN c=1:=by unfold paN;rw[h]
def vC {c:Gc.Cm}{p:Nat}(h:c.pa=some p):paI c=[.int .i64 (p:Nat)]:=by unfold paI;rw[h]
def qIf {c:Gc.Cm}(h:c.pa=none):paI c=[]:=by unfold paI;rw[h]
abbrev paH (x:Rw):HP:=sl x.a x.k 3 1 (paN x.c) (paI x.c)
def cmC (l:List Rw):List Value:=l.flatMap fun x=>[.slice x.a (paN x.c) x.k,.int .i64 (x.c.tx:Nat),.string ⟨⟨x.c.nt⟩⟩]
def qD (a b:List Rw):cmC (a++b)=cmC a++cmC b:=yf
def cmC_len (l:List Rw):(cmC l).length=l.length*3:=by
 induction l with
 |nil=>rfl
 |cons x l ih=>unfold cmC at ih ⊢;rw[rz,ae,ih];simp;omega
def qPq {α:Type}{l:List α}{i:Nat}{x:α}(h:l[i]?=some x):l=l.take i++x::l.drop (i+1):=by
 obtain⟨h1,e1⟩:=ag.1 h;have:=ig i l;rw[lg h1,e1]at this;exact this.symm
def qPg {l:List Rw}{i:Nat}{x:Rw}(h:l[i]?=some x)(o:Nat)(ho:o=i*3):(cmC l)[o]?=some (.slice x.a (paN x.c) x.k)/\(cmC l)[o+1]?=some (.int .i64 (x.c.tx:Nat))/\(cmC l)[o+2]?=some (.string ⟨⟨x.c.nt⟩⟩):=by
 subst ho
 have hl:(cmC (l.take i)).length=i*3:=by
  rw[cmC_len,fw];have:=(ag.1 h).1;rw[kv oO]
 rw[qPq h,qD];have e:cmC (x::l.drop (i+1))= .slice x.a (paN x.c) x.k:: .int .i64 (x.c.tx:Nat):: .string ⟨⟨x.c.nt⟩⟩::cmC (l.drop (i+1)):=rfl;rw[e];refine⟨?_,?_,?_⟩
 ·rw[bq oO,hl,qg];rfl
 ·rw[bq oO,hl,show i*3+1-i*3=1 by omega];rfl
 rw[bq oO,hl,show i*3+2-i*3=2 by omega];rfl
structure GrI (G:List Gc.Cm)where
 p:Option Addr
 k:Nat
 l:List Rw
 is:l.map (·.c)=G
def GrI.len {G:List Gc.Cm}(i:GrI G):i.l.length=G.length:=by
 obtain⟨p,k,l,rfl⟩:=i;simp
def GrI.at {G:List Gc.Cm}(i:GrI G){n:Nat}{c:Gc.Cm}(h:G[n]?=some c):∃x,i.l[n]?=some x/\x.c=c:=by
 have h':(i.l.map (·.c))[n]?=some c:=by rw[i.is];exact h
 rw[bu]at h';cases hx:i.l[n]? with
 |none=>rw[hx]at h';cases h'
 |some x=>rw[hx]at h';exact⟨x,rfl,mg h'⟩
def grP (g:Nat)(G:List Gc.Cm):HP:=fun k=>∃i:GrI G,dS [cells g [.slice i.p i.l.length i.k] 162,sl i.p i.k 71 3 i.l.length (cmC i.l),dS (i.l.map paH)] k
def pO {g:Nat}{G:List Gc.Cm}:∀k,grP g G k->∃i:GrI G,dS [cells g [.slice i.p i.l.length i.k] 162,sl i.p i.k 71 3 i.l.length (cmC i.l),dS (i.l.map paH)] k:=fun _ h=>h
def mJ {g:Nat}{G:List Gc.Cm}{p:Option Addr}{c:Nat}{l:List Rw}(h:l.map (·.c)=G):∀k,dS [cells g [.slice p l.length c] 162,sl p c 71 3 l.length (cmC l),dS (l.map paH)] k->grP g G k:=fun _ hk=>⟨⟨p,c,l,h⟩,hk⟩
def qBh {l:List Rw}{i:Nat}{x:Rw}(h:l[i]?=some x):∀k,dS (l.map paH) k->dS [paH x,dS ((l.take i++l.drop (i+1)).map paH)] k:=fun k hk=>by
 rw[qPq h,jh,jr]at hk;have:=qMe hk;rw[<-jh]at this;exact kW (l:=[paH x]) this
def vB {l:List Rw}{i:Nat}{x:Rw}(h:l[i]?=some x):∀k,dS [paH x,dS ((l.take i++l.drop (i+1)).map paH)] k->dS (l.map paH) k:=fun k hk=>by
 have:=nK (l:=[paH x]) hk;rw[jh]at this;conv=>arg 1;rw[qPq h,jh,jr]
 exact qEa this
def qBi {l:List Rw}{x:Rw}:∀k,dS [dS (l.map paH),paH x] k->dS ((l++[x]).map paH) k:=fun k h=>by
 obtain⟨h1,h2,d,e,hl,hx⟩:=h;rw[jh,e];exact kX hl hx d
def qHg (hE:Seat E):Ct E 26 [] [] (fun v Q=>∃g,v=uPt g/\Q=[grP g []]):=by
 refine bO (hE.fn Tryz.func26) O O O (fun R=>?_);simp only[dQ,uV,uW];refine gg8 ?_;refine uU ?_;refine gW O (fun b2=>?_);refine gg4 ?_;apply cK
 ·rfl
 ·(apply Rs.tmp rfl;exact Rs.nil)
 ·exact⟨_,O,O⟩
 exact cZ (cZ fV qTb) (fH uK (mJ (l:=[]) O))
def qHd (hE:Seat E){g n c m:Nat}{p:Option Addr}(hm:m<n):Ct E 62 [uPt g,.int .i64 (m:Nat)] [cells g [.slice p n c] 162] (fun v Q=>v= .bool true/\Q=[cells g [.slice p n c] 162]):=by
 refine bO (hE.fn Tryz.func62) O O O (fun R=>?_);simp only[dQ,uV,uW];refine gg29 ?_;exact uZ O (.tmp O .nil) ⟨bg Value.bool (lq oO),O⟩
def wS (hE:Seat E)(x:Rw):Ct E 64 [.slice x.a (paN x.c) x.k] [paH x] (fun v Q=>∃y:Rw,y.c=x.c/\v= .slice y.a (paN y.c) y.k/\Q=[paH x,paH y]):=by
 obtain⟨cm,a,k⟩:=x;simp only;refine dW (p:=paH ⟨cm,a,k⟩) uK (fun _ h=>fun hpos=>dX h hpos) (fun hf=>?_);have hle:=qXh cm;have hln:=paI_len cm;cases a with
 |none=>
  have h0:paN cm=0:=by
   rcases fu (paN cm)with e| e
   ·exact e
   obtain⟨g,hg⟩:=hf e;cases hg
  have h1:paI cm=[]:=cz oO
  refine bO (hE.fn Tryz.func64) O O O (fun R=>?_)
  simp only[dQ,uV,uW]
  refine gg20 ?_
  apply cK
  ·rfl
  ·(apply Rs.tmp rfl;exact Rs.nil)
  ·exact⟨⟨cm,none,0⟩,O,by rw[h0];rfl,rfl⟩
  simp only[paH,h0,h1]
  exact cZ fV uI
 |some a=>
  have hb1:(0+(paI cm).length)*8<=140737488355328:=oO
  have hb2:0+(paI cm).length<=maxLen:=by unfold maxLen;omega
  have hq:Rdb E.w0 (some a) (paI cm) (paH ⟨cm,some a,k⟩):=rdb_slG hln (fun h=>hf h)
  refine bO (hE.fn Tryz.func64) O O O (fun R=>?_)
  simp only[dQ,uV,uW]
  refine gg17 ?_
  refine uU ?_
  refine qEv (hE.t O) (fun b5=>?_)
  refine gg1 ?_
  refine uU ?_
  refine xO (us:=paI cm) (q:=paH ⟨cm,some a,k⟩) (hE.t O) (hE.t O) O O O hln.symm hq uK uK (paI_one cm) hb1 hb2 (fun pt ct m9 x9 hm9 hx9=>?_)
  obtain rfl:m9=paN cm:=by omega
  obtain rfl:x9=paI cm:=by rw[hx9];rfl
  refine gg4 ?_
  exact uZ O (.tmp O .nil) ⟨⟨cm,pt,ct⟩,O,O,O⟩
end
section
variable {E:Env}
def qUn (hE:Seat E){p:Option Addr}{c:Nat}{m:Int}:Ct E 95 [.slice p 0 c,.int .i64 m] [] (fun v Q=>v= .int .i64 (-1)/\Q=[]):=by
 refine bO (hE.fn Tryz.func95) O O O (fun R=>?_);simp only[dQ,uV,uW];refine gg14 ?_;refine fT 1 ?_;refine gg19 ?_;exact uZ O (.tmp O .nil) ⟨O,O⟩
def qKh (hE:Seat E){p:Option Addr}{c:Nat}{m:Int}:Ct E 63 [.slice p 0 c,.int .i64 m] [] (fun v Q=>v= .bool false/\Q=[]):=by
 refine bO (hE.fn Tryz.func63) O O O (fun R=>?_);simp only[dQ,uV,uW];refine gg9 ?_;refine uX (qUn hE) O ?_;rintro _ _⟨rfl,rfl⟩;simp only[uV,uW];refine gg5 ?_;exact uZ O (.tmp O .nil) ⟨O,O⟩
def qMy (hE:Seat E){g:Nat}{G:List Gc.Cm}{x:Rw}(hp:∀p,x.c.pa=some p->p<G.length) (hn:x.c.nt.length<=200) (hl:G.length<65536):
  Ct E 28 [uPt g,.agg #[.slice x.a (paN x.c) x.k,.int .i64 (x.c.tx:Nat),.string ⟨⟨x.c.nt⟩⟩]] [grP g G,paH x] (fun v Q=>v= .tuple #[.int .i64 (G.length:Nat),.nilIface]/\Q=[grP g (G++[x.c]),paH x]):=by
 refine Sl.ct_open pO (fun i=>?_);obtain⟨p,kk,l,his⟩:=i;have hll:l.length=G.length:=by rw[<-his,ic]
 obtain⟨⟨pa,tx,nt⟩,a,k⟩:=x;simp only[uV,uW]at hp hn ⊢;cases pa with
 |none=>
  have e0:paN ⟨none,tx,nt⟩=0:=rfl
  refine bO (hE.fn Tryz.func28) O O O (fun R=>?_)
  simp only[dQ,uV,uW]
  rw[e0]
  refine gg2 ?_
  refine uU ?_
  refine gW O (fun b3=>?_)
  refine gg32 ?_
  refine l_eq 23 (.bool false) O (bg Value.bool (ma (by have:(⟨⟨nt⟩⟩:ByteArray).size=nt.length:=rfl;omega))) ?_
  refine gg22 ?_
  refine fT 1 ?_
  refine gg23 ?_
  refine fT 1 ?_
  refine gg24 ?_
  refine bE O (fun h6=>?_) (fun h6=>?_)
  ·exfalso;omega
  refine gg6 ?_
  refine uX (wS hE ⟨⟨none,tx,nt⟩,a,k⟩) O ?_
  rintro _ _⟨⟨cm2,a2,k2⟩,hc2,rfl,rfl⟩
  simp only at hc2
  subst hc2
  simp only[uV,uW]
  refine gg5 ?_
  refine uN 10 ([cells g [.slice p l.length kk] 162,cells b3 [.slice a2 (paN ⟨none,tx,nt⟩) k2,.int .i64 (tx:Nat),.string ⟨⟨nt⟩⟩] 71]) ?_
  refine gg5 ?_
  apply dG 5 O oK
  ·(apply bV rfl (hE.t rfl) rfl;(repeat(first |rfl|assumption|constructor));done)
  ·rfl
  apply eG 6 O oK O
  refine aU (hE.t O) (hE.t O) O O O (fun b75=>?_)
  refine uE ?_
  apply eG 7 O oK O
  apply bU (hE.t O) (hE.t O) O O O
  ·exact uK
  ·exact uK
  ·rfl
  ·rfl
  ·omega
  ·omega
  ·(unfold maxLen;omega)
  intro g76 c76 n76 x76 hn76 hx76
  refine uE ?_
  apply dG 8 O oK
  ·exact bA O
  ·rfl
  apply dG 9 O oK
  ·exact uBf O
  ·rfl
  apply fU O oK oK O
  (first |(apply bL rfl rfl (hE.t rfl) rfl;(focus((repeat constructor);done));(focus rfl);(focus(exact bn rfl)))|(apply aS rfl rfl (hE.t rfl) rfl;(focus((repeat constructor);done));(focus rfl);(focus(first |omega |(simp only[bP,aN,bf,dz];omega)))))
  refine gg14 ?_
  obtain rfl:n76=(l++[(⟨⟨none,tx,nt⟩,a2,k2⟩:Rw)]).length:=by rw[ae,ay];omega
  obtain rfl:x76=cmC (l++[(⟨⟨none,tx,nt⟩,a2,k2⟩:Rw)]):=by rw[hx76,qD];rfl
  apply cK
  ·rfl
  ·(apply Rs.tmp rfl;apply Rs.tmp rfl;exact Rs.nil)
  ·exact⟨bg (fun z=>Value.tuple #[.int .i64 z,.nilIface]) (by rw[ae,ay];omega),O⟩
  refine cZ (fH (ps:=[dS (l.map paH),paH ⟨⟨none,tx,nt⟩,a2,k2⟩]) (p:=dS ((l++[(⟨⟨none,tx,nt⟩,a2,k2⟩:Rw)]).map paH)) uK qBi) ?_
  refine cZ (fH (ps:=[cells g [.slice (some ⟨g76,0,none⟩) (l++[(⟨⟨none,tx,nt⟩,a2,k2⟩:Rw)]).length c76] 162,sl (some ⟨g76,0,none⟩) c76 71 3 (l++[(⟨⟨none,tx,nt⟩,a2,k2⟩:Rw)]).length (cmC (l++[(⟨⟨none,tx,nt⟩,a2,k2⟩:Rw)])),dS ((l++[(⟨⟨none,tx,nt⟩,a2,k2⟩:Rw)]).map paH)]) (p:=grP g (G++[⟨none,tx,nt⟩])) uK (mJ (by rw[jh,his];rfl))) ?_
  exact uI
 |some q=>
  refine dW (p:=paH ⟨⟨some q,tx,nt⟩,a,k⟩) uK (fun _ h=>dX h Nat.one_pos) ?_
  rintro⟨ga,rfl⟩
  have hq:=hp q O
  have f0:(paI ⟨some q,tx,nt⟩)[(0+((0:Int)).toNat)]?=some (.int .i64 (q:Nat)):=rfl
  have e0:paN ⟨some q,tx,nt⟩=1:=rfl
  refine bO (hE.fn Tryz.func28) O O O (fun R=>?_)
  simp only[dQ,uV,uW]
  rw[e0]
  refine gg2 ?_
  refine uU ?_
  refine gW O (fun b3=>?_)
  refine gg32 ?_
  refine l_eq 23 (.bool false) O (bg Value.bool (ma (by have:(⟨⟨nt⟩⟩:ByteArray).size=nt.length:=rfl;omega))) ?_
  refine gg22 ?_
  refine fT 2 ?_
  refine gg23 ?_
  refine uX (qHd (n:=l.length) hE (m:=q) oO) O ?_
  rintro _ _⟨rfl,rfl⟩
  simp only[uV,uW]
  refine gg35 ?_
  refine fT 2 ?_
  refine gg26 ?_
  refine uB (fK 0 O O (hE.t O) O (au _)) ?_
  refine gg1 ?_
  refine uX (qKh hE) O ?_
  rintro _ _⟨rfl,rfl⟩
  simp only[uV,uW]
  refine gg35 ?_
  refine bE O (fun h6=>?_) (fun h6=>?_)
  ·exfalso;omega
  refine gg6 ?_
  refine uX (wS hE ⟨⟨(some q),tx,nt⟩,(some ⟨ga,0,none⟩),k⟩) O ?_
  rintro _ _⟨⟨cm2,a2,k2⟩,hc2,rfl,rfl⟩
  simp only at hc2
  subst hc2
  simp only[uV,uW]
  refine gg5 ?_
  refine uN 10 ([cells g [.slice p l.length kk] 162,cells b3 [.slice a2 (paN ⟨(some q),tx,nt⟩) k2,.int .i64 (tx:Nat),.string ⟨⟨nt⟩⟩] 71]) ?_
  refine gg5 ?_
  apply dG 5 O oK
  ·(apply bV rfl (hE.t rfl) rfl;(repeat(first |rfl|assumption|constructor));done)
  ·rfl
  apply eG 6 O oK O
  refine aU (hE.t O) (hE.t O) O O O (fun b75=>?_)
  refine uE ?_
  apply eG 7 O oK O
  apply bU (hE.t O) (hE.t O) O O O
  ·exact uK
  ·exact uK
  ·rfl
  ·rfl
  ·omega
  ·omega
  ·(unfold maxLen;omega)
  intro g76 c76 n76 x76 hn76 hx76
  refine uE ?_
  apply dG 8 O oK
  ·exact bA O
  ·rfl
  apply dG 9 O oK
  ·exact uBf O
  ·rfl
  apply fU O oK oK O
  (first |(apply bL rfl rfl (hE.t rfl) rfl;(focus((repeat constructor);done));(focus rfl);(focus(exact bn rfl)))|(apply aS rfl rfl (hE.t rfl) rfl;(focus((repeat constructor);done));(focus rfl);(focus(first |omega |(simp only[bP,aN,bf,dz];omega)))))
  refine gg14 ?_
  obtain rfl:n76=(l++[(⟨⟨(some q),tx,nt⟩,a2,k2⟩:Rw)]).length:=by rw[ae,ay];omega
  obtain rfl:x76=cmC (l++[(⟨⟨(some q),tx,nt⟩,a2,k2⟩:Rw)]):=by rw[hx76,qD];rfl
  apply cK
  ·rfl
  ·(apply Rs.tmp rfl;apply Rs.tmp rfl;exact Rs.nil)
  ·exact⟨bg (fun z=>Value.tuple #[.int .i64 z,.nilIface]) (by rw[ae,ay];omega),O⟩
  refine cZ (fH (ps:=[dS (l.map paH),paH ⟨⟨(some q),tx,nt⟩,a2,k2⟩]) (p:=dS ((l++[(⟨⟨(some q),tx,nt⟩,a2,k2⟩:Rw)]).map paH)) uK qBi) ?_
  refine cZ (fH (ps:=[cells g [.slice (some ⟨g76,0,none⟩) (l++[(⟨⟨(some q),tx,nt⟩,a2,k2⟩:Rw)]).length c76] 162,sl (some ⟨g76,0,none⟩) c76 71 3 (l++[(⟨⟨(some q),tx,nt⟩,a2,k2⟩:Rw)]).length (cmC (l++[(⟨⟨(some q),tx,nt⟩,a2,k2⟩:Rw)])),dS ((l++[(⟨⟨(some q),tx,nt⟩,a2,k2⟩:Rw)]).map paH)]) (p:=grP g (G++[⟨(some q),tx,nt⟩])) uK (mJ (by rw[jh,his];rfl))) ?_
  exact uI
def vO (hE:Seat E){g n:Nat}{G:List Gc.Cm}{c:Gc.Cm}(hc:G[n]?=some c)(hl:G.length<=65536):
  Ct E 34 [uPt g,.int .i64 (n:Nat)] [grP g G] (fun v Q=>∃y:Rw,y.c=c/\v= .tuple #[.agg #[.slice y.a (paN y.c) y.k,.int .i64 (y.c.tx:Nat),.string ⟨⟨y.c.nt⟩⟩],.nilIface]/\Q=[grP g G,paH y]):=by
 have hnl:=(ag.1 hc).1;refine Sl.ct_open pO (fun i=>?_);have hil:=i.len;obtain⟨x,hx,rfl⟩:=i.at hc;obtain⟨p,kk,l,his⟩:=i;simp only[uV,uW]at hx hil ⊢;refine dW (p:=sl p kk 71 3 l.length (cmC l)) uK (fun _ h=>dX h oO) ?_;rintro⟨gl,rfl⟩;obtain⟨f0,f1,f2⟩:=qPg hx (0+((n:Nat):Int).toNat*3) oO;refine bO (hE.fn Tryz.func34) O O O (fun R=>?_);simp only[dQ,uV,uW];refine gg2 ?_;refine uU (dA (hE.t O) (fun b4=>?_));refine gg18 ?_;refine uX (qHd (n:=l.length) hE (m:=n) oO) O ?_;rintro _ _⟨rfl,rfl⟩;simp only[uV,uW];refine gg15 ?_;refine uU (dA (hE.t O) (fun b6=>?_));refine gg3 ?_;refine yI (p:=dS (l.map paH)) (ps:=fun _:Unit=>[paH x,dS ((l.take n++l.drop (n+1)).map paH)]) uK (fun k h=>⟨(),qBh hx k h⟩) ?_;intro _;simp only[uV,uW];refine gg4 ?_;refine uX (wS hE x) O ?_;rintro _ _⟨⟨cm2,a2,k2⟩,hc2,rfl,rfl⟩;simp only at hc2;subst hc2;simp only[uV,uW];refine gg12 ?_;apply cK
 ·rfl
 ·((apply Rs.cell rfl (hE.t rfl) rfl;(focus((repeat(first |rfl|assumption|constructor));done)));apply Rs.tmp rfl;exact Rs.nil)
 ·exact⟨⟨x.c,a2,k2⟩,O,O,O⟩
 refine cZ (fH (ps:=[paH x,dS ((l.take n++l.drop (n+1)).map paH)]) (p:=dS (l.map paH)) uK (vB hx)) ?_;refine cZ (fH (ps:=[cells g [.slice (some ⟨gl,0,none⟩) l.length kk] 162,sl (some ⟨gl,0,none⟩) kk 71 3 l.length (cmC l),dS (l.map paH)]) (p:=grP g G) uK (mJ his)) ?_;exact uI
end
section
variable {E:Env}
structure LnG where
 m:Nat
 A:List Nat
 p:Option Addr
 c:Nat
def qPm (hE:Seat E){g n:Nat}{G:List Gc.Cm}(hok:Gc.Ok G)(hn:n<G.length)(hl:G.length<=65536):
  Ct E 33 [uPt g,.int .i64 (n:Nat)] [grP g G] (fun v Q=>∃p c,v= .tuple #[.slice p (Gc.lineG G n).length c,.nilIface]/\Q=[grP g G,sl p c 3 1 (Gc.lineG G n).length (idC (Gc.lineG G n))]):=by
 refine Sl.ct_open pO (fun i=>?_);have hil:=i.len;have hat:∀(m:Nat),m<G.length->∃x,i.l[m]?=some x/\x.c=Gc.cmAt G m:=fun m hm=>i.at (Gc.cmAt_some hm)
 obtain⟨p,kk,l,his⟩:=i;simp only[uV,uW]at hil hat ⊢;refine dW (p:=sl p kk 71 3 l.length (cmC l)) uK (fun _ h=>dX h oO) ?_;rintro⟨gl,rfl⟩;have hlen:=Gc.line_len hok n;refine bO (hE.fn Tryz.func33) O O O (fun R=>?_);simp only[dQ,uV,uW];refine gg21 ?_;refine uX (qHd (n:=l.length) hE (m:=n) oO) O ?_;rintro _ _⟨rfl,rfl⟩;simp only[uV,uW];refine gg9 ?_;refine uU ?_;refine aU (hE.t O) (hE.t O) O O O (fun b16=>?_);refine gg5 ?_;refine gF (cO (p:=cells b16 [.int .i64 (n:Nat)] 3) (p':=sl (some ⟨b16,0,none⟩) 1 3 1 1 (idC [n])) uK (gP O (by unfold maxLen;omega))) ?_;refine dV (fun x:LnG=>[(0,uPt g),(1,.int .i64 (x.m:Nat)),(6,.slice x.p x.A.length x.c)]) (fun x=>[cells g [.slice (some ⟨gl,0,none⟩) l.length kk] 162,sl (some ⟨gl,0,none⟩) kk 71 3 l.length (cmC l),dS (l.map paH),sl x.p x.c 3 1 x.A.length (idC x.A),R]) (fun x=>x.m) (fun x=>Gc.lineG G n=x.A++(Gc.lineG G x.m).tail/\x.m<G.length) ⟨n,[n],some ⟨b16,0,none⟩,1⟩ ⟨by rw[Gc.lineG_eq hok n];rfl,hn⟩ ⟨rfl,rfl,rfl,trivial⟩ uI ?_;rintro⟨m,A,pa,ca⟩⟨hA,hm⟩;simp only at hA hm ⊢
 have hAl:A.length<=65536:=by
  have:=bg List.length hA;rw[ae]at this;omega
 obtain⟨⟨cm,a,k⟩,hx,hcm⟩:=hat m hm;simp only at hcm;obtain⟨f0,f1,f2⟩:=qPg hx (0+((m:Nat):Int).toNat*3) oO;simp only at f0 f1 f2;have hpg:Gc.paG G m=cm.pa:=by unfold Gc.paG;rw[Gc.cmAt_some hm,<-hcm];rfl
 have hpn:=qXh cm;refine gg15 ?_;refine bE O (fun h1=>?_) (fun h1=>?_)
 ·obtain⟨q,hq⟩:∃q,cm.pa=some q:=by
   cases e:cm.pa with
   |none=>rw[rJ e]at h1;omega
   |some q=>exact⟨q,rfl⟩
  have hqm:=Gc.paG_lt hok (hpg.trans hq);have hn1:=zH hq;refine yI (p:=dS (l.map paH)) (ps:=fun _:Unit=>[paH ⟨cm,a,k⟩,dS ((l.take m++l.drop (m+1)).map paH)]) uK (fun k h=>⟨(),qBh hx k h⟩) ?_;intro _;simp only[uV,uW];refine iY (p:=paH ⟨cm,a,k⟩) uK (fun _ h=>dX h (by simp only;omega)) ?_;rintro⟨ga,hga⟩;simp only at hga;subst hga;have f3:(paI cm)[0+((0:Int)).toNat]?=some (.int .i64 (q:Nat)):=by rw[vC hq];rfl
  refine gg21 ?_;refine uU ?_;refine aU (hE.t O) (hE.t O) O O O (fun b39=>?_);refine uU ?_;apply bU (hE.t O) (hE.t O) O O O
  ·exact uK
  ·exact uK
  ·rfl
  ·rfl
  ·omega
  ·omega
  ·(unfold maxLen;omega)
  intro g40 c40 n40 x40 hn40 hx40;refine gg3 ?_;obtain rfl:n40=(A++[q]).length:=by rw[ae,ay];omega
  obtain rfl:x40=idC (A++[q]):=by rw[hx40,gZ];rfl
  refine bS (ι:=LnG) (j:=⟨q,A++[q],some ⟨g40,0,none⟩,c40⟩) ⟨?_,by simp only;omega⟩ (by simp only;omega) ⟨rfl,rfl,rfl,trivial⟩ (by
   refine cZ (fH (ps:=[paH ⟨cm,some ⟨ga,0,none⟩,k⟩,dS ((l.take m++l.drop (m+1)).map paH)]) (p:=dS (l.map paH)) uK (vB hx)) ?_;(apply ent;(repeat constructor);done))
  simp only;rw[hA,Gc.line_some hok (hpg.trans hq),Gc.lineG_eq hok q];simp
 have hq:cm.pa=none:=by
  cases e:cm.pa with
  |none=>rfl
  |some q=>rw[zH e]at h1;omega
 have hAA:Gc.lineG G n=A:=by rw[hA,Gc.line_none hok (hpg.trans hq)];simp
 refine gg13 ?_;apply cK
 ·rfl
 ·(apply Rs.tmp rfl;apply Rs.tmp rfl;exact Rs.nil)
 ·exact⟨pa,ca,by rw[hAA];rfl,rfl⟩
 rw[hAA];refine cZ (fH (ps:=[cells g [.slice (some ⟨gl,0,none⟩) l.length kk] 162,sl (some ⟨gl,0,none⟩) kk 71 3 l.length (cmC l),dS (l.map paH)]) (p:=grP g G) uK (mJ his)) ?_;exact uI
end
