import Derived.Test.YtnicahfnolhgbaaGreatDoorQ00
import Derived.Below
import Derived.Handy
import Derived.Laws.EntriesVeiled
import Derived.OrdersHeld
import Derived.StillTail
import Derived.Test.YtnicahfnolhgbaaGreatDoorProg
import Derived.WalkKit
import Derived.WalkLawsBesides
import Derived.WalkSpells
set_option linter.all false
set_option maxHeartbeats 1000000
namespace Sl
section
open Go Go.RowKit

abbrev PH:=Nat->Option Obj
abbrev HP:=PH->Prop
def join (h k:PH):PH:=fun b=>(h b).or (k b)
def Iu (h k:PH):Prop:=∀b,h b=none\/k b=none
def UH (p q:HP):HP:=fun h=>∃h1 h2,Iu h1 h2/\h=join h1 h2/\p h1/\q h2
def dW:List HP->HP
 |[]=>fun _=>True
 |p::r=>UH p (dW r)

def Iu.symm {h k}(d:Iu h k):Iu k h:=fun b=>(d b).symm
def tJ {h k b o}(e:h b=some o):join h k b=some o:=by simp[join,e]
def kZ {h k b o}(d:Iu h k)(e:k b=some o):join h k b=some o:=by
 rcases d b with e'|e'
 ·simp[join,e',e]
 rw[e]at e';cases e'
def kS {h k b}:join h k b=none↔h b=none/\k b=none:=by
 cases e:h b<;>simp[join,e]

def zG:∀{l:List HP}{h h':PH},dW l h->(∀b o,h b=some o->h' b=some o)->dW l h'
 |[],_,_,_,_=>trivial
 |_::_,h,h',⟨h1,h2,d,e,hp,hq⟩,hh=>by
  refine⟨h1,fun b=>if(h1 b).isSome then none else h' b,?_,?_,hp,zG hq ?_⟩
  ·intro b;cases e1:h1 b with
   |none=>exact .inl rfl
   |some o=>exact .inr (by simp[e1])
  ·funext b;cases e1:h1 b with
   |none=>simp[join,e1]
   |some o=>simp[join,e1];exact hh b o (by rw[e];exact tJ e1)
  intro b o e2;rcases d b with e1|e1
  ·simp[e1];exact hh b o (by rw[e];exact kZ d e2)
  rw[e2]at e1;cases e1

def Wh {p l h}:dW (p::l) h->dW l h:=fun⟨_,_,d,e,_,hq⟩=>
 zG hq (fun b o e2=>by rw[e];exact kZ d e2)

def gK {p q l h}:dW (p::q::l) h->dW (q::p::l) h:=by
 rintro⟨h1,h2,d,e,hp,h3,h4,d',e',hq,hl⟩;subst e'
 have d1:Iu h1 h3:=fun b=>by
  rcases d b with x| x
  ·exact .inl x
  exact .inr (kS.1 x).1
 have d2:Iu h1 h4:=fun b=>by
  rcases d b with x| x
  ·exact .inl x
  exact .inr (kS.1 x).2
 refine⟨h3,join h1 h4,?_,?_,hq,h1,h4,d2,O,hp,hl⟩
 ·intro b;rcases d' b with x| x
  ·exact .inl x
  rcases d1 b with y| y
  ·exact .inr (kS.2 ⟨y,x⟩)
  exact .inl y
 rw[e];funext b;rcases d1 b with x| x
 ·simp[join,x]
 simp[join,x]

def fG {p l l' h}(hl:∀k,dW l k->dW l' k):dW (p::l) h->dW (p::l') h:=
 fun⟨h1,h2,d,e,hp,hq⟩=>⟨h1,h2,d,e,hp,hl _ hq⟩
def eU {p p' l h}(hp:∀k,p k->p' k):dW (p::l) h->dW (p'::l) h:=
 fun⟨h1,h2,d,e,hA,hq⟩=>⟨h1,h2,d,e,hp _ hA,hq⟩

inductive CO:HP->List HP->List HP->Prop where
 |here {p:HP} {l:List HP}:CO p (p::l) l
 |there {p q:HP} {l l':List HP}:CO p l l'->CO p (q::l) (q::l')
def CO.out {p l l'}(t:CO p l l'):∀{h:PH},dW l h->dW (p::l') h:=by
 induction t with
 |here=>exact fun x=>x
 |there _ ih=>exact fun x=>gK (fG (fun _ y=>ih y) x)
inductive IW:List HP->List HP->List HP->Prop where
 |nil {l:List HP}:IW [] l l
 |cons {p:HP} {ps l l' l'':List HP}:CO p l l'->IW ps l' l''->IW (p::ps) l l''
def IW.out {ps l l'}(s:IW ps l l'):∀{h:PH},dW l h->dW (ps++l') h:=by
 induction s with
 |nil=>exact fun x=>x
 |cons t _ ih=>exact fun x=>fG (fun _ y=>ih y) (t.out x)
def lD {l r h}:dW (l++r) h->dW (l++[dW r]) h:=by
 induction l generalizing h with
 |nil=>exact fun x=>⟨h,fun _=>none,fun _=> .inr rfl,by funext b;simp[join],x,trivial⟩
 |cons p l ih=>exact fG (fun _=>ih)
def qX {l r h}:dW (l++[dW r]) h->dW (l++r) h:=by
 induction l generalizing h with
 |nil=>rintro⟨h1,h2,d,e,hp,_⟩;exact zG hp (fun b o x=>by rw[e];exact tJ x)
 |cons p l ih=>exact fG (fun _=>ih)
def qUz {l r h}:dW (l++[r]) h->dW l h:=by
 induction l generalizing h with
 |nil=>exact fun _=>trivial
 |cons p l ih=>exact fG (fun _=>ih)

def mW (w0 w:World):PH:=fun b=>if b<w0.heap.size then none else w.heap[b]?
structure CR (w0 w:World)(H:List HP):Prop where
 os:w.os=w0.os
 tape:w.tape=w0.tape
 output:w.output=w0.output
 size:w0.heap.size<=w.heap.size
 old:∀b,b<w0.heap.size->w.heap[b]?=w0.heap[b]?
 hp:dW H (mW w0 w)
variable {w0 w w':World}{H H':List HP}
def CR.imp (s:CR w0 w H)(h:∀k,dW H k->dW H' k):CR w0 w H':=⟨s.os,s.tape,s.output,s.size,s.old,h _ s.hp⟩
def CR.grow (s:CR w0 w H)(b:Below w.heap.size w w'):CR w0 w' H:=
 ⟨b.os.trans s.os,b.tape.trans s.tape,b.output.trans s.output,jv s.size b.size,fun k hk=>(b.block k (mi hk s.size)).trans (s.old k hk),
  zG s.hp (fun k o e=>by
   unfold mW at*;split at e
   ·cases e
   rename_i hk
   rw[if_neg hk,b.block k (ic.1 e).1];exact e)⟩
def CR.drew (s:CR w0 w H):CR w0 w.drew H:=⟨s.os,s.tape,s.output,s.size,s.old,s.hp⟩
def CR.old_cell (s:CR w0 w H){a v}(h:w0.cell? a=some v):w.cell? a=some v:=by
 rw[World.cell?_of_block (w:=w0) (s.old _ (World.block_lt_of_cell? w0 a h))];exact h

def pt (b:Nat)(o:Obj):HP:=fun h=>h b=some o
def cells (b:Nat)(vs:List Value)(t:TypeId):HP:=pt b (.cells ⟨vs⟩ t (0,0))

def CR.ptr {b o}(s:CR w0 w (pt b o::H)):w.heap[b]?=some o/\w0.heap.size<=b:=by
 obtain⟨h1,h2,d,e,hp,hq⟩:=s.hp;have:=congrFun e b;rw[tJ hp]at this;unfold mW at this;split at this
 ·cases this
 exact⟨this,oO⟩
def CR.write {b o o'}(s:CR w0 w (pt b o::H))(hw:w'.os=w.os/\w'.tape=w.tape/\w'.output=w.output/\w'.heap.size=w.heap.size)
  (hb:w'.heap[b]?=some o') (ho:∀k,k≠b->w'.heap[k]?=w.heap[k]?):CR w0 w' (pt b o'::H):=by
 obtain⟨e1,e2⟩:=s.ptr;refine⟨hw.1.trans s.os,hw.2.1.trans s.tape,hw.2.2.1.trans s.output,by rw[hw.2.2.2];exact s.size,fun k hk=>(ho k oO).trans (s.old k hk),?_⟩;obtain⟨h1,h2,d,e,hp,hq⟩:=s.hp;have hA:h1 b=some o:=hp
 have hB:h2 b=none:=by
  rcases d b with x| x
  ·rw[hA]at x;cases x
  exact x
 refine⟨fun k=>if k=b then some o' else h1 k,h2,?_,?_,by simp[pt],hq⟩
 ·intro k;by_cases hk:k=b
  ·subst hk;exact .inr hB
  simp only[hk,if_false];exact d k
 funext k;by_cases hk:k=b
 ·subst hk;simp[mW,join,hb];omega
 have:=congrFun e k;simp only[mW,join]at this ⊢;rw[ho k hk,this];simp[hk]
def CR.new (s:CR w0 w H)(o:Obj):CR w0 (w.alloc o) (pt w.heap.size o::H):=by
 refine⟨s.os,s.tape,s.output,jv s.size BF,fun b hb=>by rw[heap_alloc_old w o (mi hb s.size)];exact s.old b hb,?_⟩;refine⟨fun k=>if k=w.heap.size then some o else none,mW w0 w,?_,?_,by simp[pt],s.hp⟩
 ·intro k;by_cases hk:k=w.heap.size
  ·right;unfold mW;have:=s.size;rw[if_neg oO];simp[hk]
  left;simp[hk]
 funext k;have h0:=s.size;by_cases hk:k=w.heap.size
 ·subst hk;simp only[mW,join,if_true,Option.some_or];rw[if_neg oO];exact heap_alloc_new w o
 simp only[mW,join,hk,if_false,Av];split
 ·rfl
 by_cases hA:k<w.heap.size
 ·exact heap_alloc_old w o hA
 have h1:(w.alloc o).heap.size=w.heap.size+1:=by simp
 rw[qh oO,qh oO]
def CR.take {p H}(s:CR w0 w H)(t:CO p H H'):CR w0 w (p::H'):=s.imp fun _=>t.out
def CR.sub {ps l'}(s:CR w0 w H)(t:IW ps H l'):CR w0 w (ps++l'):=s.imp fun _=>t.out
def CR.cell {b vs}{t:TypeId}(s:CR w0 w (cells b vs t::H))(i:Nat){v}(hv:vs[i]?=some v):w.cell? ⟨b,i,none⟩=some v:=by
 simp[World.cell?,(s.ptr).1,hv]
def CR.free {b vs}{t:TypeId}(s:CR w0 w (cells b vs t::H))(i:Nat):w.frozen? ⟨b,i,none⟩=false:=by
 simp[World.frozen?,(s.ptr).1]
def CR.setCell {b vs}{t:TypeId}(s:CR w0 w (cells b vs t::H))(i:Nat)(v:Value):CR w0 (w.setCell ⟨b,i,none⟩ v) (cells b (vs.set i v) t::H):=by
 have e:=(s.ptr).1;refine CR.write s ⟨O,O,O,by simp⟩ ?_ (fun k hk=>Below.heap_setCell _ _ _ _ hk);simp[World.setCell,qj,e]

end
section
open Go Go.RowKit

inductive TK where
 |bool
 |int (k:IntKind)
 |struct (fields:List (Nat×Nat))
 |slice (elem:TypeId) (size bytes:Nat)
 |array (len:Nat) (elem:TypeId) (size:Nat)
 |string
 |iface
 |map (k e:TypeId)
 |ptr (e:TypeId)
structure TI where
 kind:TK
 size:Nat
 zero:List Value
def QW (P:Program)(t:TypeId):Nat:=match P.info? t with |some j=>j.size|none=>0
def TK.holds (P:Program)(t:TypeId):TK->Bool
 | .bool=>match P.underlying t with |some .bool=>true|_=>false
 | .int k=>match P.underlying t with |some (.int k')=>k==k'|_=>false
 | .string=>match P.underlying t with |some .string=>true|_=>false
 | .iface=>match P.underlying t with |some (.interface _)=>true|_=>false
 | .map k e=>match P.underlying t with |some (.map k' e')=>k==k'&&e==e'|_=>false
 | .ptr e=>match P.underlying t with |some (.pointer e')=>e==e'|_=>false
 | .struct fs=>match P.underlying t with
  |some (.struct gs)=>gs.toList.map (fun g=>(g.offset,QW P g.type))==fs&&fs.all (fun f=>f.2 !=0)&&gs.all (fun g=>(P.info? g.type).isSome)
  |_=>false
 | .slice e s b=>match P.underlying t with
  |some (.slice e')=>e==e'&&(match P.info? e with |some j=>j.size==s&&j.bytes==b|none=>false)
  |_=>false
 | .array n e s=>match P.underlying t with
  |some (.array n' e')=>n==n'&&e==e'&&(match P.info? e with |some j=>j.size==s|none=>false)
  |_=>false
def MC:Value->Value->Bool
 | .bool a,.bool b=>a==b
 | .int k a,.int k' b=>k==k'&&a==b
 | .string a,.string b=>a.data==b.data
 | .pointer none,.pointer none=>true
 | .slice none a b,.slice none c d=>a==c&&b==d
 | .map none,.map none=>true
 | .nilIface,.nilIface=>true
 | .nilFunc,.nilFunc=>true
 |_,_=>false
def ME:∀{a b:Value},MC a b=true->a=b:=by
 intro a b h;unfold MC at h;split at h<;>(try simp_all)
 all_goals (try exact ByteArray.ext h)
def Ie:List Value->List Value->Bool
 |[],[]=>true
 |a::l,b::r=>MC a b&&Ie l r
 |_,_=>false
def qSa:∀{a b:List Value},Ie a b=true->a=b
 |[],[],_=>rfl
 |a::l,b::r,h=>by
  simp only[Ie,ik]at h;rw[ME h.1,qSa h.2]
 |[],_::_,h=>by cases h
 |_::_,[],h=>by cases h
def TI.holds (P:Program)(t:TypeId)(d:TI):Bool:=
 match P.info? t with
 |some i=>i.size==d.size&&d.kind.holds P t&&(match i.zero with |some z=>Ie z.cells.toList d.zero|none=>false)
 |none=>false
def Ps (P:Program)(tab:Nat->Option TI):Prop:=∀t d,tab t=some d->d.holds P t=true

structure Bp where
 P:Program
 w0:World
 tab:Nat->Option TI
 ok:Ps P tab
 mixed:P.follows .mixedOrders=true

abbrev Fr:=List (Nat×Value)
def DJ:Fr->Nat->Option Value
 |[],_=>none
 |(k,v)::r,t=>bif Nat.beq k t then some v else DJ r t
def ev (L:Fr):Operand->Option Value
 | .tmp t=>DJ L t
 | .const v=>some v
 | .global g=>some (.pointer (some ⟨g,0,none⟩))
 | .func f=>some (.func (.func f) #[] #[])
def evs (L:Fr):List Operand->Option (List Value)
 |[]=>some []
 |x::r=>match ev L x,evs L r with
  |some v,some l=>some (v::l)
  |_,_=>none
@[reducible] def Cj (d : Option Nat) (v : Value) (L : Fr) : Fr := match d with | some d => (d, v) :: L | none => L
def Ep (n:Nat):Option Nat->Bool
 |some d=>Nat.blt d n
 |none=>true

variable {E:Bp}{n:Nat}{L L':Fr}{H H':List HP}{Q:Exit->Act->World->Prop}

structure Db (n:Nat)(L:Fr)(a:Act):Prop where
 sz:a.tmps.size=n
 df:a.defers=[]
 fr:∀t v,DJ L t=some v->a.tmps[t]?=some v
structure Dz (E:Bp)(n:Nat)(L:Fr)(H:List HP)(a:Act)(w:World):Prop where
 f:Db n L a
 hp:CR E.w0 w H
def Db.ev {a}(g:Db n L a){x v}(h:ev L x=some v):a.eval x=v:=by
 cases x with
 |tmp t=>simp[Act.eval,g.fr t v h]
 |const u=>simpa[Sl.ev,Act.eval]using h
 |global k=>simpa[Sl.ev,Act.eval]using h
 |func k=>simpa[Sl.ev,Act.eval]using h
def Db.evs {a}(g:Db n L a):∀{xs:List Operand}{vs:List Value},evs L xs=some vs->xs.map a.eval=vs
 |[],vs,h=>by simpa[Sl.evs]using h
 |x::r,vs,h=>by
  simp only[Sl.evs]at h;split at h
  ·rename_i v l h1 h2
   simp at h;subst h;simp[g.ev h1,g.evs h2]
  cases h
def qQ (k:Nat)(v:Value)(r:Fr)(t:Nat):DJ ((k,v)::r) t=if k=t then some v else DJ r t:=by
 simp only[DJ];cases h:Nat.beq k t with
 |true=>simp[mg h]
 |false=>simp[Ae h]
def Db.put {a}(g:Db n L a)(d:Option Nat)(v:Value)(hd:Ep n d=true):Db n (Cj d v L) (a.put d v):=by
 cases d with
 |none=>exact g
 |some d=>
  have hA:d<n:=by simpa[Ep,zo]using hd
  refine⟨by simp[Act.put,g.sz],g.df,fun t u hu=>?_⟩
  simp only[Cj,qQ]at hu
  by_cases hk:d=t
  ·subst hk
   simp only[if_true]at hu
   simp[Act.put,g.sz,hA]
   simpa using hu
  simp only[hk,if_false]at hu
  have:=g.fr t u hu
  simpa[Act.put,oF hk]using this

def WP (E:Bp)(c:Code)(Q:Exit->Act->World->Prop)(n:Nat)(L:Fr)(H:List HP):Prop:=∀a w,Dz E n L H a w->c.wp E.P Q a w
def DI (E:Bp)(all:Array Oper)(Q:Exit->Act->World->Prop)(s:Nat)(l:List Oper)(n:Nat)(L:Fr)(H:List HP):Prop:=∀a w,Dz E n L H a w->wpStill E.P all w (fun a'=>wpList E.P all Q (l.drop s) a' w) (l.take s) a
def AT (E:Bp)(Q:Exit->Act->World->Prop)(e:Exit)(n:Nat)(L:Fr)(H:List HP):Prop:=∀a w,Dz E n L H a w->Q e a w

def aL {x y}(h:WP E x (Exit.then (y.wp E.P Q) Q) n L H):WP E (.seq x y) Q n L H:=fun a w g=>wp_seq (h a w g)
def bC (h:AT E Q .normal n L H):WP E .skip Q n L H:=fun a w g=>wp_skip (h a w g)
def bZ (h:AT E Q .ret n L H):WP E .ret Q n L H:=fun a w g=>wp_ret (h a w g)
def dF {id}(h:AT E Q (.exit id) n L H):WP E (.exit id) Q n L H:=fun a w g=>wp_exit (h a w g)
def bK {id c}(h:WP E c (Exit.inBlock id Q) n L H):WP E (.block id c) Q n L H:=fun a w g=>wp_block (h a w g)
def aJ {id l}(h:DI E l.toArray Q 0 l n L H):WP E (.region id l.toArray false) Q n L H:=fun a w g=>wp_region_lit (h a w g)
def aM {all s}(h:AT E Q .normal n L H):DI E all Q s [] n L H:=fun a w g=>by
 simp only[List.take_nil,List.drop_nil];exact wpStill_nil (wpList_nil (h a w g))
def Ow:Op->Bool
 | .move _| .assign _| .pick ..| .build ..| .load ..| .nilCheck _| .binOp ..| .unOp ..| .convert ..| .makeInterface ..| .slice ..| .fieldAddr ..| .field ..| .indexAddr ..| .index ..| .lookup ..| .extract ..=>true
 | .call {callee:= .builtin .len,..}| .call {callee:= .builtin .cap,..}| .call {callee:= .builtin .min,..}| .call {callee:= .builtin .max,..}=>true
 |_=>false
def cnt:List Oper->Nat
 |[]=>0
 |o::l=>bif Ow o.op then cnt l+1 else 0
def Pz (l:List Oper):Bool:=bif Nat.beq (cnt l) l.length then Region.lexB .any l.toArray else Region.lexTailB .any l.toArray (cnt l)
def PW {id l}(hB:Pz l=true)(h:DI E l.toArray Q (cnt l) l n L H):WP E (.region id l.toArray true) Q n L H:=fun a w g=>by
 have h':=h a _ ⟨g.f,g.hp.drew⟩;unfold Pz at hB;cases hc:Nat.beq (cnt l) l.length with
 |true=>
  rw[hc]at hB
  have e:=mg hc
  rw[e,nu,uj]at h'
  exact wp_region_still_lit E.mixed hB h'
 |false=>
  rw[hc]at hB
  exact wp_region_still_tail _ E.mixed hB h'
def bF {c x y}(hc:ev L c=some (.bool true))(h:WP E x Q n L H):WP E (.cond c x y) Q n L H:=fun a w g=>wp_cond (g.f.ev hc) (h a w g)
def bD {c x y}(hc:ev L c=some (.bool false))(h:WP E y Q n L H):WP E (.cond c x y) Q n L H:=fun a w g=>wp_cond (g.f.ev hc) (h a w g)
def bE {c x y p}[Decidable p](hc:ev L c=some (.bool (decide p)))(h1:p->WP E x Q n L H)(h2:¬p->WP E y Q n L H):WP E (.cond c x y) Q n L H:=fun a w g=>by
 refine wp_cond_split (g.f.ev hc) (fun h=>h1 (by simpa using h) a w g) (fun h=>h2 (by simpa using h) a w g)
def gJ {c x y p}[Decidable p](hc:ev L c=some (.bool (!decide p)))(h1:¬p->WP E x Q n L H)(h2:p->WP E y Q n L H):WP E (.cond c x y) Q n L H:=fun a w g=>by
 refine wp_cond_split (g.f.ev hc) (fun h=>h1 (by simpa using h) a w g) (fun h=>h2 (by simpa using h) a w g)
def sI {c x y b}(hc:ev L c=some (.bool b))(h1:b=true->WP E x Q n L H)(h2:b=false->WP E y Q n L H):WP E (.cond c x y) Q n L H:=fun a w g=>wp_cond_split (g.f.ev hc) (fun h=>h1 h a w g) (fun h=>h2 h a w g)
def aK {y}{Q':Exit->Act->World->Prop}(h:WP E y Q n L H):AT E (Exit.then (y.wp E.P Q) Q') .normal n L H:=h
def aV {K:Act->World->Prop}(h:AT E Q .ret n L H):AT E (Exit.then K Q) .ret n L H:=h
def aQ {K:Act->World->Prop}{id}(h:AT E Q (.exit id) n L H):AT E (Exit.then K Q) (.exit id) n L H:=h
def bI {id}(h:AT E Q .normal n L H):AT E (Exit.inBlock id Q) .normal n L H:=h
def bN {id}(h:AT E Q .ret n L H):AT E (Exit.inBlock id Q) .ret n L H:=h
def bH {id}(h:AT E Q .normal n L H):AT E (Exit.inBlock id Q) (.exit id) n L H:=fun a w g=>by simp only[Exit.inBlock,if_true];exact h a w g
def qOf {id j}(hj:Nat.beq j id=false)(h:AT E Q (.exit j) n L H):AT E (Exit.inBlock id Q) (.exit j) n L H:=fun a w g=>by
 simp only[Exit.inBlock,if_neg (Ae hj)];exact h a w g

def wk (L:Fr):Fr->Prop
 |[]=>True
 |(t,v)::r=>DJ L t=some v/\wk L r
def zBs:∀{L':Fr},wk L L'->∀t v,DJ L' t=some v->DJ L t=some v
 |[],_,_,_,h=>by cases h
 |(k,u)::r,hw,t,v,h=>by
  rw[qQ]at h;by_cases hk:k=t
  ·subst hk;rw[if_pos rfl]at h;cases h
   exact hw.1
  rw[if_neg hk]at h;exact zBs hw.2 t v h
def Db.wk {a}(g:Db n L a)(h:wk L L'):Db n L' a:=⟨g.sz,g.df,fun t v hv=>g.fr t v (zBs h t v hv)⟩
def fF {c}(hH:∀k,dW H k->dW H' k) (h:WP E c Q n L H'):WP E c Q n L H:=fun a w g=>h a w ⟨g.f,g.hp.imp hH⟩
def jM {all s l}(hH:∀k,dW H k->dW H' k) (h:DI E all Q s l n L H'):DI E all Q s l n L H:=fun a w g=>h a w ⟨g.f,g.hp.imp hH⟩
def dX {ι:Type}(I:ι->Fr)(J:ι->List HP)(m:ι->Nat)(ok:ι->Prop){c}(i0:ι)(h0:ok i0)(hL:wk L (I i0))(hH:∀k,dW H k->dW (J i0) k)
  (round:∀i,ok i->WP E c (Exit.then (fun a w=>∃j,ok j/\m j<m i/\Dz E n (I j) (J j) a w) Q) n (I i) (J i)):WP E (.loop c) Q n L H:=fun a w g=>by
 suffices hs:∀k i a w,m i=k->ok i->Dz E n (I i) (J i) a w->(Code.loop c).wp E.P Q a w from hs _ i0 a w rfl h0 ⟨g.f.wk hL,g.hp.imp hH⟩
 intro k i a w hk hi hg;classical
 have key:∀a' w',(∃j,ok j/\Dz E n (I j) (J j) a' w')->∃mm,(∃j,ok j/\m j=mm/\Dz E n (I j) (J j) a' w')/\∀j,ok j->Dz E n (I j) (J j) a' w'->mm<=m j:=by
  intro a' w' ⟨j,hj,hA⟩;suffices hs:∀N j,m j<=N->ok j->Dz E n (I j) (J j) a' w'->∃mm,(∃j,ok j/\m j=mm/\Dz E n (I j) (J j) a' w')/\∀j,ok j->Dz E n (I j) (J j) a' w'->mm<=m j from hs _ j (ai _) hj hA
  intro N;induction N with
  |zero=>intro j hm hj hA;exact⟨0,⟨j,hj,oO,hA⟩,fun _ _ _=>av _⟩
  |succ N ih=>
   intro j hm hj hA
   by_cases hD:∃j',m j'<=N/\ok j'/\Dz E n (I j') (J j') a' w'
   ·obtain⟨j',h1,h2,h3⟩:=hD;exact ih j' h1 h2 h3
   refine⟨m j,⟨j,hj,O,hA⟩,fun j' hE hF=>?_⟩
   rcases fw (m j') (m j)with hG|hge
   ·exact absurd ⟨j',oO,hE,hF⟩ hD
   exact hge
 let μ:Act->World->Nat:=fun a' w'=>if h:∃j,ok j/\Dz E n (I j) (J j) a' w' then(key a' w' h).choose else 0
 have hμ:∀a' w'(h:∃j,ok j/\Dz E n (I j) (J j) a' w'),(∃j,ok j/\m j=μ a' w'/\Dz E n (I j) (J j) a' w')/\∀j,ok j->Dz E n (I j) (J j) a' w'->μ a' w'<=m j:=by
  intro a' w' h;have:=(key a' w' h).choose_spec;simp only[μ,dif_pos h];exact this
 refine wp_loop (fun a w=>∃j,ok j/\Dz E n (I j) (J j) a w) μ ⟨i,hi,hg⟩ ?_;intro a' w' hI;obtain⟨⟨j,hj,hJ,hA⟩,_⟩:=hμ a' w' hI;refine Code.wp_mono ?_ (round j hj a' w' hA);intro e a2 w2 hq;cases e with
 |normal=>
  obtain⟨j2,hB,hG,hC⟩:=hq
  refine⟨⟨j2,hB,hC⟩,?_⟩
  have:=(hμ a2 w2 ⟨j2,hB,hC⟩).2 j2 hB hC
  omega
 |_=>exact hq
def bS {ι:Type}{I:ι->Fr}{J:ι->List HP}{m:ι->Nat}{ok:ι->Prop}{M}(j:ι)(hj:ok j)(hm:m j<M)(hL:wk L (I j))(hH:∀k,dW H k->dW (J j) k):
  AT E (Exit.then (fun a w=>∃j,ok j/\m j<M/\Dz E n (I j) (J j) a w) Q) .normal n L H:=fun _ _ g=>⟨j,hj,hm,g.f.wk hL,g.hp.imp hH⟩

def Yl (E:Bp)(n:Nat)(L:Fr)(S:List HP)(o:Oper)(v:Value):Prop:=∀a w,Db n L a->CR E.w0 w S->(execOp a.eval o).run E.P w= .ok (.value v) w
def Ld (E:Bp)(n:Nat)(L:Fr)(H:List HP)(o:Oper)(K:Value->List HP->Prop):Prop:=
 ∀(Q:Exit->Act->World->Prop)(next:Act->World->Prop)a w,Dz E n L H a w->(∀v H' w',K v H'->CR E.w0 w' H'->next (a.put o.dst v) w')->o.wp E.P a w next Q
def aA {all s d op}{ty:TypeId}{pos af rest v}(h:Yl E n L H ⟨some d,op,ty,pos,af,none⟩ v)(hd:Nat.blt d n=true)
  (k:DI E all Q (s-1) rest n ((d,v)::L) H):DI E all Q s (⟨some d,op,ty,pos,af,none⟩::rest) n L H:=fun a w g=>by
 have hk:=k _ _ ⟨g.f.put (some d) v hd,g.hp⟩;have hr:=h a w g.f g.hp;cases s with
 |zero=>
  refine wpList_plain O fun K hK=>?_
  unfold Oper.wp
  rw[hr,Oper.upon_value]
  exact hK _ _ hk
 |succ s=>
  simp only[oD,og]
  refine wpStill_step fun K hK=>?_
  simp only[Region.wanted,if_true]
  unfold Oper.still
  rw[hr,Oper.stillUpon_value]
  exact hK _ hk
def aI {all s d op}{ty:TypeId}{pos af rest}(hs:Nat.beq s 0=true)(hd:Ep n d=true)
  (h:Ld E n L H ⟨d,op,ty,pos,af,none⟩ (fun v H'=>DI E all Q 0 rest n (Cj d v L) H')):DI E all Q s (⟨d,op,ty,pos,af,none⟩::rest) n L H:=fun a w g=>by
 obtain rfl:=mg hs;refine wpList_plain O fun K hK=>?_
 exact h _ _ a w g (fun v H' w' hk hs=>hK _ _ (hk _ _ ⟨g.f.put d v hd,hs⟩))
def dM {all s d op}{ty:TypeId}{pos af rest j t b}(hj:(all[j]?).bind (·.dst)=some t)(hl:DJ L t=some (.bool b))
  (k:DI E all Q s (⟨d,op,ty,pos,af,none⟩::rest) n L H):DI E all Q s (⟨d,op,ty,pos,af,some (j,b)⟩::rest) n L H:=fun a w g=>by
 have h0:=k a w g;have hy:yielded all a.tmps j=some b:=by simp[yielded,hj,g.f.fr t _ hl]
 cases s with
 |zero=>
  simp only[oJ,oU,wpStill]at h0 ⊢
  unfold wpList at h0 ⊢
  simp only[Region.wanted,hy,beq_self_eq_true,if_true]at h0 ⊢
  exact h0
 |succ s=>
  simp only[oD,og]at h0 ⊢
  unfold wpStill at h0 ⊢
  simp only[Region.wanted,hy,beq_self_eq_true,if_true]at h0 ⊢
  exact h0
def bT {all s d op}{ty:TypeId}{pos af rest j t b c}(hj:(all[j]?).bind (·.dst)=some t)(hl:DJ L t=some (.bool c))(hA:(c==b)=false)(hd:Ep n d=true)
  (k:DI E all Q (s-1) rest n (Cj d undef L) H):DI E all Q s (⟨d,op,ty,pos,af,some (j,b)⟩::rest) n L H:=fun a w g=>by
 have hk:=k _ _ ⟨g.f.put d undef hd,g.hp⟩;have hy:yielded all a.tmps j=some c:=by simp[yielded,hj,g.f.fr t _ hl]
 cases s with
 |zero=>
  simp only[oJ,oU,wpStill]
  unfold wpList
  simp only[Region.wanted,hy]
  rw[if_neg (by simpa using hA)]
  exact hk
 |succ s=>
  simp only[oD,og]
  unfold wpStill
  simp only[Region.wanted,hy]
  rw[if_neg (by simpa using hA)]
  exact hk
def dV {all s l}(t:Nat){p}[Decidable p](hl:DJ L t=some (.bool (decide p)))(h1:p->DI E all Q s l n ((t,.bool true)::L) H)(h2:¬p->DI E all Q s l n ((t,.bool false)::L) H):DI E all Q s l n L H:=fun a w g=>by
 by_cases hp:p
 ·exact h1 hp a w ⟨⟨g.f.sz,g.f.df,fun u v hv=>by
   rw[qQ]at hv;by_cases hs:t=u
   ·subst hs;rw[if_pos rfl]at hv;cases hv;exact g.f.fr t _ (by rw[hl];simp[hp])
   rw[if_neg hs]at hv;exact g.f.fr u v hv⟩,g.hp⟩
 exact h2 hp a w ⟨⟨g.f.sz,g.f.df,fun u v hv=>by
  rw[qQ]at hv;by_cases hs:t=u
  ·subst hs;rw[if_pos rfl]at hv;cases hv;exact g.f.fr t _ (by rw[hl];simp[hp])
  rw[if_neg hs]at hv;exact g.f.fr u v hv⟩,g.hp⟩
def vY {all s l}(t:Nat){b}(hl:DJ L t=some (.bool b))(h1:b=true->DI E all Q s l n ((t,.bool true)::L) H)(h2:b=false->DI E all Q s l n ((t,.bool false)::L) H):DI E all Q s l n L H:=
 dV (p:=b=true) t (by simpa using hl) h1 (fun h=>h2 (by simpa using h))

def FB (E:Bp)(ops:List Oper)(S:List HP)(Q:Exit->Act->World->Prop)(fuel:Nat)(listed:Array Bool)(n:Nat)(L:Fr)(H:List HP):Prop:=
 (∀k,dW H k->dW S k)->∀a w,Dz E n L H a w->wpAnyH E.P .any ops.toArray Q (fun w=>CR E.w0 w S) fuel listed a w
def Yw (S:List HP){id ops}(hS:∀k,dW H k->dW S k) (h:FB E ops S Q ops.toArray.size (Array.replicate ops.toArray.size false) n L H):WP E (.region id ops.toArray true) Q n L H:=fun a _ g=>
 wp_region_held E.mixed (h hS a _ ⟨g.f,g.hp.drew⟩)
def EG (Q:Exit->Act->World->Prop):Prop:=∀c a w d v,Q (.panic c) (Act.put a d v) w->Q (.panic c) a w
def aG {K:Act->World->Prop}(h:EG Q):EG (Exit.then K Q):=h
def aH {id}(h:EG Q):EG (Exit.inBlock id Q):=h
def aF {P fn}{R:Ending->World->Prop}:EG (bodyPost P fn R):=fun c a w d v h=>⟨by cases d<;>exact h.1,h.2⟩
def fA {l:List Oper}{i:Nat}{o:Oper}(h:l[i]?=some o):l.toArray[i]?=some o:=by simpa using h
def bG {ops:List Oper}{S:List HP}{fuel:Nat}{listed:Array Bool}(i:Nat){d:Option Nat}{op:Op}{ty:TypeId}{pos:String}{af:Array Edge}{v:Value}(hi:ops[i]?=some ⟨d,op,ty,pos,af,none⟩)
  (hy:Yl E n L S ⟨d,op,ty,pos,af,none⟩ v) (hQ:EG Q) (hf:(Region.noSelect ops.toArray&&(Region.free .any ops.toArray listed i&&(Region.ready .any ops.toArray listed).contains i))=true) (hd:Ep n d=true)
  (k:FB E ops S Q fuel (listed.setIfInBounds i true) n (Cj d v L) H):FB E ops S Q (fuel+1) listed n L H:=fun hS a w g=>by
 simp only[ik]at hf;exact wpAnyH_take (fA hi) hf.1 hf.2.1 hf.2.2 (fun c a w h=>hQ c a w d v h) (.inl ⟨O,fun w hw=>hy a w g.f hw⟩) (g.hp.imp hS) (k hS _ _ ⟨g.f.put d v hd,g.hp⟩)
def Pv {ops:List Oper}{S:List HP}{fuel:Nat}{listed:Array Bool}(i:Nat){d:Option Nat}{op:Op}{ty:TypeId}{pos:String}{af:Array Edge}{j t:Nat}{b c:Bool}(hi:ops[i]?=some ⟨d,op,ty,pos,af,some (j,b)⟩)
  (hj:(ops[j]?).bind (·.dst)=some t) (hl:DJ L t=some (.bool c)) (hA:(c==b)=false) (hQ:EG Q) (hf:(Region.noSelect ops.toArray&&(Region.free .any ops.toArray listed i&&(Region.ready .any ops.toArray listed).contains i))=true) (hd:Ep n d=true)
  (k:FB E ops S Q fuel (listed.setIfInBounds i true) n (Cj d undef L) H):FB E ops S Q (fuel+1) listed n L H:=fun hS a w g=>by
 simp only[ik]at hf;have hB:(ops.toArray[j]?).bind (·.dst)=some t:=by simpa using hj
 have hC:yielded ops.toArray a.tmps j=some c:=by simp only[yielded,hB,AZ,g.f.fr t _ hl]
 exact wpAnyH_take (fA hi) hf.1 hf.2.1 hf.2.2 (fun c a w h=>hQ c a w d undef h) (.inr ⟨by simp only[Region.wanted,hC];simpa using hA,rfl⟩) (g.hp.imp hS) (k hS _ _ ⟨g.f.put d undef hd,g.hp⟩)
def TR {ops:List Oper}{S:List HP}{fuel:Nat}{listed:Array Bool}(i:Nat){d:Option Nat}{op:Op}{ty:TypeId}{pos:String}{af:Array Edge}{v:Value}{j t:Nat}{b:Bool}(hi:ops[i]?=some ⟨d,op,ty,pos,af,some (j,b)⟩)
  (hj:(ops[j]?).bind (·.dst)=some t) (hl:DJ L t=some (.bool b)) (hy:Yl E n L S ⟨d,op,ty,pos,af,some (j,b)⟩ v) (hQ:EG Q) (hf:(Region.noSelect ops.toArray&&(Region.free .any ops.toArray listed i&&(Region.ready .any ops.toArray listed).contains i))=true) (hd:Ep n d=true)
  (k:FB E ops S Q fuel (listed.setIfInBounds i true) n (Cj d v L) H):FB E ops S Q (fuel+1) listed n L H:=fun hS a w g=>by
 simp only[ik]at hf;have hA:(ops.toArray[j]?).bind (·.dst)=some t:=by simpa using hj
 have hB:yielded ops.toArray a.tmps j=some b:=by simp only[yielded,hA,AZ,g.f.fr t _ hl]
 exact wpAnyH_take (fA hi) hf.1 hf.2.1 hf.2.2 (fun c a w h=>hQ c a w d v h) (.inl ⟨by simp only[Region.wanted,hB,beq_self_eq_true],fun w hw=>hy a w g.f hw⟩) (g.hp.imp hS) (k hS _ _ ⟨g.f.put d v hd,g.hp⟩)
def TQ {ops S fuel listed}(hr:Region.ready .any ops.toArray listed=[])(k:AT E Q .normal n L H):FB E ops S Q fuel listed n L H:=fun _ a w g=>wpAnyH_done hr (k a w g) fuel
def dH {ops:List Oper}{S:List HP}{fuel:Nat}{listed:Array Bool}(i:Nat){d:Option Nat}{op:Op}{ty:TypeId}{pos:String}{af:Array Edge}(hi:ops[i]?=some ⟨d,op,ty,pos,af,none⟩)(hr:Region.ready .any ops.toArray listed=[i])(hd:Ep n d=true)
  (h:Ld E n L H ⟨d,op,ty,pos,af,none⟩ (fun v H'=>(∀k,dW H' k->dW S k)/\FB E ops S Q fuel (listed.setIfInBounds i true) n (Cj d v L) H')):FB E ops S Q (fuel+1) listed n L H:=fun _ a w g=>
 wpAnyH_all hr BF fun j hj=>by
  obtain rfl:j=i:=by simpa using hj
  unfold wpOp;simp only[fA hi,Region.wanted,if_true];exact .inl (h _ _ a w g (fun v H' w' hk hs=>⟨hs.imp hk.1,hk.2 hk.1 _ _ ⟨g.f.put d v hd,hs⟩⟩))
end
section
open Go Go.RowKit
variable {E:Bp}{n:Nat}{L:Fr}{S:List HP}{ty:TypeId}{pos:String}{af:Array Edge}{d:Option Nat}{gd:Option (Nat×Bool)}

def sl (p:Option Addr)(c:Nat)(t:TypeId)(sz n:Nat)(xs:List Value):HP:=fun h=>
 xs.length=n*sz/\((p=none/\n=0/\c=0)\/∃g cur,p=some ⟨g,0,none⟩/\h g=some (.cells cur t (0,0))/\n<=c/\c<=maxLen/\cur.size=c*sz/\cur.toList.take (n*sz)=xs)
inductive Ew:List HP->Nat->Nat->Value->Prop where
 |here {b o:Nat} {vs:List Value} {bt:TypeId} {v:Value} {S:List HP}:vs[o]?=some v->Ew (cells b vs bt::S) b o v
 |slice {b o c sz m:Nat} {xs:List Value} {bt:TypeId} {v:Value} {S:List HP}:xs[o]?=some v->Ew (sl (some ⟨b,0,none⟩) c bt sz m xs::S) b o v
 |there {b o:Nat} {v:Value} {q:HP} {S:List HP}:Ew S b o v->Ew (q::S) b o v
def CR.tail {w0 w q S}(s:CR w0 w (q::S)):CR w0 w S:=s.imp fun _=>Wh
def CR.slice {w0 w b c sz m xs}{bt:TypeId}{S}(s:CR w0 w (sl (some ⟨b,0,none⟩) c bt sz m xs::S)):
  ∃cur,CR w0 w (pt b (.cells cur bt (0,0))::S)/\m<=c/\c<=maxLen/\cur.size=c*sz/\cur.toList.take (m*sz)=xs:=by
 obtain⟨h1,h2,hd,e,hp,hq⟩:=s.hp;rcases hp.2 with⟨h0,_⟩|⟨g,cur,h0,hg,r⟩
 ·cases h0
 obtain rfl:b=g:=by simpa using h0
 exact⟨cur,⟨s.os,s.tape,s.output,s.size,s.old,⟨h1,h2,hd,e,hg,hq⟩⟩,r⟩
def Ew.cell {w0 w S b o v}(h:Ew S b o v):CR w0 w S->w.cell? ⟨b,o,none⟩=some v:=by
 induction h with
 |here hv=>exact fun s=>s.cell _ hv
 |slice hv=>
  intro s
  obtain⟨cur,s',_,_,_,ht⟩:=s.slice
  rw[<-ht,ni]at hv
  split at hv
  ·simp[World.cell?,(s'.ptr).1];simpa using hv
  cases hv
 |there _ ih=>exact fun s=>ih s.tail
inductive GQ (S:List HP)(b:Nat):Nat->Nat->List Value->Prop where
 |nil {o:Nat}:GQ S b o 0 []
 |cons {o k:Nat} {v:Value} {us:List Value}:Ew S b o v->GQ S b (o+1) k us->GQ S b o (k+1) (v::us)
def GQ.cells {w0 w S b o k us}(h:GQ S b o k us)(s:CR w0 w S):us.length=k/\∀j u,us[j]?=some u->w.cell? ⟨b,o+j,none⟩=some u:=by
 induction h with
 |nil=>exact⟨rfl,fun j u h=>by simp at h⟩
 | @cons o k v us hv _ ih=>
  refine⟨by simp[ih.1],fun j u hu=>?_⟩
  cases j with
  |zero=>simp at hu;subst hu;exact hv.cell s
  |succ j=>rw[show o+(j+1)=o+1+j by omega];exact ih.2 j u (by simpa using hu)

def fC {t:TypeId}{k sz zs}(h:E.tab t=some ⟨k,sz,zs⟩):∃i z,E.P.info? t=some i/\i.size=sz/\i.zero=some z/\z.cells.toList=zs/\k.holds E.P t=true:=by
 have:=E.ok t _ h;unfold TI.holds at this;split at this
 ·rename_i i hi
  simp only[ik]at this;obtain⟨⟨h1,h2⟩,h3⟩:=this;split at h3
  ·rename_i z hz
   exact⟨i,z,hi,by simpa using h1,hz,qSa h3,h2⟩
  cases h3
 cases this
def TK.agg:TK->Bool
 | .struct _| .array _ _ _=>true
 |_=>false
def zAz {t:TypeId}{k sz zs}(h:E.tab t=some ⟨k,sz,zs⟩):∃u,E.P.underlying t=some u/\(match u with | .struct _| .array _ _=>true|_=>false)=k.agg:=by
 obtain⟨i,z,_,_,_,_,hk⟩:=fC h;unfold TK.holds at hk;split at hk<;>(split at hk<;>first |(rename_i hu;exact⟨_,hu,rfl⟩)|(cases hk))
def nD {t:TypeId}{k sz zs}(h:E.tab t=some ⟨k,sz,zs⟩)(w:World):(isAgg t).run E.P w= .ok k.agg w:=by
 obtain⟨u,hu,hk⟩:=zAz h;rw[<-hk];cases u<;>simp[isAgg,underlying,program,Sem.run,hu]
def wG {t:TypeId}{k sz zs}(h:E.tab t=some ⟨k,sz,zs⟩)(w:World):(Go.sizeOf t).run E.P w= .ok sz w:=by
 obtain⟨i,z,hi,hs,_⟩:=fC h;simp[Go.sizeOf,typeInfo,program,Sem.run,hi,hs]
def VK {t:TypeId}{k sz zs}(h:E.tab t=some ⟨k,sz,zs⟩)(w:World):∃z,(zeroValue t).run E.P w= .ok z w/\z.cells.toList=zs:=by
 obtain⟨i,z,hi,_,hz,hc,_⟩:=fC h;exact⟨z,by simp[zeroValue,typeInfo,program,Sem.run,hi,hz],hc⟩
def fD {t:TypeId}{e:TypeId}{s b sz zs}(h:E.tab t=some ⟨.slice e s b,sz,zs⟩):E.P.underlying t=some (.slice e)/\∃j,E.P.info? e=some j/\j.size=s/\j.bytes=b:=by
 obtain⟨i,z,_,_,_,_,hk⟩:=fC h;simp only[TK.holds]at hk;split at hk
 ·rename_i e' hu
  simp only[ik]at hk;obtain⟨h1,h2⟩:=hk;obtain rfl:e=e':=by simpa using h1
  split at h2
  ·rename_i j hj
   simp only[ik]at h2;exact⟨hu,j,hj,by simpa using h2.1,by simpa using h2.2⟩
  cases h2
 cases hk
def XQ {t:TypeId}{e:TypeId}{m s sz zs}(h:E.tab t=some ⟨.array m e s,sz,zs⟩):E.P.underlying t=some (.array m e)/\∃j,E.P.info? e=some j/\j.size=s:=by
 obtain⟨i,z,_,_,_,_,hk⟩:=fC h;simp only[TK.holds]at hk;split at hk
 ·rename_i m' e' hu
  simp only[ik]at hk;obtain⟨⟨h0,h1⟩,h2⟩:=hk;obtain rfl:m=m':=by simpa using h0
  obtain rfl:e=e':=by simpa using h1
  split at h2
  ·rename_i j hj
   exact⟨hu,j,hj,by simpa using h2⟩
  cases h2
 cases hk
def qHq {t:TypeId}{fs:List (Nat×Nat)}{sz:Nat}{zs:List Value}(h:E.tab t=some ⟨.struct fs,sz,zs⟩){k o s:Nat}(hk:fs[k]?=some (o,s)):
  ∃gs g j,E.P.underlying t=some (.struct gs)/\gs[k]?=some g/\g.offset=o/\E.P.info? g.type=some j/\j.size=s/\s≠0:=by
 obtain⟨i,z,_,_,_,_,hh⟩:=fC h;simp only[TK.holds]at hh;split at hh
 ·rename_i gs hu
  simp only[ik]at hh;obtain⟨⟨h0,h1⟩,h2⟩:=hh;have hA:gs.toList.map (fun g=>(g.offset,QW E.P g.type))=fs:=by simpa using h0
  rw[<-hA,bn]at hk;cases hg:gs.toList[k]? with
  |none=>rw[hg]at hk;cases hk
  |some g=>
   rw[hg]at hk
   have hB:gs[k]?=some g:=by simpa using hg
   have hj:(E.P.info? g.type).isSome=true:=by
    have:=yh.1 h2 g (Array.mem_of_getElem? hB);exact this
   obtain⟨j,hj⟩:=vo.1 hj
   simp only[ut,QW,hj,ry,Prod.mk.injEq]at hk
   refine⟨gs,g,j,hu,hB,hk.1,hj,hk.2,?_⟩
   have:=AV.1 h1 (o,s) (by rw[<-hA];exact jg.2 ⟨g,ak hg,by simp[QW,hj,hk.1,hk.2]⟩)
   simpa using this
 cases hh
def addr_add (b o k:Nat):(⟨b,o,none⟩:Addr).add k=⟨b,o+k,none⟩:=by
 unfold Addr.add;by_cases h:k=0
 ·rw[if_pos h,h];rfl
 rw[if_neg h]

def aB {x v}(h:ev L x=some v):Yl E n L S ⟨d,.move x,ty,pos,af,gd⟩ v:=fun a w g _=>by simp[execOp,pure,g.ev h]
def aC {x v}(h:ev L x=some v):Yl E n L S ⟨d,.assign x,ty,pos,af,gd⟩ v:=fun a w g _=>by simp[execOp,pure,g.ev h]
def aW {c x y v}(hc:ev L c=some (.bool true))(h:ev L x=some v):Yl E n L S ⟨d,.pick c x y,ty,pos,af,gd⟩ v:=fun a w g _=>by simp[execOp,asBool,g.ev hc,g.ev h]
def aX {c x y v}(hc:ev L c=some (.bool false))(h:ev L y=some v):Yl E n L S ⟨d,.pick c x y,ty,pos,af,gd⟩ v:=fun a w g _=>by simp[execOp,asBool,g.ev hc,g.ev h]
def bA {x p}(h:ev L x=some (.pointer (some p))):Yl E n L S ⟨d,.nilCheck x,ty,pos,af,gd⟩ (.pointer (some p)):=fun a w g _=>by simp[execOp,g.ev h]
def aO {x}{t:TypeId}{b o k sz zs v}(h:ev L x=some (.pointer (some ⟨b,o,none⟩)))(ht:E.tab t=some ⟨k,sz,zs⟩)(hk:k.agg=false)
  (hm:Ew S b o v):Yl E n L S ⟨d,.load t x,ty,pos,af,gd⟩ v:=fun a w g s=>by
 have hc:=hm.cell s;simp[execOp,Instr.loadAt,Instr.sureAddr,loadVar,g.ev h,nD ht,hk,load,Sem.run,hc]
def zB {P w}(b o:Nat):∀(us:List Value)(i:Nat)(acc:Array Value),(∀j u,us[j]?=some u->w.cell? ⟨b,o+(i+j),none⟩=some u)->(loadCellsFrom ⟨b,o,none⟩ i us.length acc).run P w= .ok (acc++us.toArray) w
 |[],i,acc,_=>by simp[loadCellsFrom]
 |u::us,i,acc,h=>by
  have h0:=h 0 u BF;rw[az,loadCellsFrom];simp only[addr_add,load,Sem.run_bind,Sem.run,xh]at h0 ⊢;rw[h0];simp only[Result.andThen_ok];rw[zB b o us (i+1) _ (fun j u' hu=>by have:=h (j+1) u' (by simpa using hu);rw[<-this];congr 2;omega)];simp
def bV {x}{t:TypeId}{b o k sz zs us}(h:ev L x=some (.pointer (some ⟨b,o,none⟩)))(ht:E.tab t=some ⟨k,sz,zs⟩)(hk:k.agg=true)
  (hm:GQ S b o sz us):Yl E n L S ⟨d,.load t x,ty,pos,af,gd⟩ (.agg ⟨us⟩):=fun a w g s=>by
 obtain⟨hl,hc⟩:=hm.cells s;have hr:=zB (P:=E.P) b o us 0 #[] (fun j u hu=>by rw[jh];exact hc j u hu);rw[hl]at hr;simp[execOp,Instr.loadAt,Instr.sureAddr,loadVar,g.ev h,nD ht,hk,wG ht,loadCells,hr]
def aD {x:Operand}{t:TypeId}{k b o fo fs_:Nat}{fs:List (Nat×Nat)}{sz:Nat}{zs:List Value}(h:ev L x=some (.pointer (some ⟨b,o,none⟩)))(ht:E.tab t=some ⟨.struct fs,sz,zs⟩)(hk:fs[k]?=some (fo,fs_)):
  Yl E n L S ⟨d,.fieldAddr t x k,ty,pos,af,gd⟩ (.pointer (some ⟨b,o+fo,none⟩)):=fun a w g _=>by
 obtain⟨gs,f,j,hu,hg,ho,hj,hs,h0⟩:=qHq ht hk;simp[execOp,Instr.fieldAt,Instr.sureAddr,underlying,program,Sem.run,hu,hg,g.ev h,fieldPlace,Go.sizeOf,typeInfo,hj,hs,h0,ho,addr_add]
def Vk {x:Operand}{t:TypeId}{k fo fs_:Nat}{fs:List (Nat×Nat)}{sz:Nat}{zs cs:List Value}{v:Value}(h:ev L x=some (.agg ⟨cs⟩))(ht:E.tab t=some ⟨.struct fs,sz,zs⟩)(hk:fs[k]?=some (fo,fs_)){ft:TypeId}{k':TK}{sz':Nat}{zs':List Value}
  (hA:∀gs g,E.P.underlying t=some (.struct gs)->gs[k]?=some g->g.type=ft) (hB:E.tab ft=some ⟨k',sz',zs'⟩) (hC:k'.agg=false) (hv:cs[fo]?=some v):
  Yl E n L S ⟨d,.field t x k,ty,pos,af,gd⟩ v:=fun a w g _=>by
 obtain⟨gs,f,j,hu,hg,ho,hj,hs,h0⟩:=qHq ht hk;have:=hA gs f hu hg;subst this;simp[execOp,Instr.field,underlying,program,Sem.run,hu,hg,g.ev h,asAgg,part,nD hB,hC,ho,hv]
def aP {x y}{t e:TypeId}{b o len cap k i s by_ sz zs}(h:ev L x=some (.slice (some ⟨b,o,none⟩) len cap))(hy:ev L y=some (.int k i))(ht:E.tab t=some ⟨.slice e s by_,sz,zs⟩)
  (h0:0<=i) (h1:i<len):Yl E n L S ⟨d,.indexAddr t x y,ty,pos,af,gd⟩ (.pointer (some ⟨b,o+i.toNat*s,none⟩)):=fun a w g _=>by
 obtain⟨hu,j,hj,hs,_⟩:=fD ht;simp[execOp,Instr.indexAt,asIntOf,underlying,program,Sem.run,hu,g.ev h,g.ev hy,h0,h1,Go.sizeOf,typeInfo,hj,hs,addr_add]
def bM {x y}{t e:TypeId}{b len cap k i by_ sz zs}(h:ev L x=some (.slice (some ⟨b,0,none⟩) len cap))(hy:ev L y=some (.int k i))(ht:E.tab t=some ⟨.slice e 1 by_,sz,zs⟩)
  (h0:0<=i) (h1:i<len):Yl E n L S ⟨d,.indexAddr t x y,ty,pos,af,gd⟩ (.pointer (some ⟨b,i.toNat,none⟩)):=fun a w g s=>by
 have:=aP (S:=S) (d:=d) (ty:=ty) (pos:=pos) (af:=af) (gd:=gd) h hy ht h0 h1 a w g s;rw[this];simp
def qVf {x y}{t e:TypeId}{b o len k i s sz zs}(h:ev L x=some (.pointer (some ⟨b,o,none⟩)))(hy:ev L y=some (.int k i))(ht:E.tab t=some ⟨.array len e s,sz,zs⟩)
  (h0:0<=i) (h1:i<len):Yl E n L S ⟨d,.indexAddr t x y,ty,pos,af,gd⟩ (.pointer (some ⟨b,o+i.toNat*s,none⟩)):=fun a w g _=>by
 obtain⟨hu,j,hj,hs⟩:=XQ ht;simp[execOp,Instr.indexAt,Instr.sureAddr,asIntOf,underlying,program,Sem.run,hu,g.ev h,g.ev hy,h0,h1,Go.sizeOf,typeInfo,hj,hs,addr_add]
def qZ {x y}{t:TypeId}{bs k i c sz zs}(h:ev L x=some (.string bs))(hy:ev L y=some (.int k i))(ht:E.tab t=some ⟨.string,sz,zs⟩)
  (h0:0<=i) (h1:bs[i.toNat]?=some c):Yl E n L S ⟨d,.index t x y,ty,pos,af,gd⟩ (.int .u8 c.toNat):=fun a w g _=>by
 obtain⟨i',z,_,_,_,_,hk⟩:=fC ht;simp only[TK.holds]at hk;split at hk
 ·rename_i hu
  simp[execOp,Instr.index,asIntOf,underlying,program,Sem.run,hu,g.ev h,g.ev hy,h0,h1]
 cases hk

def dJ {i}(h0: -9223372036854775808<=i)(h1:i<=9223372036854775807):IntKind.i64.wrap i=i:=IntWalk.i64_in _ ⟨h0,h1⟩
def Ud {x y}{xt yt:TypeId}{i j}(hx:ev L x=some (.int .i64 i))(hy:ev L y=some (.int .i64 j))(h0: -9223372036854775808<=i+j)(h1:i+j<=9223372036854775807):
  Yl E n L S ⟨d,.binOp .add xt x y yt,ty,pos,af,gd⟩ (.int .i64 (i+j)):=fun a w g _=>by
 simp[execOp,eqGuard,binOp,Op.intArith,g.ev hx,g.ev hy,dJ h0 h1]
def UZ {x y}{xt yt:TypeId}{i j}(hx:ev L x=some (.int .i64 i))(hy:ev L y=some (.int .i64 j))(h0: -9223372036854775808<=i-j)(h1:i-j<=9223372036854775807):
  Yl E n L S ⟨d,.binOp .sub xt x y yt,ty,pos,af,gd⟩ (.int .i64 (i-j)):=fun a w g _=>by
 simp[execOp,eqGuard,binOp,Op.intArith,g.ev hx,g.ev hy,dJ h0 h1]
def UT {x y}{xt yt:TypeId}{i j}(hx:ev L x=some (.int .i64 i))(hy:ev L y=some (.int .i64 j))(h0: -9223372036854775808<=i*j)(h1:i*j<=9223372036854775807):
  Yl E n L S ⟨d,.binOp .mul xt x y yt,ty,pos,af,gd⟩ (.int .i64 (i*j)):=fun a w g _=>by
 simp[execOp,eqGuard,binOp,Op.intArith,g.ev hx,g.ev hy,dJ h0 h1]
def UV {x y}{xt yt:TypeId}{i j}(hx:ev L x=some (.int .i64 i))(hy:ev L y=some (.int .i64 j))(h0:0<=i)(h1:0<j)(h2:i<=9223372036854775807):
  Yl E n L S ⟨d,.binOp .quo xt x y yt,ty,pos,af,gd⟩ (.int .i64 (i/j)):=fun a w g _=>by
 have e1:i.tdiv j=i/j:=Int.tdiv_eq_ediv_of_nonneg h0;have e2:0<=i/j:=Int.ediv_nonneg h0 oO;have e3:i/j<=i:=Int.ediv_le_self _ h0;have hj:¬j=0:=oO;simp[execOp,eqGuard,binOp,Op.intDiv,g.ev hx,g.ev hy,hj,e1,dJ (i:=i/j) oO oO]
def UW {x y}{xt yt:TypeId}{i j kd}(hx:ev L x=some (.int kd i))(hy:ev L y=some (.int kd j))(h0:0<=i)(h1:0<j):
  Yl E n L S ⟨d,.binOp .rem xt x y yt,ty,pos,af,gd⟩ (.int kd (i%j)):=fun a w g _=>by
 have e1:i.tmod j=i%j:=zu h0;have hj:¬j=0:=oO;simp[execOp,eqGuard,binOp,Op.intDiv,g.ev hx,g.ev hy,hj,e1]
def Yp {x y}{xt yt:TypeId}{i j kd}(hx:ev L x=some (.int kd i))(hy:ev L y=some (.int kd j)):
  Yl E n L S ⟨d,.binOp .eql xt x y yt,ty,pos,af,gd⟩ (.bool (decide (i=j))):=fun a w g _=>by
 simp[execOp,eqGuard,binOp,Op.intCmp,g.ev hx,g.ev hy];rfl
def Yt {x y}{xt yt:TypeId}{i j kd}(hx:ev L x=some (.int kd i))(hy:ev L y=some (.int kd j)):
  Yl E n L S ⟨d,.binOp .neq xt x y yt,ty,pos,af,gd⟩ (.bool (decide (¬i=j))):=fun a w g _=>by
 simp[execOp,eqGuard,binOp,Op.intCmp,g.ev hx,g.ev hy];rfl
def UO {x y}{xt yt:TypeId}{i j kd}(hx:ev L x=some (.int kd i))(hy:ev L y=some (.int kd j)):
  Yl E n L S ⟨d,.binOp .lss xt x y yt,ty,pos,af,gd⟩ (.bool (decide (i<j))):=fun a w g _=>by
 simp[execOp,eqGuard,binOp,Op.intCmp,g.ev hx,g.ev hy]
def Yr {x y}{xt yt:TypeId}{i j kd}(hx:ev L x=some (.int kd i))(hy:ev L y=some (.int kd j)):
  Yl E n L S ⟨d,.binOp .leq xt x y yt,ty,pos,af,gd⟩ (.bool (decide (i<=j))):=fun a w g _=>by
 simp[execOp,eqGuard,binOp,Op.intCmp,g.ev hx,g.ev hy]
def UM {x y}{xt yt:TypeId}{i j kd}(hx:ev L x=some (.int kd i))(hy:ev L y=some (.int kd j)):
  Yl E n L S ⟨d,.binOp .gtr xt x y yt,ty,pos,af,gd⟩ (.bool (decide (j<i))):=fun a w g _=>by
 simp[execOp,eqGuard,binOp,Op.intCmp,g.ev hx,g.ev hy]
def Yq {x y}{xt yt:TypeId}{i j kd}(hx:ev L x=some (.int kd i))(hy:ev L y=some (.int kd j)):
  Yl E n L S ⟨d,.binOp .geq xt x y yt,ty,pos,af,gd⟩ (.bool (decide (j<=i))):=fun a w g _=>by
 simp[execOp,eqGuard,binOp,Op.intCmp,g.ev hx,g.ev hy]
def Vj {t e:TypeId}{sz zs}(h:E.tab t=some ⟨.ptr e,sz,zs⟩):E.P.underlying t=some (.pointer e):=by
 obtain⟨i,z,_,_,_,_,hk⟩:=fC h;simp only[TK.holds]at hk;split at hk
 ·rename_i e' hu
  obtain rfl:e=e':=by simpa using hk
  exact hu
 cases hk
def XT {t:TypeId}{sz zs}(h:E.tab t=some ⟨.iface,sz,zs⟩):∃ms,E.P.underlying t=some (.interface ms):=by
 obtain⟨i,z,_,_,_,_,hk⟩:=fC h;simp only[TK.holds]at hk;split at hk
 ·rename_i ms hu;exact⟨ms,hu⟩
 cases hk
def yI {P}{t e:TypeId}(hu:P.underlying t=some (.pointer e))(p:Option Addr)(w:World):(Op.equal t (.pointer p) (.pointer none)).run P w= .ok p.isNone w:=by
 unfold Op.equal;rw[show Op.maxDepth=9999+1 from rfl,Op.equalIn];cases p<;>simp[underlying,program,Sem.run,hu]
def xR (t:TypeId)(p:Option Addr):binOp .eql t (.pointer p) (.pointer none)=(do pure (.bool (<-Op.equal t (.pointer p) (.pointer none)))):=by cases p<;>rfl
def xS (t:TypeId)(p:Option Addr):binOp .neq t (.pointer p) (.pointer none)=(do pure (.bool (!(<-Op.equal t (.pointer p) (.pointer none))))):=by cases p<;>rfl
def qGq {P}{t:TypeId}{ms:Array (String×TypeId)}(hu:P.underlying t=some (.interface ms))(w:World):(Op.equal t .nilIface .nilIface).run P w= .ok true w:=by
 unfold Op.equal;rw[show Op.maxDepth=9999+1 from rfl,Op.equalIn];simp[underlying,program,Sem.run,hu]
def qXx {P}{t et:TypeId}{v}{ms:Array (String×TypeId)}(hu:P.underlying t=some (.interface ms))(w:World):(Op.equal t (.iface et v) .nilIface).run P w= .ok false w:=by
 unfold Op.equal;rw[show Op.maxDepth=9999+1 from rfl,Op.equalIn];simp[underlying,program,Sem.run,hu]
def rO (op:BinOp)(t:TypeId)(x y:Operand)(p q:Option Addr)(P:Program)(w:World):(eqGuard op t x y (.pointer p) (.pointer q)).run P w= .ok () w:=by
 unfold eqGuard;split <;>simp
def Za (op:BinOp)(t:TypeId)(x:Operand)(v:Value)(P:Program)(w:World):(eqGuard op t x (.const v) .nilIface .nilIface).run P w= .ok () w:=by
 unfold eqGuard;split <;>simp
def qPe (op:BinOp)(t et:TypeId)(x y:Operand)(v:Value)(P:Program)(w:World):(eqGuard op t x y (.iface et v) .nilIface).run P w= .ok () w:=by
 unfold eqGuard;split <;>simp
def Mi {x}{t yt e:TypeId}{p sz zs}(hx:ev L x=some (.pointer (some p)))(ht:E.tab t=some ⟨.ptr e,sz,zs⟩):
  Yl E n L S ⟨d,.binOp .eql t x (.const (.pointer none)) yt,ty,pos,af,gd⟩ (.bool false):=fun a w g _=>by
 have hy:a.eval (.const (.pointer none))= .pointer none:=rfl;simp[execOp,rO,xR,yI (Vj ht),g.ev hx,hy]
def Mh {x}{t yt e:TypeId}{sz zs}(hx:ev L x=some (.pointer none))(ht:E.tab t=some ⟨.ptr e,sz,zs⟩):
  Yl E n L S ⟨d,.binOp .eql t x (.const (.pointer none)) yt,ty,pos,af,gd⟩ (.bool true):=fun a w g _=>by
 have hy:a.eval (.const (.pointer none))= .pointer none:=rfl;simp[execOp,rO,xR,yI (Vj ht),g.ev hx,hy]
def Mq {x}{t yt e:TypeId}{p sz zs}(hx:ev L x=some (.pointer (some p)))(ht:E.tab t=some ⟨.ptr e,sz,zs⟩):
  Yl E n L S ⟨d,.binOp .neq t x (.const (.pointer none)) yt,ty,pos,af,gd⟩ (.bool true):=fun a w g _=>by
 have hy:a.eval (.const (.pointer none))= .pointer none:=rfl;simp[execOp,rO,xS,yI (Vj ht),g.ev hx,hy]
def Mo {x}{t yt e:TypeId}{sz zs}(hx:ev L x=some (.pointer none))(ht:E.tab t=some ⟨.ptr e,sz,zs⟩):
  Yl E n L S ⟨d,.binOp .neq t x (.const (.pointer none)) yt,ty,pos,af,gd⟩ (.bool false):=fun a w g _=>by
 have hy:a.eval (.const (.pointer none))= .pointer none:=rfl;simp[execOp,rO,xS,yI (Vj ht),g.ev hx,hy]
def Ph {x}{t yt:TypeId}{sz zs}(hx:ev L x=some .nilIface)(ht:E.tab t=some ⟨.iface,sz,zs⟩):
  Yl E n L S ⟨d,.binOp .eql t x (.const .nilIface) yt,ty,pos,af,gd⟩ (.bool true):=fun a w g _=>by
 obtain⟨ms,hu⟩:=XT ht;have hy:a.eval (.const .nilIface)= .nilIface:=rfl;simp[execOp,Za,binOp,qGq hu,g.ev hx,hy]
def Pi {x}{t yt:TypeId}{sz zs}(hx:ev L x=some .nilIface)(ht:E.tab t=some ⟨.iface,sz,zs⟩):
  Yl E n L S ⟨d,.binOp .neq t x (.const .nilIface) yt,ty,pos,af,gd⟩ (.bool false):=fun a w g _=>by
 obtain⟨ms,hu⟩:=XT ht;have hy:a.eval (.const .nilIface)= .nilIface:=rfl;simp[execOp,Za,binOp,qGq hu,g.ev hx,hy]
def Mk {x}{t yt et:TypeId}{v sz zs}(hx:ev L x=some (.iface et v))(ht:E.tab t=some ⟨.iface,sz,zs⟩):
  Yl E n L S ⟨d,.binOp .neq t x (.const .nilIface) yt,ty,pos,af,gd⟩ (.bool true):=fun a w g _=>by
 obtain⟨ms,hu⟩:=XT ht;have hy:a.eval (.const .nilIface)= .nilIface:=rfl;simp[execOp,qPe,binOp,qXx hu,g.ev hx,hy]
def zBy {x}{t:TypeId}{v k sz zs}(hx:ev L x=some v)(ht:E.tab t=some ⟨k,sz,zs⟩)(hk:(match k with | .iface=>false|_=>true)=true):
  Yl E n L S ⟨d,.makeInterface t x,ty,pos,af,gd⟩ (.iface t v):=fun a w g _=>by
 have hu:∃u,E.P.underlying t=some u/\(match u with | .interface _=>false|_=>true)=true:=by
  obtain⟨i,z,_,_,_,_,hh⟩:=fC ht;unfold TK.holds at hh;split at hh<;>(split at hh<;>first |(rename_i hu;exact⟨_,hu,rfl⟩)|(cases hh;done)|(cases hk))
 obtain⟨u,hu,hv⟩:=hu;cases u<;>first |(cases hv;done)|simp[execOp,Instr.makeInterface,underlying,program,Sem.run,hu,g.ev hx]
def nJ {t:TypeId}{k sz zs}(h:E.tab t=some ⟨.int k,sz,zs⟩):E.P.underlying t=some (.int k):=by
 obtain⟨i,z,_,_,_,_,hk⟩:=fC h;simp only[TK.holds]at hk;split at hk
 ·rename_i k' hu
  obtain rfl:k=k':=by simpa using hk
  exact hu
 cases hk
def dI {x}{s t:TypeId}{kd k' ks i sz sz' zs zs'}(hx:ev L x=some (.int kd i))(hs:E.tab s=some ⟨.int ks,sz,zs⟩)(ht:E.tab t=some ⟨.int k',sz',zs'⟩)(hw:k'.wrap i=i):
  Yl E n L S ⟨d,.convert s t x,ty,pos,af,gd⟩ (.int k' i):=fun a w g _=>by
 simp[execOp,convert,underlying,program,Sem.run,nJ hs,nJ ht,g.ev hx,Conv.intToInt,hw]
def jZ {x}{t e:TypeId}{p len cap s b sz zs lo hi l h}(hx:ev L x=some (.slice p len cap))(ht:E.tab t=some ⟨.slice e s b,sz,zs⟩)
  (hC:match lo with |none=>l=0|some y=>∃k,ev L y=some (.int k (l:Nat))) (hA:match hi with |none=>h=len|some y=>∃k,ev L y=some (.int k (h:Nat))) (h1:l<=h) (h2:h<=cap):
  Yl E n L S ⟨d,.slice t x lo hi none,ty,pos,af,gd⟩ (.slice (if cap=l then p else p.map (·.add (l*s))) (h-l) (cap-l)):=fun a w g _=>by
 obtain⟨hu,j,hj,hs,_⟩:=fD ht
 have hB:∀(v:Nat)(y:Nat)(c:BoundsCode)(k:IntKind),v<=y->(Instr.sliceBound (.int k v) y c).run E.P w= .ok v w:=by
  intro v y c k hv;simp[Instr.sliceBound,asIntOf,hv]
 cases lo with
 |none=>
  subst hC
  cases hi with
  |none=>
   subst hA
   simp[execOp,Instr.sliceAt,Instr.slice,Instr.sliceBounds,underlying,program,Sem.run,hu,g.ev hx,Go.sizeOf,typeInfo,hj]
  |some y=>
   obtain⟨k,hy⟩:=hA
   simp[execOp,Instr.sliceAt,Instr.slice,Instr.sliceBounds,underlying,program,Sem.run,hu,g.ev hx,g.ev hy,Go.sizeOf,typeInfo,hj,hB _ _ _ _ h2]
 |some z=>
  obtain⟨k',hz⟩:=hC
  cases hi with
  |none=>
   subst hA
   simp[execOp,Instr.sliceAt,Instr.slice,Instr.sliceBounds,underlying,program,Sem.run,hu,g.ev hx,g.ev hz,Go.sizeOf,typeInfo,hj,hs,hB _ _ _ _ h1]
  |some y=>
   obtain⟨k,hy⟩:=hA
   simp[execOp,Instr.sliceAt,Instr.slice,Instr.sliceBounds,underlying,program,Sem.run,hu,g.ev hx,g.ev hy,g.ev hz,Go.sizeOf,typeInfo,hj,hs,hB _ _ _ _ h2,hB _ _ _ _ h1]
def QY {x}{xt:TypeId}{b}(hx:ev L x=some (.bool b)):Yl E n L S ⟨d,.unOp .not xt x,ty,pos,af,gd⟩ (.bool (!b)):=fun a w g _=>by
 simp[execOp,Op.unary,g.ev hx]
def aT {x k vs v}(hx:ev L x=some (.tuple ⟨vs⟩))(hv:vs[k]?=some v):Yl E n L S ⟨d,.extract x k,ty,pos,af,gd⟩ v:=fun a w g _=>by
 simp[execOp,Instr.extract,g.ev hx,hv]
def aR {x}{t e:TypeId}{p len cap s b sz zs}(hx:ev L x=some (.slice p len cap))(ht:E.tab t=some ⟨.slice e s b,sz,zs⟩):
  Yl E n L S ⟨d,.call {callee:= .builtin .len,args:= #[x],argTypes:= #[t]},ty,pos,af,gd⟩ (.int .i64 (len:Nat)):=fun a w g _=>by
 obtain⟨hu,_⟩:=fD ht;simp[execOp,resolve,invoke,builtin,Builtin.len_,underlying,program,Sem.run,hu,g.ev hx,goInt]
def XY {x}{t:TypeId}{bs sz zs}(hx:ev L x=some (.string bs))(ht:E.tab t=some ⟨.string,sz,zs⟩):
  Yl E n L S ⟨d,.call {callee:= .builtin .len,args:= #[x],argTypes:= #[t]},ty,pos,af,gd⟩ (.int .i64 (bs.size:Nat)):=fun a w g _=>by
 obtain⟨i',z,_,_,_,_,hk⟩:=fC ht;simp only[TK.holds]at hk;split at hk
 ·rename_i hu
  simp[execOp,resolve,invoke,builtin,Builtin.len_,underlying,program,Sem.run,hu,g.ev hx,goInt]
 cases hk
def UR {x y}{ts:Array TypeId}{i j kd}(hx:ev L x=some (.int kd i))(hy:ev L y=some (.int kd j)):
  Yl E n L S ⟨d,.call {callee:= .builtin .min,args:= #[x,y],argTypes:=ts},ty,pos,af,gd⟩ (.int kd (if j<i then j else i)):=fun a w g _=>by
 simp[execOp,resolve,invoke,builtin,Builtin.min_,Builtin.min2,g.ev hx,g.ev hy]
def UQ {x y}{ts:Array TypeId}{i j kd}(hx:ev L x=some (.int kd i))(hy:ev L y=some (.int kd j)):
  Yl E n L S ⟨d,.call {callee:= .builtin .max,args:= #[x,y],argTypes:=ts},ty,pos,af,gd⟩ (.int kd (if i<j then j else i)):=fun a w g _=>by
 simp[execOp,resolve,invoke,builtin,Builtin.max_,Builtin.max2,g.ev hx,g.ev hy]
end
section
open Go Go.RowKit
variable {E:Bp}{n:Nat}{L:Fr}{S H H':List HP}{ty:TypeId}{pos:String}{af:Array Edge}{d:Option Nat}{gd:Option (Nat×Bool)}{K:Value->List HP->Prop}{Q:Exit->Act->World->Prop}

def bP:Value->List Value
 | .agg c=>c.toList
 |v=>[v]
def nX (v:Value):v.cells.toList=bP v:=by cases v<;>rfl
def bX:List Value->Nat->List Value->List Value
 |vs,_,[]=>vs
 |vs,o,u::us=>bX (vs.set o u) (o+1) us
def Yj:Value->Bool
 | .agg _| .tuple _=>false
 |_=>true
def iU:List Value->Bool
 |[]=>true
 |u::us=>Yj u&&iU us
def WV:∀{l:List Value},iU l=true->∀u∈l,u.oneCell'=true
 |[],_,_,h=>by cases h
 |a::l,h,u,hu=>by
  simp only[iU,ik]at h;rcases di.1 hu with rfl|hu
  ·cases u<;>first |rfl|(simp[Yj]at h)
  exact WV h.2 u hu
def pR {w0}{bt:TypeId}{b}:∀(us:List Value)(vs:List Value)(o i:Nat)(w:World),CR w0 w (cells b vs bt::H)->iU us=true->o+i+us.length<=vs.length->
  ∃w',(storeCells ⟨b,o,none⟩ us i).run E.P w= .ok () w'/\CR w0 w' (cells b (bX vs (o+i) us) bt::H)
 |[],vs,o,i,w,s,_,_=>⟨w,by simp[storeCells],s⟩
 |u::us,vs,o,i,w,s,hp,hl=>by
  simp only[iU,ik]at hp;simp only[az]at hl;have hv:vs[o+i]?=some (vs[o+i]'oO):=ag _;have hc:=s.cell (o+i) hv;have hf:=s.free (o+i);obtain⟨w',hr,hs⟩:=pR us (vs.set (o+i) u) o (i+1) _ (s.setCell (o+i) u) hp.2 (by rw[List.length_set];omega);refine⟨w',?_,by simpa[bX,qa]using hs⟩
  have hA:(store ⟨b,o+i,none⟩ u).run E.P w= .ok () (w.setCell ⟨b,o+i,none⟩ u):=by
   have h1:=hp.1;cases u<;>first |(simp[Yj]at h1;done)|simp[store,Sem.run,hc,hf]
  rw[storeCells];simp only[addr_add,Sem.run_bind,hA,Result.andThen_ok];exact hr
def bL {x y}{t:TypeId}{b o vs}{bt:TypeId}{k sz zs v}(h:ev L x=some (.pointer (some ⟨b,o,none⟩)))(hy:ev L y=some v)(ht:E.tab t=some ⟨k,sz,zs⟩)
  (hB:(bP v).length=sz) (hm:CO (cells b vs bt) H H') (hp:iU (bP v)=true) (hl:o+sz<=vs.length) (hk:K undef (cells b (bX vs o (bP v)) bt::H')):Ld E n L H ⟨d,.store t x y,ty,pos,af,gd⟩ K:=fun Q next a w g hn=>by
 obtain⟨w',hr,hs⟩:=pR (E:=E) (bP v) vs o 0 w (g.hp.take hm) hp oO;have hz:v.cells.size=sz:=by rw[<-mo,nX,hB]
 have hA:(execOp a.eval ⟨d,.store t x y,ty,pos,af,gd⟩).run E.P w= .ok .skip w':=by
  simp[execOp,Instr.storeAt,Instr.sureAddr,storeVar,g.f.ev h,g.f.ev hy,wG ht,hz,nX,hr]
 unfold Oper.wp;rw[hA,Oper.upon_skip];exact hn _ _ _ hk hs
def dA {t:TypeId}{k sz zs}(ht:E.tab t=some ⟨k,sz,zs⟩)(hk:∀b,K (.pointer (some ⟨b,0,none⟩)) (cells b zs t::H)):Ld E n L H ⟨d,.alloc t,ty,pos,af,gd⟩ K:=fun Q next a w g hn=>by
 obtain⟨z,hz,hc⟩:=VK ht w
 have hA:(execOp a.eval ⟨d,.alloc t,ty,pos,af,gd⟩).run E.P w= .ok (.value (.pointer (some ⟨w.heap.size,0,none⟩))) (w.alloc (.cells z.cells t)):=by
  simp[execOp,Instr.alloc,hz,newVar,newRow,newObj];rfl
 unfold Oper.wp;rw[hA,Oper.upon_value];refine hn _ _ _ (hk _) ?_;have e:z.cells=⟨zs⟩:=by rw[<-hc]
 rw[e];exact g.hp.new _
def gN {t:TypeId}{x v}(hx:ev L x=some v)(hk:∀b,K (.pointer (some ⟨b,0,none⟩)) (cells b (bP v) t::H)):Ld E n L H ⟨d,.box t x,ty,pos,af,gd⟩ K:=fun Q next a w g hn=>by
 have hA:(execOp a.eval ⟨d,.box t x,ty,pos,af,gd⟩).run E.P w= .ok (.value (.pointer (some ⟨w.heap.size,0,none⟩))) (w.alloc (.cells v.cells t)):=by
  simp[execOp,Instr.box,newVar,newRow,newObj,g.f.ev hx];rfl
 unfold Oper.wp;rw[hA,Oper.upon_value];refine hn _ _ _ (hk _) ?_;have e:v.cells=⟨bP v⟩:=by rw[<-nX]
 rw[e];exact g.hp.new _

def evP (L:Fr):List (Nat×Operand)->Option (List (Nat×Value))
 |[]=>some []
 |(i,x)::r=>match ev L x,evP L r with
  |some v,some l=>some ((i,v)::l)
  |_,_=>none
def Db.evP {a}(g:Db n L a):∀{xs:List (Nat×Operand)}{vs:List (Nat×Value)},evP L xs=some vs->xs.map (fun p=>(p.1,a.eval p.2))=vs
 |[],vs,h=>by simpa[Sl.evP]using h
 |(i,x)::r,vs,h=>by
  simp only[Sl.evP]at h;split at h
  ·rename_i v l h1 h2
   simp at h;subst h;simp[g.ev h1,g.evP h2]
  cases h
def Rm (place:Nat->Option (Nat×Nat))(cs:List Value):List (Nat×Value)->Option (List Value)
 |[]=>some cs
 |(i,v)::r=>match place i with
  |some (o,s)=>bif Nat.beq (bP v).length s&&Nat.ble (o+(bP v).length) cs.length then Rm place (bX cs o (bP v)) r else none
  |none=>none
def aN:∀(us vs:List Value)(o:Nat),(bX vs o us).length=vs.length
 |[],_,_=>rfl
 |u::us,vs,o=>by simp[bX,aN us]
def ZU:∀(us:List Value)(vs:List Value)(o i:Nat),((us.zipIdx i).foldl (fun(cs:Array Value)(p:Value×Nat)=>cs.setIfInBounds (o+p.2) p.1) ⟨vs⟩)=(⟨bX vs (o+i) us⟩:Array Value)
 |[],vs,o,i=>rfl
 |u::us,vs,o,i=>by
  simp only[List.zipIdx_cons,sj,bX];have e:(⟨vs⟩:Array Value).setIfInBounds (o+i) u=⟨vs.set (o+i) u⟩:=List.setIfInBounds_toArray ..;rw[qa,<-ZU us (vs.set (o+i) u) o (i+1),e]
def VQ (place:Nat->Option (Nat×Nat)):∀(ps:List (Nat×Value))(cs rs:List Value),Rm place cs ps=some rs->Instr.fill place ⟨cs⟩ ps=some ⟨rs⟩
 |[],cs,rs,h=>by simp only[Rm,ry]at h;subst h;rfl
 |(i,v)::r,cs,rs,h=>by
  simp only[Rm]at h;split at h
  ·rename_i o s hp
   cases hc:(Nat.beq (bP v).length s&&Nat.ble (o+(bP v).length) cs.length)with
   |false=>rw[hc]at h;cases h
   |true=>
    rw[hc]at h
    simp only[cond_true]at h
    simp only[ik]at hc
    have h1:=mg hc.1
    have h2:=bz hc.2
    have hz:v.cells.size=(bP v).length:=by rw[<-mo,nX]
    rw[Instr.fill]
    simp only[hp]
    rw[if_neg (by simp[hz,h1];omega)]
    have hf:=ZU (bP v) cs o 0
    have e:v.cells=⟨bP v⟩:=by rw[<-nX]
    have:(v.cells.zipIdx.foldl (fun(cs:Array Value)(x:Value×Nat)=>match x with |(c,j)=>cs.setIfInBounds (o+j) c) (⟨cs⟩:Array Value))=⟨bX cs o (bP v)⟩:=by
     rw[<-Array.foldl_toList,Array.toList_zipIdx,e];simpa using hf
    rw[this]
    exact VQ place r _ _ h
  cases h
def iE {t:TypeId}{ps vs fs sz zs cs}(ht:E.tab t=some ⟨.struct fs,sz,zs⟩)(hp:evP L ps=some vs)(hf:Rm (fs[·]?) zs vs=some cs):
  Yl E n L S ⟨d,.build t ps.toArray,ty,pos,af,gd⟩ (.agg ⟨cs⟩):=fun a w g _=>by
 obtain⟨z,hz,hc⟩:=VK ht w;obtain⟨i',z',_,_,_,_,hk⟩:=fC ht;have hC:=g.evP hp;simp only[TK.holds]at hk;split at hk
 ·rename_i gs hu
  simp only[ik]at hk;obtain⟨⟨h0,h1⟩,h2⟩:=hk;have hD:gs.toList.map (fun g=>(g.offset,QW E.P g.type))=fs:=by simpa using h0
  have hm:∀(l:List Field),(∀g∈l,(E.P.info? g.type).isSome=true)->(l.mapM (fun f=>do pure (f.offset,<-Go.sizeOf f.type)):Sem (List (Nat×Nat))).run E.P w= .ok (l.map (fun g=>(g.offset,QW E.P g.type))) w:=by
   intro l;induction l with
   |nil=>intro _;simp
   |cons g l ih=>
    intro hl
    obtain⟨j,hj⟩:=vo.1 (hl g BF)
    have hi:=ih (fun g hg=>hl g (by simp[hg]))
    have hE:(Go.sizeOf g.type).run E.P w= .ok (QW E.P g.type) w:=by simp[Go.sizeOf,typeInfo,program,Sem.run,hj,QW]
    rw[zy]
    simp only[Sem.run_bind,hE,Result.andThen_ok,Sem.run_pure,hi,kz]
  have hB:=hm gs.toList (fun g hg=>yh.1 h2 g (by simpa using hg))
  have hF:(gs.mapM (fun f=>do pure (f.offset,<-Go.sizeOf f.type)):Sem (Array (Nat×Nat))).run E.P w= .ok ⟨fs⟩ w:=by
   rw[hD]at hB;rw[AA,<-bind_pure_comp,Sem.run_bind,hB];rfl
  have hA:=VQ (fs[·]?) vs zs cs hf;have e:z.cells=⟨zs⟩:=by rw[<-hc]
  have hG:(ps.toArray.map fun x=>match x with |(i,x)=>(i,a.eval x)).toList=vs:=by simpa using hC
  simp only[execOp,Instr.build,Sem.run_bind,hz,Result.andThen_ok,underlying,program,Sem.run,hu,hF,e,hG,Sem.run_pure];have hg:(fun x:Nat=>(⟨fs⟩:Array (Nat×Nat))[x]?)=(fs[·]?):=by funext x;simp
  rw[hg,hA];rfl
 cases hk

def Fy (P : Program) (f : FuncId) : Bool := match P.funcs[f]? with | some fn => fn.body.isSome && fn.name != "runtime.NumGoroutine" | none => false
def Ct (E:Bp)(f:FuncId)(args:List Value)(Pre:List HP)(Φ:Value->List HP->Prop):Prop:=
 ∀(R:HP)(w:World),CR E.w0 w (Pre++[R])->Calls E.P f ⟨args⟩ w (fun e w'=>∃v Qs,e= .returned v/\Φ v Qs/\CR E.w0 w' (Qs++[R]))
def tY {P f}(hf:Fy P f=true)(args:Array Value)(w:World):(callFunc f args).run P w= .ok (.enter f args) w:=by
 unfold Fy at hf;split at hf
 ·rename_i fn hfn
  simp only[ik,bne_iff_ne,ne_eq]at hf;obtain⟨c,hc⟩:=vo.1 hf.1;simp[callFunc,program,Sem.run,hfn,hf.2,hc]
 cases hf
def aZ {f args}{ts:Array TypeId}{vs Pre}{Φ:Value->List HP->Prop}(hc:Ct E f vs Pre Φ)(ha:evs L args=some vs)(hf:Fy E.P f=true)(hs:IW Pre H H')(hk:∀v Qs,Φ v Qs->K v (Qs++H')):
  Ld E n L H ⟨d,.call {callee:= .value (.func f),args:=args.toArray,argTypes:=ts},ty,pos,af,gd⟩ K:=fun Q next a w g hn=>by
 have hA:(execOp a.eval ⟨d,.call {callee:= .value (.func f),args:=args.toArray,argTypes:=ts},ty,pos,af,gd⟩).run E.P w= .ok (.enter f ⟨vs⟩) w:=by
  have h1:=g.f.evs ha;have h2:a.eval (.func f)= .func (.func f) #[] #[]:=rfl;simp[execOp,resolve,Deferred.ofValue,invoke,h2,tY hf,h1]
 unfold Oper.wp;rw[hA,Oper.upon_enter];refine(hc (dW H') w ((g.hp.sub hs).imp fun _=>lD)).mono ?_;rintro e w'⟨v,Qs,rfl,hΦ,hB⟩;exact hn v _ w' (hk v Qs hΦ) (hB.imp fun _=>qX)
def dS:Nat->List Value->Fr
 |_,[]=>[]
 |i,v::r=>(i,v)::dS (i+1) r
def qHb:∀(vs:List Value)(i t:Nat)(v:Value),DJ (dS i vs) t=some v->i<=t/\vs[t-i]?=some v
 |[],_,_,_,h=>by cases h
 |u::us,i,t,v,h=>by
  simp only[dS,qQ]at h;by_cases hk:i=t
  ·subst hk;rw[if_pos rfl]at h;exact⟨ai _,by simpa using h⟩
  rw[if_neg hk]at h;obtain⟨h1,h2⟩:=qHb us (i+1) t v h;refine⟨oO,?_⟩;have:t-i=(t-(i+1))+1:=oO;rw[this];simpa using h2
abbrev JH (E:Bp)(Φ:Value->List HP->Prop)(R:HP):Ending->World->Prop:=fun e w'=>∃v Qs,e= .returned v/\Φ v Qs/\CR E.w0 w' (Qs++[R])
def bO {f fn c args Pre}{Φ:Value->List HP->Prop}(hf:E.P.funcs[f]?=some fn)(hb:fn.body=some c)(hn:fn.ntmps=n)(hl:Nat.ble args.length n=true)
  (h:∀R,WP E c (bodyPost E.P fn (JH E Φ R)) n (dS 0 args) (Pre++[R])):Ct E f args Pre Φ:=fun R w s=>by
 have hB:=bz hl;refine calls_of_wp hf hb (h R _ w ⟨⟨?_,O,fun t v hv=>?_⟩,s⟩)
 ·simp[hn];omega
 obtain⟨_,h2⟩:=qHb args 0 t v hv;have hA:=(ae.1 h2).1;rw[wy (by simpa using hA)];simpa using h2
inductive Rs (E:Bp)(L:Fr)(S:List HP):List ResultVar->List Value->Prop where
 |nil:Rs E L S [] []
 |tmp {t:Nat} {v:Value} {rs:List ResultVar} {vs:List Value}:DJ L t=some v->Rs E L S rs vs->Rs E L S (.tmp t::rs) (v::vs)
 |cell {a b o:Nat} {t:TypeId} {us zs:List Value} {k:TK} {sz:Nat} {rs:List ResultVar} {vs:List Value}:DJ L a=some (.pointer (some ⟨b,o,none⟩))->E.tab t=some ⟨k,sz,zs⟩->k.agg=true->
   GQ S b o sz us->Rs E L S rs vs->Rs E L S (.cell a t::rs) (.agg ⟨us⟩::vs)
 |cell1 {a b o:Nat} {t:TypeId} {zs:List Value} {k:TK} {sz:Nat} {rs:List ResultVar} {vs:List Value} {v:Value}:DJ L a=some (.pointer (some ⟨b,o,none⟩))->E.tab t=some ⟨k,sz,zs⟩->k.agg=false->
   Ew S b o v->Rs E L S rs vs->Rs E L S (.cell a t::rs) (v::vs)
def one:List Value->Value
 |[v]=>v
 |vs=> .tuple ⟨vs⟩
def UC (tmps:Array Value):ResultVar->Sem Value
 | .tmp t=>pure (tmps.getD t undef)
 | .cell a t=>do loadVar t (<-asAddr (tmps.getD a undef))
def Rs.run {rs vs}(h:Rs E L S rs vs){a w}(g:Db n L a)(s:CR E.w0 w S):(rs.mapM (UC a.tmps)).run E.P w= .ok vs w:=by
 induction h with
 |nil=>simp
 |tmp h1 _ ih=>simp[zy,UC,g.fr _ _ h1,ih]
 | @cell a' b o t us zs k sz rs vs h1 ht hk hm _ ih=>
  obtain⟨hl,hc⟩:=hm.cells s
  have hr:=zB (P:=E.P) b o us 0 #[] (fun j u hu=>by rw[jh];exact hc j u hu)
  rw[hl]at hr
  simp[zy,UC,g.fr _ _ h1,asAddr,loadVar,nD ht,hk,wG ht,loadCells,hr,ih]
 | @cell1 a' b o t zs k sz rs vs v h1 ht hk hm _ ih=>
  have hc:=hm.cell s
  simp[zy,UC,g.fr _ _ h1,asAddr,loadVar,nD ht,hk,load,Sem.run,hc,ih]
def Rs.gives {fn rs vs}(hA:fn.results=⟨rs⟩)(h:Rs E L S rs vs){a w}(g:Db n L a)(s:CR E.w0 w S):(results fn a.tmps).run E.P w= .ok (one vs) w:=by
 have hr:=h.run g s
 have e:results fn a.tmps=(do let vs <-(⟨rs⟩:Array ResultVar).mapM (UC a.tmps);pure (if h:vs.size=1 then vs[0]else .tuple vs)):=by
  unfold results;rw[hA];congr 2
 rw[e,AA];simp only[bind_pure_comp,Sem.run_map,hr,Result.andThen_ok];match vs with
 |[]=>rfl
 |[v]=>rfl
 |_::_::_=>rfl
def cK {fn rs vs}{Φ:Value->List HP->Prop}{R}(Qs:List HP)(hA:fn.results=⟨rs⟩)(h:Rs E L H rs vs)(hΦ:Φ (one vs) Qs)(hH:∀k,dW H k->dW (Qs++[R]) k):
  AT E (bodyPost E.P fn (JH E Φ R)) .ret n L H:=fun _ _ g=>⟨g.f.df,_,h.gives hA g.f g.hp,_,Qs,rfl,hΦ,g.hp.imp hH⟩
def xP {fn rs vs}{Φ:Value->List HP->Prop}{R}(Qs:List HP)(hA:fn.results=⟨rs⟩)(h:Rs E L H rs vs)(hΦ:Φ (one vs) Qs)(hH:∀k,dW H k->dW (Qs++[R]) k):
  AT E (bodyPost E.P fn (JH E Φ R)) .normal n L H:=fun _ _ g=>⟨g.f.df,_,h.gives hA g.f g.hp,_,Qs,rfl,hΦ,g.hp.imp hH⟩
def Dm {ps l l'}(s:IW ps l l'):∀k,dW l k->dW ps k:=fun k h=>by
 have:=s.out h;clear s h;induction ps generalizing k with
 |nil=>trivial
 |cons p ps ih=>exact fG (fun k'=>ih k') this
def tZ {w0}{bt:TypeId}{b}(cur:Array Value)(o:Nat)(us:List Value)(w:World)(s:CR w0 w (pt b (.cells cur bt (0,0))::H))(hp:iU us=true)(hl:o+us.length<=cur.size):
  ∃w',(storeCells ⟨b,o,none⟩ us 0).run E.P w= .ok () w'/\CR w0 w' (pt b (.cells ⟨bX cur.toList o us⟩ bt (0,0))::H):=by
 have s':CR w0 w (cells b cur.toList bt::H):=s;obtain⟨w',hr,hs⟩:=pR (E:=E) us cur.toList o 0 w s' hp (by simpa using hl);exact⟨w',hr,by simpa[cells]using hs⟩
def qE:∀(us vs:List Value)(o m:Nat),o+us.length<=m->(bX vs o us).take m=bX (vs.take m) o us
 |[],_,_,_,_=>rfl
 |u::us,vs,o,m,h=>by
  simp only[az]at h;rw[bX,qE us _ _ _ oO,bX,List.take_set]
def aS {x y}{t:TypeId}{b o xs c m esz}{bt:TypeId}{k sz zs v}(h:ev L x=some (.pointer (some ⟨b,o,none⟩)))(hy:ev L y=some v)(ht:E.tab t=some ⟨k,sz,zs⟩)
  (hC:(bP v).length=sz) (hm:CO (sl (some ⟨b,0,none⟩) c bt esz m xs) H H') (hp:iU (bP v)=true) (hl:o+sz<=m*esz) (hk:K undef (sl (some ⟨b,0,none⟩) c bt esz m (bX xs o (bP v))::H')):Ld E n L H ⟨d,.store t x y,ty,pos,af,gd⟩ K:=fun Q next a w g hn=>by
 have s0:=g.hp.take hm;have hD:xs.length=m*esz:=by obtain⟨h1,h2,_,_,hh,_⟩:=s0.hp;exact hh.1
 obtain⟨cur,s1,h1,h2,h3,h4⟩:=s0.slice;have hF:m*esz<=cur.size:=by rw[h3];exact kg _ h1
 obtain⟨w',hr,hs⟩:=tZ (E:=E) cur o (bP v) w s1 hp oO;have hz:v.cells.size=sz:=by rw[<-mo,nX,hC]
 have hA:(execOp a.eval ⟨d,.store t x y,ty,pos,af,gd⟩).run E.P w= .ok .skip w':=by
  simp[execOp,Instr.storeAt,Instr.sureAddr,storeVar,g.f.ev h,g.f.ev hy,wG ht,hz,nX,hr]
 unfold Oper.wp;rw[hA,Oper.upon_skip];refine hn _ _ _ hk (hs.imp fun k' hE=>eU (fun k'' hB=>?_) hE);refine⟨by rw[aN,hD],.inr ⟨b,_,rfl,hB,h1,h2,by simpa[aN]using h3,?_⟩⟩;rw[qE _ _ _ _ oO,h4]
def aU {t e:TypeId}{k ps vs es by_ sz sz' zs zs' cs kk}(ht:E.tab t=some ⟨.slice e es by_,sz,zs⟩)(he:E.tab e=some ⟨kk,sz',zs'⟩)(hp:evP L ps=some vs)
  (hB:Nat.ble (k*es) 16777216&&Nat.blt 0 (k*es)=true) (hf:Rm (fun i=>some (i*es,es)) ((List.range (k*es)).map (fun i=>zs'.getD (i%zs'.length) default)) vs=some cs) (hk:∀b,K (.slice (some ⟨b,0,none⟩) k k) (cells b cs e::H)):
  Ld E n L H ⟨d,.buildSlice t k ps.toArray,ty,pos,af,gd⟩ K:=fun Q next a w g hn=>by
 obtain⟨hu,j,hj,hs,_⟩:=fD ht;obtain⟨z,hz,hc⟩:=VK he w;simp only[ik]at hB;have g1:=bz hB.1;have g2:0<k*es:=by simpa[zo]using hB.2
 have hF:=g.f.evP hp;have hA:=VQ (fun i=>some (i*es,es)) vs _ cs hf;have hG:z.cells=⟨zs'⟩:=by rw[<-hc]
 have hC:((Array.range (k*es)).map (fun i=>z.cells[i%z.cells.size]!))=⟨(List.range (k*es)).map (fun i=>zs'.getD (i%zs'.length) default)⟩:=by
  rw[hG];apply xf.1;simp only[AX,Array.toList_range];refine qi fun i _=>?_
  simp only[yf,List.getElem!_toArray,lh,List.getElem!_eq_getElem?_getD]
 have hH:(ps.toArray.map fun x=>match x with |(i,x)=>(i,a.eval x)).toList=vs:=by simpa using hF
 have hD:(execOp a.eval ⟨d,.buildSlice t k ps.toArray,ty,pos,af,gd⟩).run E.P w= .ok (.value (.slice (some ⟨w.heap.size,0,none⟩) k k)) (w.alloc (.cells ⟨cs⟩ e)):=by
  have hE:¬k*es>2^24:=by simpa using g1
  have hI:¬k*es=0:=oO;simp only[execOp,Instr.buildSlice,Sem.run_bind,underlying,program,Sem.run,hu,Result.andThen_ok,Sem.run_pure,Go.sizeOf,typeInfo,hj,hs,hE,hI,if_false,hz,hC,hH,hA];rfl
 unfold Oper.wp;rw[hD,Oper.upon_value];exact hn _ _ _ (hk _) (g.hp.new _)
def CR.owns {w0 w p c sz m xs}{bt:TypeId}(s:CR w0 w (sl p c bt sz m xs::H)):w.ownsRow w0.heap.size bt sz (.slice p m c) m xs:=by
 have hh:=s.hp;obtain⟨h1,h2,hd,e,hp,hq⟩:=hh;refine⟨hp.1,?_⟩;rcases hp.2 with⟨rfl,rfl,rfl⟩|⟨g,cur,rfl,hg,r⟩
 ·exact .inl ⟨O,O⟩
 obtain⟨hw,hb⟩:=CR.ptr (b:=g) (o:= .cells cur bt (0,0)) ⟨s.os,s.tape,s.output,s.size,s.old,⟨h1,h2,hd,e,hg,hq⟩⟩;exact .inr ⟨g,c,cur,O,hb,hw,r⟩
def CR.resl {w0 w w' p c c' sz m m' g xs xs'}{bt:TypeId}(s:CR w0 w (sl p c bt sz m xs::H))(ho:w'.ownsRow w0.heap.size bt sz (.slice (some ⟨g,0,none⟩) m' c') m' xs')(hg:w.grownBy w' (Value.slice p m c).ownBlock)
  (hC:(Value.slice p m c).ownBlock=some g\/g=w.heap.size):CR w0 w' (sl (some ⟨g,0,none⟩) c' bt sz m' xs'::H):=by
 obtain⟨h1,h2,hd,e,hp,hq⟩:=s.hp
 have hN:∀k,(Value.slice p m c).ownBlock=some k->w0.heap.size<=k/\h1 k≠none:=by
  intro k hk;rcases hp.2 with⟨rfl,_⟩|⟨g',cur,rfl,hB,_⟩
  ·cases hk
  obtain rfl:g'=k:=by simpa[Value.ownBlock]using hk
  exact⟨(CR.ptr (b:=g') (o:= .cells cur bt (0,0)) ⟨s.os,s.tape,s.output,s.size,s.old,⟨h1,h2,hd,e,hB,hq⟩⟩).2,by rw[hB];simp⟩
 have hF:=s.size
 obtain⟨cur,hA,hG,r⟩:∃cur,w'.heap[g]?=some (.cells cur bt (0,0))/\w0.heap.size<=g/\m'<=c'/\c'<=maxLen/\cur.size=c'*sz/\cur.toList.take (m'*sz)=xs':=by
  rcases ho.2 with⟨h0,_⟩|⟨g',cap,cur,h0,hb,hD,r⟩
  ·cases h0
  simp only[Value.slice.injEq,ry,Addr.mk.injEq,and_true,true_and]at h0;obtain⟨rfl,rfl⟩:=h0;exact⟨cur,hD,hb,r⟩
 refine⟨hg.os.trans s.os,hg.tape.trans s.tape,hg.output.trans s.output,jv s.size hg.size,fun k hk=>(hg.block k (mi hk s.size) (fun ek=>by have:=(hN k ek.symm).1;omega)).trans (s.old k hk),?_⟩
 have hE:h2 g=none:=by
  rcases hC with h| h
  ·rcases hd g with x| x
   ·exact absurd x (hN g h).2
   exact x
  cases x:h2 g with
  |none=>rfl
  |some o=>
   have:=congrFun e g
   rw[kZ hd x]at this
   unfold mW at this
   rw[if_neg oO,h]at this
   simp at this
 refine⟨fun k=>if(h2 k).isSome then none else mW w0 w' k,h2,?_,?_,⟨ho.1,.inr ⟨g,cur,O,?_,r⟩⟩,hq⟩
 ·intro k;cases x:h2 k with
  |none=>exact .inr rfl
  |some o=>exact .inl (by simp[x])
 ·funext k;cases x:h2 k with
  |none=>simp[join,x]
  |some o=>
   simp only[join,x,zx,if_true,Av]
   have:=congrFun e k
   rw[kZ hd x]at this
   rw[<-this]
   unfold mW at this ⊢
   split
   ·rfl
   rename_i hk
   rw[if_neg hk]at this
   refine hg.block k (ic.1 this).1 (fun ek=>?_)
   rcases hd k with y| y
   ·exact(hN k ek.symm).2 y
   rw[x]at y;cases y
 simp only[hE];unfold mW;rw[if_neg BF,if_neg oO];exact hA
def bU {x y}{t e:TypeId}{p c m k cc g es by_ sz sz' xs us zs zs' kk H''}{bt:TypeId}(ht:E.tab t=some ⟨.slice e es by_,sz,zs⟩)(he:E.tab e=some ⟨kk,sz',zs'⟩)(hz:Nat.beq zs'.length es&&Nat.blt 0 es=true)
  (hx:ev L x=some (.slice p m c)) (hy:ev L y=some (.slice (some ⟨g,0,none⟩) k cc)) (hm:CO (cells g us bt) H H') (hC:CO (sl p c e es m xs) H' H'') (hp:iU us=true) (hl:us.length=k*es) (h0:0<k) (hb:(m+k)*by_<=140737488355328) (hD:m+k<=maxLen)
  (hk:∀g' c' m' xs',m'=m+k->xs'=xs++us->K (.slice (some ⟨g',0,none⟩) m' c') (sl (some ⟨g',0,none⟩) c' e es m' xs'::H'')):Ld E n L H ⟨d,.call {callee:= .builtin .append,args:= #[x,y],argTypes:= #[t,t]},ty,pos,af,gd⟩ K:=fun Q next a w G hn=>by
 obtain⟨hu,j,hj,hs,hE⟩:=fD ht;obtain⟨i,z,hi,hJ,hF,hG,_⟩:=fC he;obtain rfl:i=j:=by rw[hi]at hj;simpa using hj
 simp only[ik]at hz;have z1:=mg hz.1;have z2:0<es:=by simpa[zo]using hz.2
 have s1:=G.hp.take hm;have s2:CR E.w0 w (sl p c e es m xs::cells g us bt::H''):=(s1.imp fun _ h=>gK (fG (fun _=>hC.out) h));have hA:∀j u,us[j]?=some u->w.cell? ((⟨g,0,none⟩:Addr).add j)=some u:=fun j u hu=>by rw[addr_add,jh];exact s1.cell j hu
 obtain⟨g',c',w',hr,ho,hH,hI,_⟩:=run_append_lies (P:=E.P) w t ty E.w0.heap.size e i z es by_ hu hi hF hs hE (by rw[<-mo,hG];exact z1) z2 (.slice p m c) m xs s2.owns ⟨g,0,none⟩ k cc us hl hA (WV hp) h0 hD hb s2.size _ rfl
 have hB:(execOp a.eval ⟨d,.call {callee:= .builtin .append,args:= #[x,y],argTypes:= #[t,t]},ty,pos,af,gd⟩).run E.P w= .ok (.value (.slice (some ⟨g',0,none⟩) (m+k) c')) w':=by
  simp[execOp,resolve,invoke,builtin,G.f.ev hx,G.f.ev hy,hr]
 unfold Oper.wp;rw[hB,Oper.upon_value];exact hn _ _ _ (hk g' c' _ _ O O) ((s2.resl ho hH hI).imp fun _=>fG fun _=>Wh)
def fU {t:TypeId}{sz}:∀k,dW H k->dW (sl none 0 t sz 0 []::H) k:=fun k h=>⟨fun _=>none,k,fun _=> .inl rfl,by funext b;simp[join],⟨by simp,.inl ⟨rfl,rfl,rfl⟩⟩,h⟩
def eG {p c m sz xs}{t:TypeId}{k}(h:sl p c t sz m xs k)(hm:0<m):∃g,p=some ⟨g,0,none⟩:=by
 rcases h.2 with⟨_,h0,_⟩|⟨g,cur,h0,_⟩
 ·omega
 exact⟨g,h0⟩
def lX {p c m sz xs}{t:TypeId}{k}(h:sl p c t sz m xs k):m<=c/\c<=maxLen/\xs.length=m*sz:=by
 rcases h.2 with⟨_,h0,h1⟩|⟨g,cur,_,_,h0,h1,_⟩
 ·exact⟨oO,oO,h.1⟩
 exact⟨h0,h1,h.1⟩
def gU {g m sz us}{t:TypeId}(hl:us.length=m*sz)(hm:m<=maxLen):∀k,cells g us t k->sl (some ⟨g,0,none⟩) m t sz m us k:=fun k h=>
 ⟨hl,.inr ⟨g,⟨us⟩,rfl,h,ai _,hm,by simpa using hl,by rw[<-hl];simp⟩⟩
def nK {p c m m' sz xs xs'}{t:TypeId}(hm:m'<=m)(hx:xs.take (m'*sz)=xs')(hp:p≠none):∀k,sl p c t sz m xs k->sl p c t sz m' xs' k:=fun k h=>by
 have hA:m'*sz<=m*sz:=kg _ hm;refine⟨by rw[<-hx,ig,h.1];omega,?_⟩;rcases h.2 with⟨h0,_⟩|⟨g,cur,h0,h1,h2,h3,h4,h5⟩
 ·exact absurd h0 hp
 refine .inr ⟨g,cur,h0,h1,oO,h3,h4,?_⟩;rw[<-hx,<-h5,Ao,lm hA]
end
section
open Go Go.RowKit
inductive Tr where
 |leaf
 |node (l:Tr) (k:Nat) (v:TI) (r:Tr)
def Tr.find:Tr->Nat->Option TI
 | .leaf,_=>none
 | .node l k v r,t=>bif Nat.beq t k then some v else bif Nat.blt t k then l.find t else r.find t
def Tr.all (p:Nat->TI->Bool):Tr->Bool
 | .leaf=>true
 | .node l k v r=>p k v&&(l.all p&&r.all p)
def Tr.all_find {p:Nat->TI->Bool}:∀{T:Tr},T.all p=true->∀{t:Nat}{d:TI},T.find t=some d->p t d=true
 | .leaf,_,_,_,h=>by cases h
 | .node l k v r,ha,t,d,h=>by
  simp only[Tr.all,ik]at ha;simp only[Tr.find]at h;cases e:Nat.beq t k with
  |true=>
   rw[e]at h
   have:=mg e
   subst this
   simp only[cond_true,ry]at h
   subst h
   exact ha.1
  |false=>
   rw[e]at h
   cases e2:Nat.blt t k with
   |true=>rw[e2]at h;exact Tr.all_find ha.2.1 h
   |false=>rw[e2]at h;exact Tr.all_find ha.2.2 h
end
end Sl
namespace Go.Proofs.YtnicahfnolhgbaaGreatDoor
open Go Go.RowKit Sl
def PT:Tr:=(.node (.node (.node (.node (.node (.node (.node (.node .leaf 2 ⟨.int .i64,1,[.int .i64 0]⟩ .leaf) 3 ⟨.int .i64,1,[.int .i64 0]⟩ .leaf) 4 ⟨.bool,1,[.bool false]⟩ (.node (.node .leaf 5 ⟨.int .u8,1,[.int .u8 0]⟩ .leaf) 6 ⟨.int .u8,1,[.int .u8 0]⟩ .leaf)) 7 ⟨.struct [(0,1),(1,1),(2,1),(3,1)],4,[.int .i64 0,.int .i64 0,.bool false,.int .u8 0]⟩ (.node (.node (.node .leaf 8 ⟨.struct [(0,1),(1,1),(2,1),(3,1)],4,[.int .i64 0,.int .i64 0,.bool false,.int .u8 0]⟩ .leaf) 9 ⟨.string,1,[.string ByteArray.empty]⟩ .leaf) 10 ⟨.string,1,[.string ByteArray.empty]⟩ (.node .leaf 11 ⟨.string,1,[.string ByteArray.empty]⟩ .leaf))) 12 ⟨.int .u64,1,[.int .u64 0]⟩ (.node (.node (.node (.node .leaf 13 ⟨.struct [(0,1),(1,1)],2,[.string ByteArray.empty,.int .u64 0]⟩ .leaf) 14 ⟨.struct [(0,1),(1,1)],2,[.string ByteArray.empty,.int .u64 0]⟩ .leaf) 15 ⟨.ptr 364,1,[.pointer none]⟩ (.node .leaf 16 ⟨.ptr 367,1,[.pointer none]⟩ .leaf)) 17 ⟨.ptr 375,1,[.pointer none]⟩ (.node (.node (.node .leaf 18 ⟨.struct [(0,1)],1,[.pointer none]⟩ .leaf) 19 ⟨.struct [(0,1)],1,[.pointer none]⟩ .leaf) 20 ⟨.iface,1,[.nilIface]⟩ (.node .leaf 21 ⟨.int .i32,1,[.int .i32 0]⟩ .leaf)))) 22 ⟨.slice 61 6 56,1,[.slice none 0 0]⟩ (.node (.node (.node (.node (.node .leaf 23 ⟨.slice 3 1 8,1,[.slice none 0 0]⟩ .leaf) 25 ⟨.ptr 77,1,[.pointer none]⟩ .leaf) 27 ⟨.ptr 98,1,[.pointer none]⟩ (.node .leaf 28 ⟨.iface,1,[.nilIface]⟩ .leaf)) 29 ⟨.iface,1,[.nilIface]⟩ (.node (.node (.node .leaf 32 ⟨.slice 41 1 8,1,[.slice none 0 0]⟩ .leaf) 33 ⟨.slice 9 1 16,1,[.slice none 0 0]⟩ .leaf) 36 ⟨.ptr 150,1,[.pointer none]⟩ (.node .leaf 38 ⟨.slice 43 2 24,1,[.slice none 0 0]⟩ .leaf))) 41 ⟨.int .i64,1,[.int .i64 0]⟩ (.node (.node (.node (.node .leaf 42 ⟨.struct [(0,1),(1,1)],2,[.string ByteArray.empty,.int .i64 0]⟩ .leaf) 43 ⟨.struct [(0,1),(1,1)],2,[.string ByteArray.empty,.int .i64 0]⟩ .leaf) 44 ⟨.slice 5 1 1,1,[.slice none 0 0]⟩ (.node .leaf 47 ⟨.ptr 118,1,[.pointer none]⟩ .leaf)) 49 ⟨.ptr 122,1,[.pointer none]⟩ (.node (.node (.node .leaf 60 ⟨.struct [(0,1),(1,1),(2,1),(3,1),(4,1),(5,1)],6,[.int .i64 0,.int .i64 0,.int .i64 0,.int .i64 0,.int .i64 0,.string ByteArray.empty]⟩ .leaf) 61 ⟨.struct [(0,1),(1,1),(2,1),(3,1),(4,1),(5,1)],6,[.int .i64 0,.int .i64 0,.int .i64 0,.int .i64 0,.int .i64 0,.string ByteArray.empty]⟩ .leaf) 62 ⟨.int .u64,1,[.int .u64 0]⟩ (.node .leaf 63 ⟨.struct [(0,1),(1,1)],2,[.int .u64 0,.int .u64 0]⟩ .leaf))))) 64 ⟨.struct [(0,1),(1,1)],2,[.int .u64 0,.int .u64 0]⟩ (.node (.node (.node (.node (.node (.node .leaf 65 ⟨.struct [(0,1),(1,1),(2,1),(3,1),(4,2)],6,[.int .i64 0,.int .i64 0,.int .i64 0,.int .i64 0,.int .u64 0,.int .u64 0]⟩ .leaf) 66 ⟨.struct [(0,1),(1,1),(2,1),(3,1),(4,2)],6,[.int .i64 0,.int .i64 0,.int .i64 0,.int .i64 0,.int .u64 0,.int .u64 0]⟩ .leaf) 69 ⟨.struct [(0,1),(1,1)],2,[.pointer none,.pointer none]⟩ (.node .leaf 70 ⟨.struct [(0,1),(1,1)],2,[.pointer none,.pointer none]⟩ .leaf)) 75 ⟨.map 9 126,1,[.map none]⟩ (.node (.node (.node .leaf 76 ⟨.struct [(0,1),(1,1),(2,1),(3,1)],4,[.map none,.bool false,.bool false,.int .i64 0]⟩ .leaf) 77 ⟨.struct [(0,1),(1,1),(2,1),(3,1)],4,[.map none,.bool false,.bool false,.int .i64 0]⟩ .leaf) 78 ⟨.int .i64,1,[.int .i64 0]⟩ (.node .leaf 80 ⟨.ptr 139,1,[.pointer none]⟩ .leaf))) 81 ⟨.slice 44 1 24,1,[.slice none 0 0]⟩ (.node (.node (.node (.node .leaf 84 ⟨.ptr 88,1,[.pointer none]⟩ .leaf) 85 ⟨.map 9 3,1,[.map none]⟩ .leaf) 86 ⟨.slice 111 5 40,1,[.slice none 0 0]⟩ (.node .leaf 87 ⟨.struct [(0,1),(1,1),(2,1)],3,[.slice none 0 0,.slice none 0 0,.map none]⟩ .leaf)) 88 ⟨.struct [(0,1),(1,1),(2,1)],3,[.slice none 0 0,.slice none 0 0,.map none]⟩ (.node (.node (.node .leaf 91 ⟨.map 9 41,1,[.map none]⟩ .leaf) 92 ⟨.map 9 4,1,[.map none]⟩ .leaf) 93 ⟨.ptr 96,1,[.pointer none]⟩ (.node .leaf 94 ⟨.map 41 3,1,[.map none]⟩ .leaf)))) 95 ⟨.struct [(0,1),(1,1)],2,[.map none,.int .i64 0]⟩ (.node (.node (.node (.node (.node .leaf 96 ⟨.struct [(0,1),(1,1)],2,[.map none,.int .i64 0]⟩ .leaf) 97 ⟨.struct [(0,1),(1,1),(2,1),(3,1),(4,1),(5,1),(6,1),(7,1)],8,[.pointer none,.string ByteArray.empty,.pointer none,.pointer none,.map none,.map none,.pointer none,.bool false]⟩ .leaf) 98 ⟨.struct [(0,1),(1,1),(2,1),(3,1),(4,1),(5,1),(6,1),(7,1)],8,[.pointer none,.string ByteArray.empty,.pointer none,.pointer none,.map none,.map none,.pointer none,.bool false]⟩ (.node .leaf 110 ⟨.struct [(0,1),(1,1),(2,1),(3,1),(4,1)],5,[.int .i64 0,.int .u8 0,.int .i64 0,.int .i64 0,.int .i64 0]⟩ .leaf)) 111 ⟨.struct [(0,1),(1,1),(2,1),(3,1),(4,1)],5,[.int .i64 0,.int .u8 0,.int .i64 0,.int .i64 0,.int .i64 0]⟩ (.node (.node (.node .leaf 116 ⟨.map 41 41,1,[.map none]⟩ .leaf) 117 ⟨.struct [(0,1),(1,1)],2,[.pointer none,.map none]⟩ .leaf) 118 ⟨.struct [(0,1),(1,1)],2,[.pointer none,.map none]⟩ (.node .leaf 119 ⟨.ptr 177,1,[.pointer none]⟩ .leaf))) 121 ⟨.struct [(0,1),(1,1)],2,[.pointer none,.pointer none]⟩ (.node (.node (.node (.node .leaf 122 ⟨.struct [(0,1),(1,1)],2,[.pointer none,.pointer none]⟩ .leaf) 126 ⟨.ptr 128,1,[.pointer none]⟩ .leaf) 127 ⟨.struct [(0,1),(1,1)],2,[.slice none 0 0,.int .i64 0]⟩ (.node .leaf 128 ⟨.struct [(0,1),(1,1)],2,[.slice none 0 0,.int .i64 0]⟩ .leaf)) 131 ⟨.struct [(0,5),(5,6),(11,1),(12,1)],13,[.int .i64 0,.int .u8 0,.int .i64 0,.int .i64 0,.int .i64 0,.int .i64 0,.int .i64 0,.int .i64 0,.int .i64 0,.int .u64 0,.int .u64 0,.int .i64 0,.bool false]⟩ (.node (.node (.node .leaf 132 ⟨.struct [(0,5),(5,6),(11,1),(12,1)],13,[.int .i64 0,.int .u8 0,.int .i64 0,.int .i64 0,.int .i64 0,.int .i64 0,.int .i64 0,.int .i64 0,.int .i64 0,.int .u64 0,.int .u64 0,.int .i64 0,.bool false]⟩ .leaf) 138 ⟨.struct [(0,1),(1,1),(2,1),(3,1),(4,1)],5,[.pointer none,.string ByteArray.empty,.int .i64 0,.int .i64 0,.bool false]⟩ .leaf) 139 ⟨.struct [(0,1),(1,1),(2,1),(3,1),(4,1)],5,[.pointer none,.string ByteArray.empty,.int .i64 0,.int .i64 0,.bool false]⟩ (.node .leaf 147 ⟨.map 111 41,1,[.map none]⟩ .leaf)))))) 148 ⟨.slice 132 13 104,1,[.slice none 0 0]⟩ (.node (.node (.node (.node (.node (.node (.node .leaf 149 ⟨.struct [(0,1),(1,1),(2,1)],3,[.int .i64 0,.slice none 0 0,.map none]⟩ .leaf) 150 ⟨.struct [(0,1),(1,1),(2,1)],3,[.int .i64 0,.slice none 0 0,.map none]⟩ .leaf) 152 ⟨.iface,1,[.nilIface]⟩ (.node .leaf 153 ⟨.iface,1,[.nilIface]⟩ .leaf)) 168 ⟨.slice 171 2 16,1,[.slice none 0 0]⟩ (.node (.node (.node .leaf 169 ⟨.map 41 4,1,[.map none]⟩ .leaf) 170 ⟨.struct [(0,1),(1,1)],2,[.int .i64 0,.bool false]⟩ .leaf) 171 ⟨.struct [(0,1),(1,1)],2,[.int .i64 0,.bool false]⟩ (.node .leaf 173 ⟨.int .u64,1,[.int .u64 0]⟩ .leaf))) 175 ⟨.slice 322 3 24,1,[.slice none 0 0]⟩ (.node (.node (.node (.node .leaf 176 ⟨.struct [(0,1),(1,1)],2,[.pointer none,.slice none 0 0]⟩ .leaf) 177 ⟨.struct [(0,1),(1,1)],2,[.pointer none,.slice none 0 0]⟩ .leaf) 185 ⟨.int .u32,1,[.int .u32 0]⟩ (.node .leaf 191 ⟨.struct [(0,1)],1,[.pointer none]⟩ .leaf)) 192 ⟨.struct [(0,1)],1,[.pointer none]⟩ (.node (.node (.node .leaf 193 ⟨.ptr 384,1,[.pointer none]⟩ .leaf) 194 ⟨.iface,1,[.nilIface]⟩ .leaf) 197 ⟨.iface,1,[.nilIface]⟩ (.node .leaf 198 ⟨.iface,1,[.nilIface]⟩ .leaf)))) 199 ⟨.slice 29 1 16,1,[.slice none 0 0]⟩ (.node (.node (.node (.node (.node .leaf 213 ⟨.int .i64,1,[.int .i64 0]⟩ .leaf) 227 ⟨.array 16 185 1,16,[.int .u32 0,.int .u32 0,.int .u32 0,.int .u32 0,.int .u32 0,.int .u32 0,.int .u32 0,.int .u32 0,.int .u32 0,.int .u32 0,.int .u32 0,.int .u32 0,.int .u32 0,.int .u32 0,.int .u32 0,.int .u32 0]⟩ .leaf) 244 ⟨.int .u64,1,[.int .u64 0]⟩ (.node .leaf 248 ⟨.ptr 3,1,[.pointer none]⟩ .leaf)) 265 ⟨.ptr 244,1,[.pointer none]⟩ (.node (.node (.node .leaf 277 ⟨.ptr 44,1,[.pointer none]⟩ .leaf) 279 ⟨.slice 62 1 8,1,[.slice none 0 0]⟩ .leaf) 280 ⟨.struct [(0,1),(1,1)],2,[.slice none 0 0,.slice none 0 0]⟩ (.node .leaf 281 ⟨.struct [(0,1),(1,1)],2,[.slice none 0 0,.slice none 0 0]⟩ .leaf))) 288 ⟨.array 2 41 1,2,[.int .i64 0,.int .i64 0]⟩ (.node (.node (.node (.node .leaf 293 ⟨.struct [(0,1),(1,1),(2,1),(3,1)],4,[.int .i64 0,.int .i64 0,.int .i64 0,.int .i64 0]⟩ .leaf) 294 ⟨.struct [(0,1),(1,1),(2,1),(3,1)],4,[.int .i64 0,.int .i64 0,.int .i64 0,.int .i64 0]⟩ .leaf) 295 ⟨.slice 294 4 32,1,[.slice none 0 0]⟩ (.node .leaf 297 ⟨.struct [(0,1),(1,1)],2,[.int .i64 0,.int .i64 0]⟩ .leaf)) 298 ⟨.struct [(0,1),(1,1)],2,[.int .i64 0,.int .i64 0]⟩ (.node (.node (.node .leaf 299 ⟨.slice 298 2 16,1,[.slice none 0 0]⟩ .leaf) 300 ⟨.ptr 298,1,[.pointer none]⟩ .leaf) 302 ⟨.ptr 281,1,[.pointer none]⟩ (.node .leaf 303 ⟨.slice 306 2 16,1,[.slice none 0 0]⟩ .leaf))))) 305 ⟨.struct [(0,1),(1,1)],2,[.int .i64 0,.int .i64 0]⟩ (.node (.node (.node (.node (.node (.node .leaf 306 ⟨.struct [(0,1),(1,1)],2,[.int .i64 0,.int .i64 0]⟩ .leaf) 310 ⟨.slice 332 8 64,1,[.slice none 0 0]⟩ .leaf) 311 ⟨.struct [(0,1),(1,1),(2,1),(3,1),(4,1)],5,[.pointer none,.bool false,.slice none 0 0,.int .i64 0,.int .u64 0]⟩ (.node .leaf 312 ⟨.struct [(0,1),(1,1),(2,1),(3,1),(4,1)],5,[.pointer none,.bool false,.slice none 0 0,.int .i64 0,.int .u64 0]⟩ .leaf)) 314 ⟨.slice 343 4 32,1,[.slice none 0 0]⟩ (.node (.node (.node .leaf 315 ⟨.struct [(0,1),(1,5),(6,5),(11,1)],12,[.pointer none,.pointer none,.bool false,.slice none 0 0,.int .i64 0,.int .u64 0,.pointer none,.bool false,.slice none 0 0,.int .i64 0,.int .u64 0,.slice none 0 0]⟩ .leaf) 316 ⟨.struct [(0,1),(1,5),(6,5),(11,1)],12,[.pointer none,.pointer none,.bool false,.slice none 0 0,.int .i64 0,.int .u64 0,.pointer none,.bool false,.slice none 0 0,.int .i64 0,.int .u64 0,.slice none 0 0]⟩ .leaf) 321 ⟨.struct [(0,1),(1,1),(2,1)],3,[.int .u64 0,.int .i64 0,.bool false]⟩ (.node .leaf 322 ⟨.struct [(0,1),(1,1),(2,1)],3,[.int .u64 0,.int .i64 0,.bool false]⟩ .leaf))) 327 ⟨.slice 330 2 16,1,[.slice none 0 0]⟩ (.node (.node (.node (.node .leaf 329 ⟨.struct [(0,1),(1,1)],2,[.int .i64 0,.int .i64 0]⟩ .leaf) 330 ⟨.struct [(0,1),(1,1)],2,[.int .i64 0,.int .i64 0]⟩ .leaf) 331 ⟨.struct [(0,1),(1,5),(6,1),(7,1)],8,[.int .i64 0,.int .i64 0,.int .u8 0,.int .i64 0,.int .i64 0,.int .i64 0,.int .i64 0,.int .i64 0]⟩ (.node .leaf 332 ⟨.struct [(0,1),(1,5),(6,1),(7,1)],8,[.int .i64 0,.int .i64 0,.int .u8 0,.int .i64 0,.int .i64 0,.int .i64 0,.int .i64 0,.int .i64 0]⟩ .leaf)) 335 ⟨.ptr 316,1,[.pointer none]⟩ (.node (.node (.node .leaf 336 ⟨.ptr 312,1,[.pointer none]⟩ .leaf) 337 ⟨.ptr 332,1,[.pointer none]⟩ .leaf) 342 ⟨.struct [(0,1),(1,1),(2,1),(3,1)],4,[.int .i64 0,.int .i64 0,.int .u64 0,.int .i64 0]⟩ (.node .leaf 343 ⟨.struct [(0,1),(1,1),(2,1),(3,1)],4,[.int .i64 0,.int .i64 0,.int .u64 0,.int .i64 0]⟩ .leaf)))) 363 ⟨.struct [(0,1),(1,1),(2,1),(3,1)],4,[.pointer none,.pointer none,.pointer none,.string ByteArray.empty]⟩ (.node (.node (.node (.node (.node .leaf 364 ⟨.struct [(0,1),(1,1),(2,1),(3,1)],4,[.pointer none,.pointer none,.pointer none,.string ByteArray.empty]⟩ .leaf) 365 ⟨.array 0 16 1,0,[]⟩ .leaf) 368 ⟨.int .u8,1,[.int .u8 0]⟩ (.node .leaf 369 ⟨.int .u8,1,[.int .u8 0]⟩ .leaf)) 371 ⟨.ptr 5,1,[.pointer none]⟩ (.node (.node (.node .leaf 372 ⟨.int .i32,1,[.int .i32 0]⟩ .leaf) 373 ⟨.int .i32,1,[.int .i32 0]⟩ .leaf) 374 ⟨.struct [(0,1),(1,1),(2,1),(3,1),(4,1),(5,1),(6,1),(7,1),(8,1),(9,1),(10,1)],11,[.int .u64 0,.int .u64 0,.int .u32 0,.int .u8 0,.int .u8 0,.int .u8 0,.int .u8 0,.nilFunc,.pointer none,.int .i32 0,.int .i32 0]⟩ (.node .leaf 375 ⟨.struct [(0,1),(1,1),(2,1),(3,1),(4,1),(5,1),(6,1),(7,1),(8,1),(9,1),(10,1)],11,[.int .u64 0,.int .u64 0,.int .u32 0,.int .u8 0,.int .u8 0,.int .u8 0,.int .u8 0,.nilFunc,.pointer none,.int .i32 0,.int .i32 0]⟩ .leaf))) 383 ⟨.struct [(0,1),(1,1)],2,[.string ByteArray.empty,.int .u8 0]⟩ (.node (.node (.node (.node .leaf 384 ⟨.struct [(0,1),(1,1)],2,[.string ByteArray.empty,.int .u8 0]⟩ .leaf) 386 ⟨.ptr 390,1,[.pointer none]⟩ .leaf) 388 ⟨.int .u16,1,[.int .u16 0]⟩ (.node .leaf 389 ⟨.struct [(0,1),(1,1),(2,1),(3,1),(4,1)],5,[.int .i32 0,.int .u16 0,.int .u16 0,.int .u32 0,.int .u32 0]⟩ .leaf)) 390 ⟨.struct [(0,1),(1,1),(2,1),(3,1),(4,1)],5,[.int .i32 0,.int .u16 0,.int .u16 0,.int .u32 0,.int .u32 0]⟩ (.node (.node (.node .leaf 391 ⟨.slice 394 4 16,1,[.slice none 0 0]⟩ .leaf) 392 ⟨.int .i32,1,[.int .i32 0]⟩ .leaf) 393 ⟨.struct [(0,1),(1,1),(2,1),(3,1)],4,[.int .i32 0,.int .i32 0,.int .i32 0,.int .i32 0]⟩ (.node .leaf 394 ⟨.struct [(0,1),(1,1),(2,1),(3,1)],4,[.int .i32 0,.int .i32 0,.int .i32 0,.int .i32 0]⟩ .leaf)))))))
def SC:Ps Tryz.prog PT.find:=fun _ _ h=>Tr.all_find (p:=fun t d=>d.holds Tryz.prog t) oK h
structure BP (E:Bp):Prop where
 P:E.P=Tryz.prog
 tab:E.tab=PT.find
variable {E:Bp}
theorem BP.uu (hE:BP E){t:TypeId}{k:TypeDesc}(h:Tryz.prog.underlying t=some k:=by kernel_rfl):E.P.underlying t=some k:=by rw[hE.P];exact h
theorem BP.zz (hE:BP E){t:TypeId}{v:Value}(h:∀w,(zeroValue t).run Tryz.prog w= .ok v w:=by intro w;kernel_rfl):∀w,(zeroValue t).run E.P w= .ok v w:=by rw[hE.P];exact h
def BP.t (h:BP E){t:TypeId}{d}(e:PT.find t=some d):E.tab t=some d:=by rw[h.tab];exact e
def BP.f (h:BP E){f}(e:Fy Tryz.prog f=true):Fy E.P f=true:=by rw[h.P];exact e
def BP.fn (h:BP E){f:FuncId}{fn:Func}(e:Tryz.prog.funcs[f]?=some fn):E.P.funcs[f]?=some fn:=by rw[h.P];exact e
end Go.Proofs.YtnicahfnolhgbaaGreatDoor
namespace Sl
open Go Go.RowKit
variable {E:Bp}{n:Nat}{L:Fr}{H H':List HP}{Q:Exit->Act->World->Prop}
def qQg {l r k}:dW (l++r) k->UH (dW l) (dW r) k:=by
 induction l generalizing k with
 |nil=>exact fun h=>⟨fun _=>none,k,fun _=> .inl rfl,by funext b;simp[join],trivial,h⟩
 |cons p l ih=>
  rintro⟨h1,h2,d,e,hp,hq⟩
  obtain⟨h3,h4,d',e',hl,hr⟩:=ih hq
  subst e'
  have hA:Iu h1 h3:=fun b=>(d b).imp id fun x=>(kS.1 x).1
  have hB:Iu h1 h4:=fun b=>(d b).imp id fun x=>(kS.1 x).2
  refine⟨join h1 h3,h4,?_,?_,⟨h1,h3,hA,O,hp,hl⟩,hr⟩
  ·intro b
   rcases d' b with x| x
   ·rcases hB b with y| y
    ·exact .inl (kS.2 ⟨y,x⟩)
    exact .inr y
   exact .inr x
  rw[e];funext b;simp[join,Option.or_assoc]
def mK {ps r p}(h:∀k,dW ps k->p k) {k}:dW (ps++r) k->dW (p::r) k:=fun s=>by
 obtain⟨h1,h2,d,e,hl,hr⟩:=qQg s;exact⟨h1,h2,d,e,h _ hl,hr⟩
def mJ:∀{l r:List HP}{a b:PH},dW l a->dW r b->Iu a b->dW (l++r) (join a b)
 |[],_,a,b,_,hr,d=>zG hr fun _ _ x=>kZ d x
 |p::l,r,a,b,⟨c1,c2,dc,ec,hp,hl⟩,hr,d=>by
  subst ec;have d1:Iu c1 b:=fun i=>(d i).imp (fun x=>(kS.1 x).1) id
  have d2:Iu c2 b:=fun i=>(d i).imp (fun x=>(kS.1 x).2) id
  refine⟨c1,join c2 b,?_,by funext i;simp[join,Option.or_assoc],hp,mJ hl hr d2⟩;intro i;rcases dc i with x| x
  ·exact .inl x
  rcases d1 i with y| y
  ·exact .inl y
  exact .inr (kS.2 ⟨x,y⟩)
def zJ {ι:Type}{p}{ps:ι->List HP}{c}(ht:CO p H H')(h:∀k,p k->∃i,dW (ps i) k) (hw:∀i,WP E c Q n L (ps i++H')):WP E c Q n L H:=fun a w g=>by
 obtain⟨h1,h2,d,e,hp,hr⟩:=ht.out g.hp.hp;obtain⟨i,hi⟩:=h _ hp;exact hw i a w ⟨g.f,g.hp.os,g.hp.tape,g.hp.output,g.hp.size,g.hp.old,by rw[e];exact mJ hi hr d⟩
def RP {ι:Type}{p}{ps:ι->List HP}{all s l}(ht:CO p H H')(h:∀k,p k->∃i,dW (ps i) k) (hw:∀i,DI E all Q s l n L (ps i++H')):DI E all Q s l n L H:=fun a w g=>by
 obtain⟨h1,h2,d,e,hp,hr⟩:=ht.out g.hp.hp;obtain⟨i,hi⟩:=h _ hp;exact hw i a w ⟨g.f,g.hp.os,g.hp.tape,g.hp.output,g.hp.size,g.hp.old,by rw[e];exact mJ hi hr d⟩
def ct_open {ι:Type}{f args Pre}{Φ:Value->List HP->Prop}{p}{ps:ι->List HP}(h:∀k,p k->∃i,dW (ps i) k) (hw:∀i,Ct E f args (ps i++Pre) Φ):Ct E f args (p::Pre) Φ:=fun R w s=>by
 obtain⟨h1,h2,d,e,hp,hr⟩:=s.hp;obtain⟨i,hi⟩:=h _ hp;refine hw i R w ⟨s.os,s.tape,s.output,s.size,s.old,?_⟩;rw[e,ah];exact mJ hi hr d
def eF {f args Pre Pre'}{Φ:Value->List HP->Prop}{p φ}(ht:CO p Pre Pre')(h:∀k,p k->φ) (hw:φ->Ct E f args Pre Φ):Ct E f args Pre Φ:=fun R w s=>by
 have hs:dW Pre (mW E.w0 w):=qUz s.hp;obtain⟨h1,h2,d,e,hp,hr⟩:=ht.out hs;exact hw (h _ hp) R w s
def iO {c p φ}(ht:CO p H H')(h:∀k,p k->φ) (hw:φ->WP E c Q n L H):WP E c Q n L H:=fun a w g=>by
 obtain⟨h1,h2,d,e,hp,hr⟩:=ht.out g.hp.hp;exact hw (h _ hp) a w g
def Sz {e p φ}(ht:CO p H H')(h:∀k,p k->φ) (hw:φ->AT E Q e n L H):AT E Q e n L H:=fun a w g=>by
 obtain⟨h1,h2,d,e,hp,hr⟩:=ht.out g.hp.hp;exact hw (h _ hp) a w g
def lQ {all s l p φ}(ht:CO p H H')(h:∀k,p k->φ) (hw:φ->DI E all Q s l n L H):DI E all Q s l n L H:=fun a w g=>by
 obtain⟨h1,h2,d,e,hp,hr⟩:=ht.out g.hp.hp;exact hw (h _ hp) a w g
def fZ {ps l l' p}(s:IW ps l l')(h:∀k,dW ps k->p k):∀k,dW l k->dW (p::l') k:=fun _ x=>mK h (s.out x)
def cO {l l' p p'}(s:CO p l l')(h:∀k,p k->p' k):∀k,dW l k->dW (p'::l') k:=fun _ x=>eU h (s.out x)
def cZ {l m r}(h1:∀k,dW l k->dW m k) (h2:∀k,dW m k->dW r k):∀k,dW l k->dW r k:=fun k x=>h2 k (h1 k x)
def Ct.mono {f args Pre}{Φ Ψ:Value->List HP->Prop}(h:Ct E f args Pre Φ)(hΦ:∀v Q,Φ v Q->Ψ v Q):Ct E f args Pre Ψ:=fun R w s=>(h R w s).mono fun e w'⟨v,Qs,h1,h2,h3⟩=>⟨v,Qs,h1,hΦ v Qs h2,h3⟩
end Sl
