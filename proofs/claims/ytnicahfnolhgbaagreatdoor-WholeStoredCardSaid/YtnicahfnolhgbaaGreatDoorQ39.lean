import Derived.Test.YtnicahfnolhgbaaGreatDoorQ35
import Derived.Test.YtnicahfnolhgbaaGreatDoorQ60
import Derived.Laws.IdiomRangeMap
set_option linter.all false
set_option maxHeartbeats 1000000
namespace Go.Proofs.YtnicahfnolhgbaaGreatDoor
open Go Go.RowKit Sl Eg
set_option maxRecDepth 10000
variable {E:Bp}{Es:List Bj}{s most:Nat}
def UF (r:Rl):List Value:=[.int .i64 (Rl.kind (r):Nat),.int .u8 (Rl.byte (r):Nat),.int .i64 (Rl.left (r):Nat),.int .i64 (Rl.right (r):Nat),.int .i64 (Rl.times (r):Nat)]
end Go.Proofs.YtnicahfnolhgbaaGreatDoor
namespace Sl
section
open Go Go.RowKit
def yT {α β:Type}{f:α->β}:∀{l:List α},(l.map f).Nodup->∀{a b:α},a∈l->b∈l->f a=f b->a=b
 |[],_,_,_,h,_,_=>by cases h
 |x::l,hn,a,b,ha,hb,e=>by
  have hA:=uq.1 hn;rcases di.1 ha with rfl|ha'<;>rcases di.1 hb with rfl|hb'
  ·rfl
  ·exact absurd (jg.2 ⟨b,hb',e.symm⟩) hA.1
  ·exact absurd (jg.2 ⟨a,ha',e⟩) hA.1
  exact yT hA.2 ha' hb' e
variable {ki:IntKind}{es:List MapEntry}{c:Nat}{M:List (Int×Value)}
def Lx {P w}{ty:TypeId}{r b since c0 c seen es}(hr:w.heap[r]?=some (.mapIter (some b) since seen c0))(hb:w.heap[b]?=some (.map es c))(hB:∀x∈es.toList,x.born<since) (hF:since<=c0):
  ((∀e∈es.toList,seen.contains e.born=true)/\(Instr.next (.pointer (BM r)) false ty).run P w= .ok (.tuple #[.bool false]) w)\/
  ∃e∈es.toList,seen.contains e.born=false/\∃w1:World,(w1=w\/w1=w.drew)/\(Instr.next (.pointer (BM r)) false ty).run P w= .ok (.tuple #[.bool true,e.key,e.val]) (ChangeMaps.setBlock w1 r (.mapIter (some b) since (seen.push e.born) c)):=by
 simp only[Instr.next,getObj,Sem.run_bind,Sem.run,hr,hb,Result.andThen,next_test_false seen es since c0 hB hF,ou,if_false];have hA:∀x,x∈(Array.filter (fun e=>!seen.contains e.born) es).toList->x∈es.toList/\seen.contains x.born=false:=fun x hx=>by simpa using hx
 have hC:(Array.filter (fun e=>!seen.contains e.born) es).size=0->∀e∈es.toList,seen.contains e.born=true:=fun h0 e he=>by
  cases hc:seen.contains e.born with
  |true=>rfl
  |false=>
   have h1:e∈Array.filter (fun e=>!seen.contains e.born) es:=Array.mem_filter.2 ⟨by simpa using he,by rw[hc];rfl⟩
   obtain⟨i,hi,_⟩:=Array.mem_iff_getElem.1 h1
   omega
 generalize Array.filter (fun e=>!seen.contains e.born) es=Lf at hA hC ⊢;have e1:Lf.filter (fun x=>decide (x.born<since))=Lf:=Array.filter_eq_self.2 (fun x hx=>by simpa using hB x (hA x (by simpa using hx)).1)
 have e2:Lf.filter (fun x=>decide (x.born≥since))= #[]:=by
  rw[Array.filter_eq_empty_iff];intro x hx;have:=hB x (hA x (by simpa using hx)).1;simp;omega
 simp only[e1,e2,Array.append_empty];by_cases h0:Lf.size=0
 ·left;refine⟨hC h0,?_⟩;have:Lf= #[]:=Array.eq_empty_of_size_eq_zero h0;subst this;simp[choose,Sem.run,Question.forced]
 right;have hG:Lf.isEmpty=false:=by simp[Array.isEmpty,h0]
 simp only[hG,ou,if_false,Array.empty_append,Array.size_map]
 have hH:∃(j:Nat)(w1:World),j<Lf.size/\(w1=w\/w1=w.drew)/\(choose (Question.mapNext Lf.size)).run P w= .ok j w1:=by
  by_cases hf:Lf.size<=1
  ·exact⟨0,w,oO,.inl O,by simp[choose,Sem.run,Question.forced,hf]⟩
  exact⟨_,w.drew,tq _ oO,.inr O,by
   simp only[choose,Sem.run,Question.forced,decide_eq_true_eq,hf,if_false,Question.cut];rfl⟩
 obtain⟨j,w1,hj,hE,hD⟩:=hH;have h3:=hA Lf[j] BF;refine⟨Lf[j],h3.1,h3.2,w1,hE,?_⟩
 have hI:w1.heap[r]?=some (.mapIter (some b) since seen c0):=by
  rcases hE with rfl|rfl
  ·exact hr
  exact hr
 simp only[hD,Array.getElem?_map,Array.getElem?_eq_getElem hj,ut,Sem.run_bind,Result.andThen,setObj,Sem.run];rw[hI];rfl
end
section
open Go Go.RowKit
variable {E:Bp}{n:Nat}{L L':Fr}{S H H':List HP}{K:Value->List HP->Prop}{Q:Exit->Act->World->Prop}
def RU {ops m fuel listed}(hL:wk L L')(hH:∀k,dW H k->dW H' k) (hS:∀k,dW H' k->dW S k) (h:Ea E ops m S Q fuel listed n L' H'):Ea E ops m S Q fuel listed n L H:=fun _ a w g=>h hS a w ⟨g.f.wk hL,g.hp.imp hH⟩
def pO {ops m fuel listed}(rs:List Nat)(hr:Region.ready .any ops.toArray listed=rs)(hA:rs≠[])
  (h:∀i,i∈rs->∃(d:Option Nat)(op:Op)(ty:TypeId)(pos:String)(af:Array Edge),ops[i]?=some ⟨d,op,ty,pos,af,none⟩/\Ep n d=true/\Ld E n L H ⟨d,op,ty,pos,af,none⟩ (fun v H'=>(∀k,dW H' k->dW S k)/\Ea E ops m S Q fuel (listed.setIfInBounds i true) n (Cj d v L) H')):
  Ea E ops m S Q (fuel+1) listed n L H:=fun _ a w g=>
 ⟨fun h0=>absurd (hr.symm.trans h0) hA,fun x hx=>by
  rw[hr]at hx;obtain⟨d,op,ty,pos,af,hi,hd,hl⟩:=h x hx;unfold wpOp;simp only[fA hi,Region.wanted,if_true];exact .inl (hl _ _ a w g (fun v H' w' hk hs=>⟨fun _=>hs.imp hk.1,hk.2 hk.1 _ _ ⟨g.f.put d v hd,hs⟩⟩))⟩
end
end Sl
namespace Go.Proofs.YtnicahfnolhgbaaGreatDoor
open Go Eg
def pick (n:Int)(many:Nat):Nat:=(n%(many:Int)).toNat
def lV (n:Int){many}(h:1<=many):pick n many<many:=by
 unfold pick;have h1:=Int.emod_nonneg n (b:=(many:Int)) oO;have h2:=Int.emod_lt_of_pos n (b:=(many:Int)) oO;omega
end Go.Proofs.YtnicahfnolhgbaaGreatDoor
namespace Sl
open Go Go.RowKit
variable {E:Bp}{n:Nat}{L:Fr}{S:List HP}{ty:TypeId}{pos:String}{af:Array Edge}{d:Option Nat}{gd:Option (Nat×Bool)}
def SN {x y}{xt yt:TypeId}{i j kd}(hx:ev L x=some (.int kd i))(hy:ev L y=some (.int kd j))(h1:0<j):
  Yl E n L S ⟨d,.binOp .rem xt x y yt,ty,pos,af,gd⟩ (.int kd (i.tmod j)):=fun a w g _=>by
 have hj:¬j=0:=oO;simp[execOp,eqGuard,binOp,Op.intDiv,g.ev hx,g.ev hy,hj]
end Sl
namespace Go.Proofs.YtnicahfnolhgbaaGreatDoor
open Go Go.RowKit Sl Eg
set_option maxRecDepth 10000
section
variable {E:Bp}
def zBc {n m}(h:1<=m):(pick n m:Int)=if n.tmod m<0 then n.tmod m+m else n.tmod m:=by
 have h1:=Int.emod_nonneg n (b:=(m:Int)) oO;have h2:=Int.emod_lt_of_pos n (b:=(m:Int)) oO;have h3:(pick n m:Int)=n%(m:Int):=by unfold pick;omega
 have h4:=Int.mul_tdiv_add_tmod n (m:Int);have h5:=Int.mul_ediv_add_emod n (m:Int);rw[h3];by_cases hn:n<0
 ·have h6:=Int.lt_tmod_of_pos n (b:=(m:Int)) oO
  have h7:n.tmod m<=0:=by
   have:=Int.tmod_nonneg (a:= -n) (m:Int) oO;rw[Int.neg_tmod]at this;omega
  have key:∃q:Int,n%(m:Int)-n.tmod m=(m:Int)*q:=⟨n.tdiv m-n/m,by rw[Int.mul_sub];omega⟩;obtain⟨q,hq⟩:=key;split
  ·have q0:0<q:=by
    apply Classical.byContradiction;intro hh;have:(m:Int)*q<=0:=Int.mul_nonpos_of_nonneg_of_nonpos oO oO;omega
   have q1:q<2:=by
    apply Classical.byContradiction;intro hh;have:(m:Int)*2<=(m:Int)*q:=vz oO oO;omega
   obtain rfl:q=1:=by omega
   omega
  have e:n.tmod m=0:=oO;rw[e]at hq ⊢
  have q1:q<1:=by
   apply Classical.byContradiction;intro hh;have:(m:Int)*1<=(m:Int)*q:=vz oO oO;omega
  have q0: -1<q:=by
   apply Classical.byContradiction;intro hh;have:(m:Int)*q<=(m:Int)*(-1):=vz oO oO;omega
  obtain rfl:q=0:=by omega
  omega
 rw[zu oO,if_neg oO]
end
section
variable {E:Bp}{L:List Rl}
def Cx (L:List Rl):List Value:=L.flatMap UF
end
