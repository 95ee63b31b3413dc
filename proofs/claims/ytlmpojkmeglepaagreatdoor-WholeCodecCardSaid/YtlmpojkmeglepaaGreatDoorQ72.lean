import Derived.Test.YtlmpojkmeglepaaGreatDoorQ50
import Derived.Test.YtlmpojkmeglepaaGreatDoorQ69
set_option linter.all false
set_option maxHeartbeats 1000000
namespace Sl
open Go Go.RowKit
variable {E:Env}{n:Nat}{L:Fr}{H:List HP}{ty:TypeId}{pos:String}{af:Array Edge}{d:Option Nat}{gd:Option (Nat×Bool)}{K:Value→List HP→Prop}
def qPe {x:Operand}{t e:TypeId}{c by_ sz sz':Nat}{zs:List Value}{v0:Value}{kk:TK}(ht:E.tab t=some ⟨.slice e 1 by_,sz,zs⟩)(he:E.tab e=some ⟨kk,sz',[v0]⟩)
  (hx:ev L x=some (.int .i64 (c:Nat))) (hb:by_*c≤281474976710656) (hc:c≤maxLen)
  (hk:∀b,K (.slice (some ⟨b,0,none⟩) c c) (sl (some ⟨b,0,none⟩) c e 1 c (List.replicate c v0)::H)):Ld E n L H ⟨d,.makeSlice t x x,ty,pos,af,gd⟩ K:=fun Q next a w G hn=>by
 obtain⟨hu,j,hj,hs,hby⟩:=fF ht;obtain⟨i,z,hi,hi2,hiz,hzc,_⟩:=fB he;obtain rfl:i=j:=by rw[hi]at hj;simpa using hj
 subst hby
 have hz1:z.cells= #[v0]:=by
  apply xe.1;rw[hzc]
 have h63:(c:Int)≤9223372036854775807:=by have h:=hc;simp[maxLen]at h;omega
 have hr:=run_make (P:=E.P) w t e i z hu hi hiz .i64 .i64 (c:Int) (c:Int) (oF c) (vg _) (by rw[←ny];omega) h63
 have hrun:(execOp a.eval ⟨d,.makeSlice t x x,ty,pos,af,gd⟩).run E.P w= .ok (.value (.slice (some ⟨w.heap.size,0,none⟩) c c)) (w.alloc (.cells (madeCells z.cells (c*i.size)) e)):=by
  simp[execOp,G.f.ev hx,hr]
 unfold Oper.wp;rw[hrun,Oper.upon_value]
 have hM:(madeCells z.cells (c*i.size)).toList=List.replicate c v0:=by
  rw[hz1,hs,oC];apply lm;intro k;rcases dw k c with hk|hk
  ·rw[ru,if_pos hk];simp[madeCells,hk,Nat.mod_one]
  rw[fq (by simpa[size_madeCells]using hk),fq (by simpa using hk)]
 have hz:(madeCells z.cells (c*i.size)).size=c*1:=by rw[size_madeCells,hs]
 generalize madeCells z.cells (c*i.size)=M at*;refine hn _ _ _ (hk _) ?_;have:=G.hp.new (.cells M e)
 exact this.imp fun _=>gN fun _ h=>by
  have:=eG (us:=M.toList) (sz:=1) (by simpa using hz) hc _ h;rwa [hM]at this
end Sl
namespace Go.Proofs.YtlmpojkmeglepaaGreatDoor
open Go Go.RowKit Sl Eg
set_option maxRecDepth 10000
end Go.Proofs.YtlmpojkmeglepaaGreatDoor
namespace Sl
open Go Go.RowKit
variable {E:Env}{n:Nat}{L:Fr}{H:List HP}{Q:Exit→Act→World→Prop}{fuel:Nat}{listed:Array Bool}{ops:List Oper}
end Sl
namespace Go.Proofs.YtlmpojkmeglepaaGreatDoor
open Go Go.RowKit Sl Eg
set_option maxRecDepth 10000
section
variable {E:Env}{L:List Rl}
structure RsL (L:List Rl)(l:List Im)(ys:List Nat):Prop where
 wf:Wf L
 yl:ys.length=l.length
 sg:∀(i:Nat)(x:Im)(y:Nat),l[i]?=some x→ys[i]?=some y→y≤L.length∧Sg L x.bs y
variable {l:List Im}{ys:List Nat}
def RsL.bound (h:RsL L l ys):∀y∈ys,y≤L.length:=fun y hy=>by
 obtain⟨i,hi⟩:=jy hy;have hil:=(ae.1 hi).1;have:=h.yl;obtain⟨x,hx⟩:∃x,l[i]?=some x:=⟨_,ag oO⟩;exact(h.sg i x y hx hi).1
def RsL.lis (h:RsL L l ys):Lis L (dD L ys []):=⟨h.wf,AccOk.visits h.wf h.bound,qX h.wf ys [] (qHw _)⟩
end
section
variable {E:Env}{L:List Rl}{l:List Im}{ys:List Nat}
def Lis.times {F:List Nat}(h:Lis L F):∀r∈gram L F,r.times≤1152921504606846976:=fun r hr=>by
 obtain⟨i,hi⟩:=jy hr;obtain⟨n,q,v1,q1,rfl,m1⟩:=h.one hi;rw[pF];have hsh:=h.wf.short (n+1);have hmx:dC=1152921504606846976:=rfl;have hok:=h.wf.ok _ _ q1;have hn:=(ae.1 q1).1;cases q with
 |letter b=>simp[Rl.times]
 |pair a b=>simp[Rl.times]
 |power x t=>
  have e:=kC q1 hok
  simp only[Rl.ok]at hok
  have h1:=h.wf.pos x hok.1 oO
  have h2:t*1≤t*Eg.len L x:=mh _ h1
  simp only[Rl.times]
  have e3:t*Eg.len L x=Eg.len L (n+1):=by rw[e]
  omega
def nmA (l:List Im)(ns:List Nat):List (List UInt8×Nat):=(l.map (·.name)).zip ns
end
section
variable {E:Env}
def EqL.rsl {L:List Rl}{l:List Im}{ids ys:List Nat}(h:EqL L l ids ys):RsL L l ys:=⟨h.wf,h.yl,fun i x y hx hy=>by
 obtain⟨x',id,h1,h2,h3,h4⟩:=h.at hy;rw[hx]at h1;cases h1
 refine⟨h3.2.2.1.1,?_⟩;rw[←h4];exact h3.2.2.2⟩
end
