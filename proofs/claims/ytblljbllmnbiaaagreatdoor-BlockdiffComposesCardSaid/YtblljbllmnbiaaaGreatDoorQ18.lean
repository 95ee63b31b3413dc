import Derived.Test.YtblljbllmnbiaaaGreatDoorQ20
set_option linter.all false
set_option maxHeartbeats 1000000
namespace Go.Proofs.YtblljbllmnbiaaaGreatDoor
open Go Go.RowKit Sl Eg
set_option maxRecDepth 10000
variable {E:Env}{Es:List Ent}{pp tb s most:Nat}
theorem wrU (a:Nat)(ha:a<18446744073709551616):IntKind.u64.wrap (a:Int)=(a:Int):=by rw[IntKind.wrap_u64];omega
theorem y_shr1 {n:Nat}{L:Fr}{S:List HP}{ty:TypeId}{pos:String}{af:Array Edge}{d:Option Nat}{gd:Option (Nat×Bool)}{x y:Operand}{xt yt:TypeId}{i:Nat}(hx:ev L x=some (.int .u64 (i:Nat)))(hy:ev L y=some (.int .u64 1)):
  Yl E n L S ⟨d,.binOp .shr xt x y yt,ty,pos,af,gd⟩ (.int .u64 ((i/2:Nat):Int)):=fun a w g _=>by
 have h:=shift_shr_any .u64 .u64 (i:Int) 1 (by decide)
 have e:(i:Int)/2^min (1:Int).toNat IntKind.u64.bits=((i/2:Nat):Int):=by
  show(i:Int)/2^1=_
  omega
 rw[e]at h
 simp[execOp,eqGuard,binOp,g.ev hx,g.ev hy,h]
theorem qC (hE:Seat E){fc:FuncId}{caps:List Value}{n m:Nat}{P:Nat→Bool}{pre:HP}(hf:goFn E.P fc=true)(hn:n≤1099511627776)(hc:∀i,i<n→Ct E fc (.int .i64 (i:Nat)::caps) [pre] (fun v Q=>v= .bool (P i)∧Q=[pre]))
  (hm:m≤n) (h0:∀i,i<m→P i=false) (h1:∀i,m≤i→i<n→P i=true):Ct E 103 [.int .i64 (n:Nat),.func (.func fc) #[] ⟨caps⟩] [pre] (fun v Q=>v= .int .i64 (m:Nat)∧Q=[pre]):=by
 refine bO (hE.fn Tryz.func103) O O O (fun R=>?_)
 simp only[dR,uV,uW]
 refine gg14 ?_
 refine dV (fun x:Nat×Nat=>[(1,.func (.func fc) #[] ⟨caps⟩),(5,.int .i64 (x.1:Nat)),(6,.int .i64 (x.2:Nat))]) (fun x=>[pre,R]) (fun x=>x.2-x.1) (fun x=>x.1≤m∧m≤x.2∧x.2≤n) (0,n) ?_ ?_ ?_ ?_
 ·exact⟨Nat.zero_le _,hm,Nat.le_refl _⟩
 ·exact⟨O,O,O,trivial⟩
 ·exact uI
 rintro⟨i,j⟩⟨hi,hj,hjn⟩
 simp only at hi hj hjn ⊢
 refine gg8 ?_
 refine bE O (fun h2=>?_) (fun h2=>?_)
 ·refine gg8 ?_
  refine l_eq 14 (.int .i64 ((i+j:Nat):Int)) O (bW oO) ?_
  refine uB (dH O (hE.t O) (hE.t O) (wrU _ oO)) ?_
  refine uB (y_shr1 O O) ?_
  refine uB (dH O (hE.t O) (hE.t O) (dI oO oO)) ?_
  refine gg7 ?_
  obtain⟨h,eh⟩:∃h:Nat,h=(i+j)/2:=⟨_,rfl⟩
  refine l_eq 19 (.int .i64 (h:Nat)) O (bW oO) ?_
  have hcc:=hc h oO
  refine uU ?_
  apply fO (hx:=O) (ha:=O) (hf:=hf)
  ·exact hcc
  ·exact uK
  rintro _ _⟨rfl,rfl⟩
  simp only[uV,uW]
  cases hp:P h with
  |false=>
   have hlt:h<m:=by
    rcases Nat.lt_or_ge h m with hh|hh
    ·exact hh
    have:=h1 h hh oO;rw[hp]at this;cases this
   refine gg10 ?_
   refine bS (ι:=Nat×Nat) (j:=(h+1,j)) ⟨by show h+1≤m;omega,hj,hjn⟩ (by show j-(h+1)<j-i;omega) ⟨rfl,?_,rfl,trivial⟩ uI
   exact congrArg some (bW oO)
  |true=>
   have hge:m≤h:=by
    rcases Nat.lt_or_ge h m with hh|hh
    ·have:=h0 h hh;rw[hp]at this;cases this
    exact hh
   refine gg9 ?_
   refine bS (ι:=Nat×Nat) (j:=(i,h)) ⟨hi,hge,by show h≤n;omega⟩ (by show h-i<j-i;omega) ⟨rfl,rfl,?_,trivial⟩ uI
   exact congrArg some (bW oO)
 obtain rfl:i=m:=by omega
 refine gg12 ?_
 exact uZ O (.tmp O .nil) ⟨O,O⟩
end Go.Proofs.YtblljbllmnbiaaaGreatDoor
