import Derived.Test.YtejcjelmpbkcbaaGreatDoorQ35
import Derived.Test.YtejcjelmpbkcbaaGreatDoorQ50
import Derived.Test.YtejcjelmpbkcbaaGreatDoorQ67
set_option linter.all false
set_option maxHeartbeats 1000000
namespace Go.Proofs.YtejcjelmpbkcbaaGreatDoor
open Go Go.RowKit Sl Eg
set_option maxRecDepth 10000
variable {E:Env}
def nmI (A:List (List UInt8×Nat)):List (List UInt8×Int):=A.map fun p=>(p.1,(p.2:Int))
def nmI_take {A:List (List UInt8×Nat)}{k:Nat}{p:List UInt8×Nat}(h:A[k]?=some p):nlC (nmI (A.take (k+1)))=nlC (nmI (A.take k))++[.string ⟨⟨p.1⟩⟩,.int .i64 (p.2:Nat)]:=by
 rw[ic,h];unfold nmI;rw[fw,qW];rfl
end Go.Proofs.YtejcjelmpbkcbaaGreatDoor
namespace Sl
open Go Go.RowKit
variable {E:Env}{n:Nat}{L:Fr}{S:List HP}{ty:TypeId}{pos:String}{af:Array Edge}{d:Option Nat}{gd:Option (Nat×Bool)}
def qZz {x y:Operand}{t yt:TypeId}{a b:Bool}{sz:Nat}{zs:List Value}(hx:ev L x=some (.bool a))(hy:ev L y=some (.bool b))(ht:E.tab t=some ⟨.bool,sz,zs⟩):
  Yl E n L S ⟨d,.binOp .neq t x y yt,ty,pos,af,gd⟩ (.bool (a^^b)):=fun o w g _=>by
 have hu:=qRf ht;have h1:(eqGuard .neq t x y (.bool a) (.bool b)).run E.P w= .ok () w:=by unfold eqGuard;simp
 have h2:binOp .neq t (.bool a) (.bool b)=(do pure (.bool (!(←Op.equal t (.bool a) (.bool b))))):=rfl;have h3:=run_equal_bool (P:=E.P) w t a b hu;simp[execOp,h1,h2,h3,g.ev hx,g.ev hy];cases a<;>cases b<;>rfl
end Sl
namespace Go.Proofs.YtejcjelmpbkcbaaGreatDoor
open Go Go.RowKit Sl Eg
set_option maxRecDepth 10000
end Go.Proofs.YtejcjelmpbkcbaaGreatDoor
namespace Sl
open Go Go.RowKit
variable {E:Env}{n:Nat}{L:Fr}{H H':List HP}{K:Value→List HP→Prop}{op:Oper}{ty:TypeId}{pos:String}{af:Array Edge}{d:Option Nat}{gd:Option (Nat×Bool)}
end Sl
namespace Go.Proofs.YtejcjelmpbkcbaaGreatDoor
open Go Go.RowKit Sl Eg
set_option maxRecDepth 10000
section
variable {E:Env}{G:List Rl}
def nlC_ato {l:List (List UInt8×Int)}{i:Nat}{p:List UInt8×Int}(h:l[i]?=some p)(o:Nat)(ho:o=i*2):(nlC l)[o]?=some (.string ⟨⟨p.1⟩⟩)∧(nlC l)[o+1]?=some (.int .i64 p.2):=by subst ho;exact qLp h
def qXh {A:List (List UInt8×Nat)}{i:Nat}{p:List UInt8×Nat}(h:A[i]?=some p)(o:Nat)(ho:o=i*2):(nlC (nmI A))[o]?=some (.string ⟨⟨p.1⟩⟩)∧(nlC (nmI A))[o+1]?=some (.int .i64 (p.2:Nat)):=
 nlC_ato (l:=nmI A) (p:=(p.1,(p.2:Int))) (by unfold nmI;rw[bq,h];rfl) o ho
def jO (A:List (List UInt8×Nat)):(nmI A).length=A.length:=ku _
end
section
def Iso.le {L1 L2:List Rl}{x y:Nat}(h:Iso L1 L2 x y):x≤L1.length∧y≤L2.length:=by
 cases h with
 |letter h1 h2=>exact⟨(ae.1 h1).1,(ae.1 h2).1⟩
 |pair h1 h2=>exact⟨(ae.1 h1).1,(ae.1 h2).1⟩
 |power h1 h2=>exact⟨(ae.1 h1).1,(ae.1 h2).1⟩
end
section
variable {E:Env}{Es:List Ent}{pp tb s most m bm:Nat}
def DcI (G L:List Rl)(k:Nat)(Z:List Nat):Prop:=Z.length=k+1∧Z[0]?=some 0∧∀j,1≤j→j≤k→∃z,Z[j]?=some z∧Iso G L j z
end
section
def Iso.trans {L1 L2 L3:List Rl}{x y:Nat}(h:Iso L1 L2 x y):∀{z:Nat},Wf L2→Iso L2 L3 y z→Iso L1 L3 x z:=by
 induction h with
 | @letter n m c h1 h2=>
  intro z hw h'
  cases h' with
  |letter g1 g2=>rw[h2]at g1;cases g1;exact .letter h1 g2
  |pair g1=>rw[h2]at g1;cases g1
  |power g1=>rw[h2]at g1;cases g1
 |pair h1 h2 _ _ i1 i2=>
  intro z hw h'
  cases h' with
  |letter g1 g2=>rw[h2]at g1;cases g1
  |pair g1 g2 j1 j2=>rw[h2]at g1;cases g1;exact .pair h1 g2 (i1 hw j1) (i2 hw j2)
  |power g1=>rw[h2]at g1;cases g1
 |power h1 h2 _ i1=>
  intro z hw h'
  cases h' with
  |letter g1 g2=>rw[h2]at g1;cases g1
  |pair g1=>rw[h2]at g1;cases g1
  |power g1 g2 j1=>rw[h2]at g1;cases g1;exact .power h1 g2 (i1 hw j1)
end
