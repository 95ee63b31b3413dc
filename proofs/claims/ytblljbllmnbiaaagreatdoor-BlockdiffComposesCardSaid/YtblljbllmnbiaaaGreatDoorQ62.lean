import Derived.Test.YtblljbllmnbiaaaGreatDoorQ31
import Derived.Test.YtblljbllmnbiaaaGreatDoorQ61
set_option linter.all false
set_option maxHeartbeats 1000000
namespace Go.Proofs.YtblljbllmnbiaaaGreatDoor
open Go Go.RowKit Sl Eg
set_option maxRecDepth 10000
section
variable {E:Env}{Es:List Ent}{pp tb s most m bm:Nat}{f:Int→Option Value}
def SigL (L:List Rl)(xs ys:List Nat):Prop:=∀(i x y:Nat),xs[i]?=some x→ys[i]?=some y→SigOf L x y
end
section
variable {E:Env}{Es:List Ent}{pp tb s most m bm:Nat}{f:Int→Option Value}
def AccOk (L:List Rl)(acc:List Nat):Prop:=acc.Nodup∧∀y∈acc,1≤y∧y≤L.length
theorem AccOk.len {L:List Rl}{acc:List Nat}(h:AccOk L acc):acc.length≤L.length:=by
 have:=tC (B:=(List.range L.length).map (· +1)) h.1 (fun x hx=>by
  have:=h.2 x hx
  exact List.mem_map.2 ⟨x-1,List.mem_range.2 oO,oO⟩)
 simpa using this
theorem AccOk.visits {L:List Rl}(hw:Wf L){xs:List Nat}(hx:∀x∈xs,x≤L.length):AccOk L (dC L xs []):=by
 have:=qEz hw L.length xs [] hx
 refine⟨this.2.2 (by simp),fun y hy=>?_⟩
 rcases this.1 y hy with h| h
 ·simp at h
 exact⟨h.1,h.2.2⟩
end
section
variable {E:Env}{Es:List Ent}{pp tb s most m bm:Nat}{f:Int→Option Value}
def nmY (l:List (List UInt8×Int))(ys:List Nat):List (List UInt8×Nat):=(l.map (·.1)).zip ys
end
end Go.Proofs.YtblljbllmnbiaaaGreatDoor
namespace Sl
open Go Go.RowKit
variable {E:Env}{n:Nat}{L:Fr}{S H:List HP}{Q:Exit→Act→World→Prop}
end Sl
namespace Go.Proofs.YtblljbllmnbiaaaGreatDoor
open Go Go.RowKit Sl Eg
set_option maxRecDepth 10000
section
variable {E:Env}
structure Im where
 name:List UInt8
 a:Option Addr
 bs:List UInt8
 c:Nat
end
section
variable {E:Env}{Es:List Ent}{pp tb s most m bm:Nat}
theorem qVf {w0:World}{p:Option Addr}{c n:Nat}{t:TypeId}{vs:List Value}(hn:vs.length=n)(h:0<n→∃g,p=some ⟨g,0,none⟩):Rdb w0 p vs (sl p c t 1 n vs):=fun hne=>by
 obtain⟨g,rfl⟩:=h (by
  rcases Nat.eq_zero_or_pos n with e| e
  ·exact absurd (List.eq_nil_of_length_eq_zero oO) hne
  exact e)
 exact⟨g,0,O,rd_slz (fun _ _ h=>h)⟩
theorem qSc {bs:List UInt8}(h:bs≠[]):byC bs≠[]:=fun e=>h (by
 have:=jV bs
 rw[e]at this
 exact List.eq_nil_of_length_eq_zero this.symm)
def mkN (l:List Im)(ids:List Nat):List (List UInt8×Int):=(l.zip ids).map fun p=>(p.1.name,(p.2:Int))
def Txs (L:List Rl)(l:List Im)(ids:List Nat):Prop:=∀(i:Nat)(x:Im)(id:Nat),l[i]?=some x→ids[i]?=some id→id≤L.length∧txt L id=x.bs
end
end Go.Proofs.YtblljbllmnbiaaaGreatDoor
