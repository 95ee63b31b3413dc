import Derived.Test.YtblljbllmnbiaaaGreatDoorQ35
set_option linter.all false
set_option maxHeartbeats 1000000
namespace Go.Proofs.YtblljbllmnbiaaaGreatDoor
open Go Go.RowKit Sl Eg
def rep {α:Type}(k:Nat)(l:List α):List α:=(List.replicate k l).flatten
theorem Lts.split {L:List Rl}{a b:List Nat}{bs:List UInt8}(h:Lts L (a++b) bs):∃u v,Lts L a u∧Lts L b v∧bs=u++v:=by
 generalize e:a++b=c at h
 induction h generalizing b with
 |nil=>
  obtain⟨rfl,rfl⟩:=List.append_eq_nil_iff.1 e
  exact⟨[],[],.nil,.nil,O⟩
 | @snoc ids bs i c h1 h2 ih=>
  rcases List.eq_nil_or_concat b with rfl|⟨b',y,rfl⟩
  ·rw[List.append_nil]at e
   subst e
   exact⟨_,[],.snoc h1 h2,.nil,by simp⟩
  rw[List.concat_eq_append,←List.append_assoc]at*
  obtain⟨e1,e2⟩:=List.append_inj' e rfl
  simp at e2
  subst e2
  obtain⟨u,v,g1,g2,rfl⟩:=ih e1
  exact⟨u,v++[c],g1,.snoc g2 h2,by simp⟩
end Go.Proofs.YtblljbllmnbiaaaGreatDoor
