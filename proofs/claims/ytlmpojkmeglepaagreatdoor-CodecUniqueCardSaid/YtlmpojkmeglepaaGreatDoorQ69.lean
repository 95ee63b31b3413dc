import Derived.Test.YtlmpojkmeglepaaGreatDoorQ68
set_option linter.all false
set_option maxHeartbeats 1000000
namespace Go.Proofs.YtlmpojkmeglepaaGreatDoor
open Go Go.RowKit Sl Eg
section
theorem Sig.part {L:List Rl}(hw:Wf L){x a:Nat}(hs:Sig L x)(h1:1≤a)(h2:a≤L.length)(h3:0≤lvl L a)(h4:lvl L a<lvl L x)(P Q:Nat→List Nat)
  (he:∀k:Nat,(k:Int)<lvl L x→expd L k x=P k++(expd L k a++Q k)) (hp:∀k:Nat,1≤k→(k:Int)<lvl L x→fF L (k-1) (P k)=P (k-1)):Sig L a:=by
 have key:∀k,1≤k→Inv L k (expd L (k-1) a)∧Sq L k (expd L (k-1) a) (expd L k a):=fun k hk=>by
  rcases Int.lt_or_le (k:Int) (lvl L x)with hlt|hge
  ·have hi:=hs.inv k hk
   have hq:=hs.step k hk
   rw[he (k-1) oO]at hi hq
   rw[he k hlt]at hq
   obtain⟨X,W,e1,s1,s2,_⟩:=hq.split hw
   have iX:Inv L k X:=by rw[e1]at hi;exact hi.left
   have iW:Inv L k W:=by rw[e1]at hi;exact hi.right
   have eX:X=P (k-1):=by rw[←hp k hk hlt];exact(s1.down iX hk).symm
   rw[eX]at e1
   have e2:=List.append_cancel_left e1
   obtain⟨Y,Z,e3,s3,s4,_⟩:=s2.split hw
   rw[e3]at iW
   have eY:Y=expd L (k-1) a:=by
    have e4:=s3.down iW.left hk
    rw[←e4,←fE,jK hw oO (by simpa using h2),fE]
   rw[←eY]
   exact⟨iW.left,s3⟩
  rw[dZ h1 oO,dZ h1 oO]
  exact⟨.one hw h1 h2 h3 oO,.one L k a⟩
 exact⟨h1,h2,h3,fun k hk=>(key k hk).1,fun k hk=>(key k hk).2⟩
def Nb (L:List Rl)(a b:Nat):Prop:=∀k:Nat,1≤k→(k:Int)≤max (lvl L a) (lvl L b)→Bdry L k (expd L (k-1) a) (expd L k a) (expd L (k-1) b)∧Inv L k (expd L (k-1) a++expd L (k-1) b)
theorem qKz {α:Type}{A B:List α}(h:A≠[]):(A++B).head?=A.head?:=by
 cases A with
 |nil=>exact absurd rfl h
 |cons a A=>rfl
theorem nb_of {L:List Rl}(hw:Wf L){x a b:Nat}(hs:Sig L x)(ha:1≤a∧a≤L.length)(hb:1≤b∧b≤L.length)(h4:lvl L a<lvl L x)(h5:lvl L b<lvl L x)(Q:Nat→List Nat)(he:∀k:Nat,(k:Int)<lvl L x→expd L k x=expd L k a++(expd L k b++Q k)):Nb L a b:=fun k hk hl=>by
 have hlt:(k:Int)<lvl L x:=oO
 have hi:=hs.inv k hk
 have hq:=hs.step k hk
 rw[he (k-1) oO]at hi hq
 rw[he k hlt]at hq
 obtain⟨X,W,e1,s1,s2,hbd⟩:=hq.split hw
 have hi':=hi
 rw[e1]at hi'
 have eX:X=expd L (k-1) a:=by
  rw[←s1.down hi'.left hk,←fE,jK hw oO (by simpa using ha.2),fE]
 rw[eX]at e1
 have e2:=List.append_cancel_left e1
 have hne:expd L (k-1) b≠[]:=fun e=>by have:=(nJ hw (l:=k-1) b hb.1 hb.2).1;rw[e]at this;simp at this
 refine⟨fun u v hu hv=>hbd u v (by rw[eX];exact hu) (by rw[←e2,qKz hne];exact hv),?_⟩
 rw[←List.append_assoc]at hi
 exact hi.left
theorem Sig.down2 {L:List Rl}(hw:Wf L){n:Nat}{r:Rl}(hs:Sig L (n+1))(hr:L[n]?=some r):(∀x∈kids r,Sig L x∧lvl L x<lvl L (n+1))∧(∀a b,r= .pair a b→Nb L a b)∧∀a t,r= .power a t→Nb L a a:=by
 have hk:=hw.ok n r hr
 have hn:=(List.getElem?_eq_some_iff.1 hr).1
 have hl:=hs.lv
 cases r with
 |letter b=>exact⟨fun x h=>by simp[kids]at h,fun a b h=>Rl.noConfusion h,fun a t h=>Rl.noConfusion h⟩
 |pair a b=>
  obtain⟨h1,h2,h3,h4⟩:=hk
  obtain⟨g1,g2,g3,g4,_⟩:=kE hw (x:=n+1) oO hr hl
  have gp:=(jA hr (hw.ok _ _ hr)).2
  rw[gp]at hl
  split at hl
  ·rename_i hc
   have ea:Sig L a:=hs.part hw h1 oO hc.2.1 g3 (fun _=>[]) (fun k=>expd L k b) (fun k hk=>by rw[fZ hw hr hk];rfl) (fun k _ _=>rfl)
   have eb:Sig L b:=hs.part hw h3 oO hc.2.2 g4 (fun k=>expd L k a) (fun _=>[]) (fun k hk=>by rw[fZ hw hr hk,List.append_nil]) (fun k hk hk2=>by rw[←fE,jK hw oO (by simp;omega),fE])
   refine⟨fun x h=>?_,fun a' b' e=>?_,fun a t h=>Rl.noConfusion h⟩
   ·simp[kids]at h
    rcases h with rfl|rfl
    ·exact⟨ea,g3⟩
    exact⟨eb,g4⟩
   cases e
   exact nb_of hw hs ⟨h1,oO⟩ ⟨h3,oO⟩ g3 g4 (fun _=>[]) (fun k hk=>by rw[fZ hw hr hk,List.append_nil])
  omega
 |power y t=>
  obtain⟨h1,h2,h3⟩:=hk
  obtain⟨g1,g2⟩:=lW hw (x:=n+1) oO hr hl
  have gp:=(jE hr (hw.ok _ _ hr)).2
  rw[gp]at hl
  split at hl
  ·rename_i hc
   obtain⟨t,rfl⟩:∃s,t=s+2:=⟨t-2,oO⟩
   have ee:∀k:Nat,(k:Int)<lvl L (n+1)→expd L k (n+1)=expd L k y++(expd L k y++(List.replicate t (expd L k y)).flatten):=fun k hk=>by
    rw[gF hw hr hk]
    simp only[List.replicate_succ,List.flatten_cons]
   have ea:Sig L y:=hs.part hw h1 oO hc.1 oO (fun _=>[]) (fun k=>expd L k y++(List.replicate t (expd L k y)).flatten) (fun k hk=>by rw[ee k hk];rfl) (fun k _ _=>rfl)
   refine⟨fun x h=>?_,fun a b h=>Rl.noConfusion h,fun a' t' e=>?_⟩
   ·simp[kids]at h
    subst h
    exact⟨ea,oO⟩
   cases e
   exact nb_of hw hs ⟨h1,oO⟩ ⟨h1,oO⟩ oO oO _ ee
  omega
end
section
theorem Iso.lvl {L1 L2:List Rl}(h1:Wf L1)(h2:Wf L2){x y:Nat}(h:Iso L1 L2 x y):Eg.lvl L1 x=Eg.lvl L2 y:=by
 induction h with
 |letter g1 g2=>rw[(fT g1).2,(fT g2).2]
 | @pair n m a b a' b' g1 g2 ha hb ih1 ih2=>
  have e:a=b↔a'=b':=⟨fun e=>by subst e;exact ha.fn h2 hb,fun e=>by subst e;exact ha.fn' h1 hb⟩
  rw[(jA g1 (h1.ok _ _ g1)).2,(jA g2 (h2.ok _ _ g2)).2,ih1,ih2,ha.key h1 h2,hb.key h1 h2]
  simp only[ne_eq,e]
 |power g1 g2 _ ih=>rw[(jE g1 (h1.ok _ _ g1)).2,(jE g2 (h2.ok _ _ g2)).2,ih]
theorem numb_pos {V:List Nat}{x:Nat}(h:x∈V):1≤numb V x:=by
 have:numb V x≠0:=fun e=>jZ.1 e h
 omega
variable {L:List Rl}{V:List Nat}
theorem gram_len:(gram L V).length=V.length:=List.length_map _
theorem map_flat {α β:Type}(f:α→β)(t:Nat)(l:List α):((List.replicate t l).flatten).map f=(List.replicate t (l.map f)).flatten:=by
 induction t with
 |zero=>rfl
 |succ t ih=>simp only[List.replicate_succ,List.flatten_cons,List.map_append,ih]
theorem mem_flat {α:Type}{t:Nat}{l:List α}{e:α}(h:e∈(List.replicate t l).flatten):e∈l:=by
 obtain⟨m,h1,h2⟩:=List.mem_flatten.1 h
 rw[(List.mem_replicate.1 h1).2]at h2
 exact h2
theorem qEs {i z:Nat}{X:List Nat}{f:Nat→Nat}(h:(X.map f)[i]?=some z):∃x,X[i]?=some x∧z=f x:=by
 rw[List.getElem?_map]at h
 cases e:X[i]? with
 |none=>rw[e]at h;cases h
 |some x=>rw[e]at h;exact⟨x,rfl,(Option.some.inj h).symm⟩
end
end Go.Proofs.YtlmpojkmeglepaaGreatDoor
