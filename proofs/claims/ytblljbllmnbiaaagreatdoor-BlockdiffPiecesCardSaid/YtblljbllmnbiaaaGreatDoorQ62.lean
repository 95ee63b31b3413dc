import Derived.Test.YtblljbllmnbiaaaGreatDoorQ31
import Derived.Test.YtblljbllmnbiaaaGreatDoorQ61
set_option linter.all false
set_option maxHeartbeats 1000000
namespace Go.Proofs.YtblljbllmnbiaaaGreatDoor
open Go Go.RowKit Sl Eg
set_option maxRecDepth 10000
section
variable {E:Env}{Es:List Ent}{pp tb s most m bm:Nat}{f:Int→Option Value}
def SigL (L:List Rl)(xs ys:List Nat):Prop:=∀(i x y:Nat),xs[i]?=some x→ys[i]?=some y→SigOf L x y
end
section
variable {E:Env}{Es:List Ent}{pp tb s most m bm:Nat}{f:Int→Option Value}
def AccOk (L:List Rl)(acc:List Nat):Prop:=acc.Nodup∧∀y∈acc,1≤y∧y≤L.length
theorem AccOk.len {L:List Rl}{acc:List Nat}(h:AccOk L acc):acc.length≤L.length:=by
 have:=tC (B:=(List.range L.length).map (· +1)) h.1 (fun x hx=>by
  have:=h.2 x hx
  exact List.mem_map.2 ⟨x-1,List.mem_range.2 oO,oO⟩)
 simpa using this
theorem AccOk.visits {L:List Rl}(hw:Wf L){xs:List Nat}(hx:∀x∈xs,x≤L.length):AccOk L (dC L xs []):=by
 have:=qFb hw L.length xs [] hx
 refine⟨this.2.2 (by simp),fun y hy=>?_⟩
 rcases this.1 y hy with h| h
 ·simp at h
 exact⟨h.1,h.2.2⟩
end
section
variable {E:Env}{Es:List Ent}{pp tb s most m bm:Nat}{f:Int→Option Value}
theorem nuF_at {ids:List Nat}{k x:Nat}(h:ids[k]?=some x)(hn:ids.Nodup):setF (nuF (ids.take k)) (x:Nat) (.int .i64 ((k+1:Nat):Int))=nuF (ids.take (k+1)):=by
 have hk:=(List.getElem?_eq_some_iff.1 h).1
 have e:(ids.take k).length=k:=by simp;omega
 have htk:ids.take (k+1)=ids.take k++[x]:=by rw[List.take_add_one,h];rfl
 have hx:x∉ids.take k:=fun hm=>by
  have:(ids.take k++[x]).Nodup:=htk▸hn.sublist (List.take_sublist _ _)
  exact(List.nodup_append.1 this).2.2 x hm x (by simp) O
 have:=nuF_set hx
 rw[e]at this
 rw[this,htk]
theorem qRo (I:List Nat)(r:Rl):(lK I r).kind=r.kind:=by cases r<;>rfl
theorem qRn (I:List Nat)(r:Rl):(lK I r).byte=r.byte:=by cases r<;>rfl
theorem qMl (I:List Nat)(r:Rl):(lK I r).times=r.times:=by cases r<;>rfl
theorem qRp {I:List Nat}(h:0∉I)(r:Rl):(lK I r).left=numb I r.left:=by cases r<;>first |rfl|exact(jD.2 h).symm
theorem qMk {I:List Nat}(h:0∉I)(r:Rl):(lK I r).right=numb I r.right:=by cases r<;>first |rfl|exact(jD.2 h).symm
theorem renum_ok {I A:List Nat}{x n:Nat}{r:Rl}(hI:I=A++[x])(ho:r.ok n)(hk:∀k∈kids r,k∈A):(lK I r).ok (A.length+1)∧∀B,lK (I++B) r=lK I r:=by
 subst hI
 have key:∀k∈A,1≤numb (A++[x]) k∧numb (A++[x]) k≤A.length:=fun k hk=>by
  rw[qAj hk]
  have:=qGk A k
  have:numb A k≠0:=fun e=>jD.1 e hk
  omega
 have app:∀B,∀k∈A,numb (A++[x]++B) k=numb (A++[x]) k:=fun B k hk=>qAj (by simp[hk])
 cases r with
 |letter b=>exact⟨trivial,fun _=>rfl⟩
 |pair a b=>
  have h1:=key a (hk a (by simp[kids]))
  have h2:=key b (hk b (by simp[kids]))
  refine⟨⟨h1.1,oO,h2.1,oO⟩,fun B=>?_⟩
  simp only[lK,app B a (hk a (by simp[kids])),app B b (hk b (by simp[kids]))]
 |power a k=>
  have h1:=key a (hk a (by simp[kids]))
  simp only[Rl.ok]at ho
  refine⟨⟨h1.1,oO,ho.2.2⟩,fun B=>?_⟩
  simp only[lK,app B a (hk a (by simp[kids]))]
def nmY (l:List (List UInt8×Int))(ys:List Nat):List (List UInt8×Nat):=(l.map (·.1)).zip ys
end
end Go.Proofs.YtblljbllmnbiaaaGreatDoor
namespace Sl
open Go Go.RowKit
variable {E:Env}{n:Nat}{L:Fr}{S S':List HP}{ty:TypeId}{pos:String}{af:Array Edge}{d:Option Nat}{gd:Option (Nat×Bool)}
theorem qXq {x:Operand}{src dst e:TypeId}{a:Option Addr}{bs:List UInt8}{c s by_ sz sz1 sz2:Nat}{zs zs1 zs2:List Value}{q:HP}(hx:ev L x=some (.slice a bs.length c))(hs:E.tab src=some ⟨.slice e s by_,sz,zs⟩)(he:E.tab e=some ⟨.int .u8,sz1,zs1⟩)(hd:E.tab dst=some ⟨.string,sz2,zs2⟩)
  (hq:Rdb E.w0 a (bs.map fun b=>Value.int .u8 (b.toNat:Nat)) q) (hm:Take q S S'):Yl E n L S ⟨d,.convert src dst x,ty,pos,af,gd⟩ (.string ⟨⟨bs⟩⟩):=fun A w g st=>by
 obtain⟨i',z,_,_,_,_,hk'⟩:=fK hd
 simp only[TK.holds]at hk'
 have hu:E.P.underlying dst=some .string:=by
  split at hk'
  ·assumption
  cases hk'
 obtain⟨hsu,_⟩:=fJ hs
 have hr:(convert src dst (.slice a bs.length c)).run E.P w= .ok (.string ⟨⟨bs⟩⟩) w:=by
  cases bs with
  |nil=>
   cases a with
   |none=>
    rw[run_convert_bytes_string w src dst e none _ c hsu (sD he) hu]
    rfl
   |some a=>exact run_convert_bytes_back w src dst e a c [] hsu (sD he) hu (fun j hj=>by simp at hj)
  |cons b bs=>
   obtain⟨g',o,rfl,hq'⟩:=hq (by simp)
   refine run_convert_bytes_back w src dst e ⟨g',o,none⟩ c (b::bs) hsu (sD he) hu (fun j hj=>?_)
   rw[addr_add]
   exact qGq hq' (st.take hm) (i:=j) (by rw[List.getElem?_map,List.getElem?_eq_getElem hj];rfl)
 simp[execOp,g.ev hx,hr]
end Sl
namespace Go.Proofs.YtblljbllmnbiaaaGreatDoor
open Go Go.RowKit Sl Eg
set_option maxRecDepth 10000
variable {E:Env}
end Go.Proofs.YtblljbllmnbiaaaGreatDoor
namespace Sl
open Go Go.RowKit
variable {E:Env}{n:Nat}{L:Fr}{S H:List HP}{Q:Exit→Act→World→Prop}
theorem iB {ops:List Oper}{S:List HP}{fuel:Nat}{listed:Array Bool}(i:Nat){d:Option Nat}{op:Op}{ty:TypeId}{pos:String}{af:Array Edge}{j t:Nat}{b:Bool}(hi:ops[i]?=some ⟨d,op,ty,pos,af,some (j,b)⟩)
  (hj:(ops[j]?).bind (·.dst)=some t) (hl:look L t=some undef) (hQ:Calm Q) (hf:(Region.noSelect ops.toArray&&(Region.free .any ops.toArray listed i&&(Region.ready .any ops.toArray listed).contains i))=true) (hd:inB n d=true)
  (k:WPD E ops S Q fuel (listed.setIfInBounds i true) n (putL d undef L) H):WPD E ops S Q (fuel+1) listed n L H:=fun hS a w g=>by
 simp only[Bool.and_eq_true]at hf
 have hj':(ops.toArray[j]?).bind (·.dst)=some t:=by simpa using hj
 have hyl:yielded ops.toArray a.tmps j=none:=by
  simp only[yielded,hj',Option.bind_some,g.f.fr t _ hl]
  rfl
 exact wpAnyH_take (eH hi) hf.1 hf.2.1 hf.2.2 (fun c a w h=>hQ c a w d undef h) (.inr ⟨by simp[Region.wanted,hyl],rfl⟩) (g.hp.imp hS) (k hS _ _ ⟨g.f.put d undef hd,g.hp⟩)
end Sl
namespace Go.Proofs.YtblljbllmnbiaaaGreatDoor
open Go Go.RowKit Sl Eg
set_option maxRecDepth 10000
section
variable {E:Env}
structure Im where
 name:List UInt8
 a:Option Addr
 bs:List UInt8
 c:Nat
end
section
variable {E:Env}{Es:List Ent}{pp tb s most m bm:Nat}
theorem qVx {w0:World}{p:Option Addr}{c n:Nat}{t:TypeId}{vs:List Value}(hn:vs.length=n)(h:0<n→∃g,p=some ⟨g,0,none⟩):Rdb w0 p vs (sl p c t 1 n vs):=fun hne=>by
 obtain⟨g,rfl⟩:=h (by
  rcases Nat.eq_zero_or_pos n with e| e
  ·exact absurd (List.eq_nil_of_length_eq_zero oO) hne
  exact e)
 exact⟨g,0,O,rd_slz (fun _ _ h=>h)⟩
theorem byC_ne {bs:List UInt8}(h:bs≠[]):byC bs≠[]:=fun e=>h (by
 have:=mP bs
 rw[e]at this
 exact List.eq_nil_of_length_eq_zero this.symm)
def mkN (l:List Im)(ids:List Nat):List (List UInt8×Int):=(l.zip ids).map fun p=>(p.1.name,(p.2:Int))
def Txs (L:List Rl)(l:List Im)(ids:List Nat):Prop:=∀(i:Nat)(x:Im)(id:Nat),l[i]?=some x→ids[i]?=some id→id≤L.length∧txt L id=x.bs
end
end Go.Proofs.YtblljbllmnbiaaaGreatDoor
