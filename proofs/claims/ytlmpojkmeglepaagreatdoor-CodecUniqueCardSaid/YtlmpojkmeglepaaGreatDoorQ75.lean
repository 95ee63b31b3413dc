import Derived.Test.YtlmpojkmeglepaaGreatDoorQ74
set_option linter.all false
set_option maxHeartbeats 1000000
namespace Sl
open Go Go.RowKit
variable {E:Env}{n:Nat}{L:Fr}{H H':List HP}{K:Value→List HP→Prop}{op:Oper}{ty:TypeId}{pos:String}{af:Array Edge}{d:Option Nat}{gd:Option (Nat×Bool)}
theorem gH {x:Operand}{t e:TypeId}{c by_ sz sz':Nat}{z:Int}{zs:List Value}{v0:Value}{kk:TK}(ht:E.tab t=some ⟨.slice e 1 by_,sz,zs⟩)(he:E.tab e=some ⟨kk,sz',[v0]⟩)
  (hx:ev L x=some (.int .i64 z)) (hz:z=(c:Nat)) (hb:by_*c≤281474976710656) (hc:c≤maxLen)
  (hk:∀b,K (.slice (some ⟨b,0,none⟩) c c) (sl (some ⟨b,0,none⟩) c e 1 c (List.replicate c v0)::H)):Ld E n L H ⟨d,.makeSlice t x x,ty,pos,af,gd⟩ K:=qLe ht he (hx.trans (by rw[hz])) hb hc hk
theorem nD (hH:∀k,eF H k→eF H' k) (h:Ld E n L H' op K):Ld E n L H op K:=fun Q next a w G hn=>h Q next a w ⟨G.f,G.hp.imp hH⟩ hn
end Sl
namespace Go.Proofs.YtlmpojkmeglepaaGreatDoor
open Go Go.RowKit Sl Eg
set_option maxRecDepth 10000
section
variable {E:Env}{G:List Rl}
def tkS (A:List Nat)(k:Nat):List Nat:=A.take k++List.replicate (A.length-k) 0
theorem tkS_zero (A:List Nat):List.replicate A.length (Value.int .i64 0)=idC (tkS A 0):=by
 simp[tkS,idC]
theorem tkS_all (A:List Nat):tkS A A.length=A:=by simp[tkS]
theorem tkS_set {A:List Nat}{k x:Nat}(h:A[k]?=some x)(o:Nat)(ho:o=k){v:Int}(hv:v=(x:Nat)):bX (idC (tkS A k)) o (bP (.int .i64 v))=idC (tkS A (k+1)):=by
 subst ho hv
 have hk:=(List.getElem?_eq_some_iff.1 h).1
 simp only[bX,bP]
 unfold idC tkS
 have e1:A.length-o=(A.length-(o+1))+1:=oO
 have e2:(A.take o).length=o:=by rw[List.length_take];omega
 rw[e1,List.replicate_succ,List.map_append,List.map_cons,List.take_add_one,h,List.set_append_right _ _ (by rw[List.length_map,e2];exact Nat.le_refl _),List.length_map,e2,Nat.sub_self]
 simp
theorem nlC_ato {l:List (List UInt8×Int)}{i:Nat}{p:List UInt8×Int}(h:l[i]?=some p)(o:Nat)(ho:o=i*2):(nlC l)[o]?=some (.string ⟨⟨p.1⟩⟩)∧(nlC l)[o+1]?=some (.int .i64 p.2):=by subst ho;exact qAh h
theorem nmI_at {A:List (List UInt8×Nat)}{i:Nat}{p:List UInt8×Nat}(h:A[i]?=some p)(o:Nat)(ho:o=i*2):(nlC (nmI A))[o]?=some (.string ⟨⟨p.1⟩⟩)∧(nlC (nmI A))[o+1]?=some (.int .i64 (p.2:Nat)):=
 nlC_ato (l:=nmI A) (p:=(p.1,(p.2:Int))) (by unfold nmI;rw[List.getElem?_map,h];rfl) o ho
theorem qNq (A:List (List UInt8×Nat)):(nmI A).length=A.length:=List.length_map _
theorem lvC_set {G:List Rl}{k:Nat}(hk:k+1<G.length+1)(o:Nat)(ho:o=k+1):bX (lvC G k) o (bP (.int .i64 (lvl G (k+1))))=lvC G (k+1):=qHa hk o ho rfl rfl
theorem kzC_set {G:List Rl}{k:Nat}(hk:k+1<G.length+1)(o:Nat)(ho:o=k+1):bX (kzC G k) o (bP (.int .u64 (key G (k+1):Nat)))=kzC G (k+1):=qHa hk o ho rfl rfl
structure PpG where
 b:Nat
 p:Option Addr
 c:Nat
 b2:Nat
 b3:Nat
end
section
theorem Iso.ext {L1 L2:List Rl}(M:List Rl){x y:Nat}(h:Iso L1 L2 x y):Iso L1 (L2++M) x y:=by
 have g:∀{m:Nat}{r:Rl},L2[m]?=some r→(L2++M)[m]?=some r:=fun{m r}h=>by
  rw[List.getElem?_append_left (List.getElem?_eq_some_iff.1 h).1];exact h
 induction h with
 |letter h1 h2=>exact .letter h1 (g h2)
 |pair h1 h2 _ _ i1 i2=>exact .pair h1 (g h2) i1 i2
 |power h1 h2 _ i=>exact .power h1 (g h2) i
theorem Iso.le {L1 L2:List Rl}{x y:Nat}(h:Iso L1 L2 x y):x≤L1.length∧y≤L2.length:=by
 cases h with
 |letter h1 h2=>exact⟨(List.getElem?_eq_some_iff.1 h1).1,(List.getElem?_eq_some_iff.1 h2).1⟩
 |pair h1 h2=>exact⟨(List.getElem?_eq_some_iff.1 h1).1,(List.getElem?_eq_some_iff.1 h2).1⟩
 |power h1 h2=>exact⟨(List.getElem?_eq_some_iff.1 h1).1,(List.getElem?_eq_some_iff.1 h2).1⟩
theorem Iso.len {L1 L2:List Rl}(w1:Wf L1)(w2:Wf L2){x y:Nat}(h:Iso L1 L2 x y):Eg.len L1 x=Eg.len L2 y:=by
 induction h with
 |letter h1 h2=>rw[sH h1,sH h2]
 |pair h1 h2 _ _ i1 i2=>rw[sI h1 (w1.ok _ _ h1),sI h2 (w2.ok _ _ h2),i1,i2]
 |power h1 h2 _ i=>rw[kV h1 (w1.ok _ _ h1),kV h2 (w2.ok _ _ h2),i]
theorem dec_step {G L:List Rl}(hw:Wf G)(hL:Wf L){k:Nat}{r:Rl}(hr:G[k]?=some r){T:List Nat}(hT:∀j,1≤j→j≤k→∃z,T[j]?=some z∧Iso G L j z):∃r',MkOk L T r r'∧∀N id,1≤id→(L++N)[id-1]?=some r'→Iso G (L++N) (k+1) id:=by
 have hok:=hw.ok k r hr
 have hkl:=jB hok
 have hsh:=hw.short (k+1)
 have hid:∀(N:List Rl)(id:Nat)(q:Rl),1≤id→(L++N)[id-1]?=some q→∃m,id=m+1∧(L++N)[m]?=some q:=fun N id q h1 h2=>⟨id-1,oO,h2⟩
 cases r with
 |letter b=>
  refine⟨_,.letter b,fun N id h1 h2=>?_⟩
  obtain⟨m,rfl,h3⟩:=hid N id _ h1 h2
  exact .letter hr h3
 |pair a b=>
  have ha:=hkl a (by simp[kids])
  have hb:=hkl b (by simp[kids])
  obtain⟨x,hx,ix⟩:=hT a ha.1 oO
  obtain⟨y,hy,iy⟩:=hT b hb.1 oO
  have hl:=sI hr hok
  rw[ix.len hw hL,iy.len hw hL]at hl
  refine⟨_,.pair hx hy ix.pos.2 ix.le.2 iy.pos.2 iy.le.2 oO,fun N id h1 h2=>?_⟩
  obtain⟨m,rfl,h3⟩:=hid N id _ h1 h2
  exact .pair hr h3 (ix.ext N) (iy.ext N)
 |power a t=>
  have ha:=hkl a (by simp[kids])
  obtain⟨x,hx,ix⟩:=hT a ha.1 oO
  have hl:=kV hr hok
  have hp:=hw.pos a ha.1 ix.le.1
  have h2:t*1≤t*len G a:=Nat.mul_le_mul_left _ hp
  have hmx:dC=1152921504606846976:=rfl
  simp only[Rl.ok]at hok
  have hl2:len G (k+1)=t*len L x:=by rw[hl,ix.len hw hL]
  refine⟨_,.power hx ix.pos.2 ix.le.2 hok.2.2 oO (by rw[Nat.mul_comm];omega),fun N id h1 h2=>?_⟩
  obtain⟨m,rfl,h3⟩:=hid N id _ h1 h2
  exact .power hr h3 (ix.ext N)
def pad (Z:List Nat)(n:Nat):List Nat:=Z++List.replicate (n-Z.length) 0
theorem qCx {Z:List Nat}{n:Nat}(h:Z.length≤n):(pad Z n).length=n:=by simp[pad];omega
theorem qLi (n:Nat):List.replicate (n+1) (Value.int .i64 0)=idC (pad [0] (n+1)):=by
 simp[pad,idC,List.replicate_succ]
theorem wV {Z:List Nat}{n j z:Nat}(h:Z[j]?=some z):(pad Z n)[j]?=some z:=by
 unfold pad
 rw[List.getElem?_append_left (List.getElem?_eq_some_iff.1 h).1]
 exact h
theorem qQv {Z:List Nat}{n x:Nat}(h:Z.length<n)(o:Nat)(ho:o=Z.length){v:Int}(hv:v=(x:Nat)):bX (idC (pad Z n)) o (bP (.int .i64 v))=idC (pad (Z++[x]) n):=by
 subst ho hv
 simp only[bX,bP]
 unfold idC pad
 have e1:n-Z.length=(n-(Z++[x]).length)+1:=by simp;omega
 rw[e1,List.replicate_succ,List.map_append,List.map_cons,List.set_append_right _ _ (by simp),List.length_map,Nat.sub_self]
 simp
def nmK (Z:List Nat)(A:List (List UInt8×Nat))(k:Nat):List (List UInt8×Nat):=(A.take k).map (fun p=>(p.1,Z.getD p.2 0))++A.drop k
theorem nmK_zero (Z:List Nat)(A:List (List UInt8×Nat)):nmK Z A 0=A:=by simp[nmK]
theorem nmK_all (Z:List Nat)(A:List (List UInt8×Nat)):nmK Z A A.length=A.map (fun p=>(p.1,Z.getD p.2 0)):=by simp[nmK]
theorem nmK_at {Z:List Nat}{A:List (List UInt8×Nat)}{k:Nat}{p:List UInt8×Nat}(h:A[k]?=some p):(nmK Z A k)[k]?=some p:=by
 have hk:=(List.getElem?_eq_some_iff.1 h).1
 unfold nmK
 rw[List.getElem?_append_right (by simp;omega),List.getElem?_drop]
 simp only[List.length_map,List.length_take]
 rw[show k+(k-min k A.length)=k by omega]
 exact h
theorem sJ (a b:List (List UInt8×Nat)):nmI (a++b)=nmI a++nmI b:=List.map_append
theorem nmK_set {Z:List Nat}{A:List (List UInt8×Nat)}{k:Nat}{p:List UInt8×Nat}(h:A[k]?=some p){z:Nat}(hz:Z[p.2]?=some z)(o:Nat)(ho:o=k*2+1):bX (nlC (nmI (nmK Z A k))) o (bP (.int .i64 (z:Nat)))=nlC (nmI (nmK Z A (k+1))):=by
 subst ho
 have hk:=(List.getElem?_eq_some_iff.1 h).1
 have e1:A.drop k=p::A.drop (k+1):=by
  rw[List.drop_eq_getElem_cons hk]
  congr 1
  exact(List.getElem?_eq_some_iff.1 h).2
 have e2:A.take (k+1)=A.take k++[p]:=by rw[List.take_add_one,h];rfl
 have e3:Z.getD p.2 0=z:=by rw[List.getD_eq_getElem?_getD,hz];rfl
 unfold nmK
 rw[e1,e2,List.map_append,List.map_cons,List.map_nil,e3,sJ,sJ,sJ,nY,nY,nY]
 have el:(nlC (nmI ((A.take k).map (fun p=>(p.1,Z.getD p.2 0))))).length=k*2:=by
  rw[wS,qNq,List.length_map,List.length_take];omega
 simp only[bX,bP]
 rw[List.set_append_right _ _ oO,el,show k*2+1-k*2=1 by omega,List.append_assoc]
 rfl
end
section
variable {E:Env}{Es:List Ent}{pp tb s most m bm:Nat}
structure DcG where
 k:Nat
 M:List Ent
 Z:List Nat
def DcI (G L:List Rl)(k:Nat)(Z:List Nat):Prop:=Z.length=k+1∧Z[0]?=some 0∧∀j,1≤j→j≤k→∃z,Z[j]?=some z∧Iso G L j z
theorem DcI.next {G L:List Rl}{k:Nat}{Z:List Nat}(h:DcI G L k Z)(N:List Rl){id:Nat}(hi:Iso G (L++N) (k+1) id):DcI G (L++N) (k+1) (Z++[id]):=by
 obtain⟨h1,h2,h3⟩:=h
 refine⟨by simp[h1],by rw[List.getElem?_append_left oO];exact h2,fun j hj1 hj2=>?_⟩
 rcases Nat.lt_or_ge k j with h| h
 ·obtain rfl:j=k+1:=by omega
  exact⟨id,by rw[List.getElem?_append_right oO,h1,Nat.sub_self];rfl,hi⟩
 obtain⟨z,hz,iz⟩:=h3 j hj1 h
 exact⟨z,by rw[List.getElem?_append_left oO];exact hz,iz.ext N⟩
theorem DcI.get {G L:List Rl}{k:Nat}{Z:List Nat}(h:DcI G L k Z){j:Nat}(hj:j≤k):∃z,Z[j]?=some z∧((j=0∧z=0)∨Iso G L j z):=by
 obtain⟨h1,h2,h3⟩:=h
 rcases Nat.eq_zero_or_pos j with rfl|h0
 ·exact⟨0,h2,.inl ⟨O,O⟩⟩
 obtain⟨z,hz,iz⟩:=h3 j h0 hj
 exact⟨z,hz,.inr iz⟩
end
section
theorem Iso.trans {L1 L2 L3:List Rl}{x y:Nat}(h:Iso L1 L2 x y):∀{z:Nat},Wf L2→Iso L2 L3 y z→Iso L1 L3 x z:=by
 induction h with
 | @letter n m c h1 h2=>
  intro z hw h'
  cases h' with
  |letter g1 g2=>rw[h2]at g1;cases g1;exact .letter h1 g2
  |pair g1=>rw[h2]at g1;cases g1
  |power g1=>rw[h2]at g1;cases g1
 |pair h1 h2 _ _ i1 i2=>
  intro z hw h'
  cases h' with
  |letter g1 g2=>rw[h2]at g1;cases g1
  |pair g1 g2 j1 j2=>rw[h2]at g1;cases g1;exact .pair h1 g2 (i1 hw j1) (i2 hw j2)
  |power g1=>rw[h2]at g1;cases g1
 |power h1 h2 _ i1=>
  intro z hw h'
  cases h' with
  |letter g1 g2=>rw[h2]at g1;cases g1
  |pair g1=>rw[h2]at g1;cases g1
  |power g1 g2 j1=>rw[h2]at g1;cases g1;exact .power h1 g2 (i1 hw j1)
end
end Go.Proofs.YtlmpojkmeglepaaGreatDoor
