import Derived.Test.YtlmpojkmeglepaaGreatDoorQ67
set_option linter.all false
set_option maxHeartbeats 1000000
namespace Go.Proofs.YtlmpojkmeglepaaGreatDoor
open Go Go.RowKit Sl Eg
section
def encG:Nat→List Rl→List UInt8
 |_,[]=>[]
 |k,r::G=>rulB (k+1) r++encG (k+1) G
def GOk (k:Nat)(G:List Rl):Prop:=∀(i:Nat)(r:Rl),G[i]?=some r→r.ok (k+i+1)
theorem sW:∀(A B:List Rl)(k:Nat),encG k (A++B)=encG k A++encG (k+A.length) B
 |[],B,k=>rfl
 |r::A,B,k=>by
  simp only[List.cons_append,encG,List.append_assoc,sW A B (k+1),List.length_cons]
  rw[show k+1+A.length=k+(A.length+1) by omega]
def encM (l:List (List UInt8×Nat)):List UInt8:=l.flatMap fun p=>iA p.1++vput p.2
def encA (G:List Rl)(A:List (List UInt8×Nat)):List UInt8:=vput G.length++encG 0 G++vput A.length++encM A
def gram (L:List Rl)(ids:List Nat):List Rl:=ids.map fun x=>iR ids (L.getD (x-1) (.letter 0))
theorem qPy {L:List Rl}{ids:List Nat}{i n:Nat}{r:Rl}(h:ids[i]?=some (n+1))(hr:L[n]?=some r):(gram L ids)[i]?=some (iR ids r):=by
 unfold gram
 rw[List.getElem?_map,h]
 simp only[Option.map_some,Nat.add_sub_cancel,List.getD_eq_getElem?_getD,hr,Option.getD_some]
theorem qGv {L:List Rl}{ids:List Nat}(hx:∀x∈ids,1≤x∧x≤L.length):∀i,i≤ids.length→encR L ids i=encG 0 ((gram L ids).take i)
 |0,_=>rfl
 |i+1,hi=>by
  obtain⟨x,hxi⟩:∃x,ids[i]?=some x:=⟨_,List.getElem?_eq_getElem oO⟩
  have hxx:=hx x (List.mem_of_getElem? hxi)
  obtain⟨n,rfl⟩:∃n,x=n+1:=⟨x-1,oO⟩
  obtain⟨r,hr⟩:∃r,L[n]?=some r:=⟨_,List.getElem?_eq_getElem oO⟩
  have hg:=qPy hxi hr
  rw[qX hxi hr,qGv hx i oO,List.take_add_one,hg,sW]
  have hl:((gram L ids).take i).length=i:=by rw[List.length_take];unfold gram;rw[List.length_map];omega
  rw[hl,Nat.zero_add]
  simp only[Option.toList_some,encG,List.append_nil]
theorem qGt {L:List Rl}{ids:List Nat}(hx:∀x∈ids,1≤x∧x≤L.length) (nm:List (List UInt8×Nat)):encB L ids nm=encA (gram L ids) (nm.map fun p=>(p.1,numb ids p.2)):=by
 have hl:(gram L ids).length=ids.length:=List.length_map _
 unfold encB encA
 rw[qGv hx _ (Nat.le_refl _),hl,List.take_of_length_le oO,List.length_map]
 congr 1
 unfold encN encM
 rw[List.flatMap_map]
 rfl
end
section
inductive Iso (L1 L2:List Rl):Nat→Nat→Prop where
 |letter {n m:Nat} {c:UInt8}:L1[n]?=some (.letter c)→L2[m]?=some (.letter c)→Iso L1 L2 (n+1) (m+1)
 |pair {n m a b a' b':Nat}:L1[n]?=some (.pair a b)→L2[m]?=some (.pair a' b')→Iso L1 L2 a a'→Iso L1 L2 b b'→Iso L1 L2 (n+1) (m+1)
 |power {n m a a' k:Nat}:L1[n]?=some (.power a k)→L2[m]?=some (.power a' k)→Iso L1 L2 a a'→Iso L1 L2 (n+1) (m+1)
theorem Iso.symm {L1 L2:List Rl}{x y:Nat}(h:Iso L1 L2 x y):Iso L2 L1 y x:=by
 induction h with
 |letter h1 h2=>exact .letter h2 h1
 |pair h1 h2 _ _ ih1 ih2=>exact .pair h2 h1 ih1 ih2
 |power h1 h2 _ ih=>exact .power h2 h1 ih
theorem Iso.pos {L1 L2:List Rl}{x y:Nat}(h:Iso L1 L2 x y):1≤x∧1≤y:=by cases h<;>exact⟨Nat.succ_pos _,Nat.succ_pos _⟩
theorem Iso.fn {L1 L2:List Rl}(hw:Wf L2){x y z:Nat}(h:Iso L1 L2 x y)(h':Iso L1 L2 x z):y=z:=by
 induction h generalizing z with
 | @letter n m c h1 h2=>
  generalize e:n+1=x at h'
  cases h' with
  |letter g1 g2=>
   obtain rfl:=Nat.succ.inj e
   rw[h1]at g1
   cases g1
   rw[hw.nodup _ _ _ h2 g2]
  |pair g1 _ _ _=>obtain rfl:=Nat.succ.inj e;rw[h1]at g1;cases g1
  |power g1 _ _=>obtain rfl:=Nat.succ.inj e;rw[h1]at g1;cases g1
 | @pair n m a b a' b' h1 h2 _ _ ih1 ih2=>
  generalize e:n+1=x at h'
  cases h' with
  |letter g1 _=>obtain rfl:=Nat.succ.inj e;rw[h1]at g1;cases g1
  |pair g1 g2 ga gb=>
   obtain rfl:=Nat.succ.inj e
   rw[h1]at g1
   cases g1
   obtain rfl:=ih1 ga
   obtain rfl:=ih2 gb
   rw[hw.nodup _ _ _ h2 g2]
  |power g1 _ _=>obtain rfl:=Nat.succ.inj e;rw[h1]at g1;cases g1
 | @power n m a a' k h1 h2 _ ih=>
  generalize e:n+1=x at h'
  cases h' with
  |letter g1 _=>obtain rfl:=Nat.succ.inj e;rw[h1]at g1;cases g1
  |pair g1 _ _ _=>obtain rfl:=Nat.succ.inj e;rw[h1]at g1;cases g1
  |power g1 g2 ga=>
   obtain rfl:=Nat.succ.inj e
   rw[h1]at g1
   cases g1
   obtain rfl:=ih ga
   rw[hw.nodup _ _ _ h2 g2]
theorem Iso.fn' {L1 L2:List Rl}(hw:Wf L1){x y z:Nat}(h:Iso L1 L2 x y)(h':Iso L1 L2 z y):x=z:=h.symm.fn hw h'.symm
theorem Iso.key {L1 L2:List Rl}(h1:Wf L1)(h2:Wf L2){x y:Nat}(h:Iso L1 L2 x y):Eg.key L1 x=Eg.key L2 y:=by
 induction h with
 |letter g1 g2=>rw[(fT g1).1,(fT g2).1]
 |pair g1 g2 _ _ ih1 ih2=>rw[(jA g1 (h1.ok _ _ g1)).1,(jA g2 (h2.ok _ _ g2)).1,ih1,ih2]
 |power g1 g2 _ ih=>rw[(jE g1 (h1.ok _ _ g1)).1,(jE g2 (h2.ok _ _ g2)).1,ih]
def Rel (L1 L2:List Rl)(A B:List Nat):Prop:=∃ps:List (Nat×Nat),A=ps.map (·.1)∧B=ps.map (·.2)∧∀p∈ps,Iso L1 L2 p.1 p.2
theorem Rel.length {L1 L2:List Rl}{A B:List Nat}(h:Rel L1 L2 A B):A.length=B.length:=by
 obtain⟨ps,rfl,rfl,_⟩:=h
 simp
end
section
structure EqL (L:List Rl)(l:List Im)(ids ys:List Nat):Prop where
 wf:Wf L
 il:ids.length=l.length
 yl:ys.length=l.length
 tx:Txs L l ids
 sg:SigL L ids ys
variable {L L1 L2:List Rl}{l l1 l2:List Im}{ids ys ids1 ids2 y1 y2:List Nat}
theorem EqL.bound (h:EqL L l ids ys):∀y∈ys,y≤L.length:=h.sg.bound (by rw[h.yl,h.il])
theorem EqL.acc (h:EqL L l ids ys):AccOk L (dD L ys []):=AccOk.visits h.wf h.bound
theorem EqL.at (h:EqL L l ids ys){i y:Nat}(hy:ys[i]?=some y):∃x id,l[i]?=some x∧ids[i]?=some id∧SigOf L id y∧txt L id=x.bs:=by
 have hi:=(List.getElem?_eq_some_iff.1 hy).1
 have h1:=h.il
 have h2:=h.yl
 obtain⟨x,hx⟩:∃x,l[i]?=some x:=⟨_,List.getElem?_eq_getElem oO⟩
 obtain⟨id,hid⟩:∃x,ids[i]?=some x:=⟨_,List.getElem?_eq_getElem oO⟩
 exact⟨x,id,hx,hid,h.sg i id y hid hy,(h.tx i x id hx hid).2⟩
theorem mkN_fst (h:ids.length=l.length):(mkN l ids).map (·.1)=l.map (·.name):=by
 unfold mkN
 rw[List.map_map]
 have e:((fun x:List UInt8×Int=>x.1)∘fun p:Im×Nat=>(p.1.name,(p.2:Int)))=(fun x:Im=>x.name)∘Prod.fst:=rfl
 rw[e,←List.map_map,List.map_fst_zip oO]
theorem EqL.enc (h:EqL L l ids ys):encB L (dD L ys []) (nmY (mkN l ids) ys)=encA (gram L (dD L ys [])) ((l.map (·.name)).zip (ys.map (numb (dD L ys [])))):=by
 rw[qGt h.acc.2]
 congr 1
 unfold nmY
 rw[mkN_fst h.il,List.zip_map_right]
 rfl
end
end Go.Proofs.YtlmpojkmeglepaaGreatDoor
