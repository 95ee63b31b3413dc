import Derived.Test.YtjbdlljghogodaaGreatDoorQ19
import Derived.Test.YtjbdlljghogodaaGreatDoorQ42
import Derived.Test.YtjbdlljghogodaaGreatDoorQ87
set_option linter.all false
set_option maxHeartbeats 1000000
namespace Sl
open Go Go.RowKit
variable {E:Env}{n:Nat}{L:Fr}{S H H':List HP}{ty:TypeId}{pos:String}{af:Array Edge}{d:Option Nat}{gd:Option (Nat×Bool)}{K:Value→List HP→Prop}
theorem y_gt_str {x y:Operand}{xt yt:TypeId}{a b:List UInt8}(hx:ev L x=some (.string ⟨⟨a⟩⟩))(hy:ev L y=some (.string ⟨⟨b⟩⟩)):
  Yl E n L S ⟨d,.binOp .gtr xt x y yt,ty,pos,af,gd⟩ (.bool (Op.bytesLess b a)):=fun a' w g _=>by
 have h:=qSa (a:=b) (b:=a)
 have e:(!Op.bytesLess a b&&!a==b)=Op.bytesLess b a:=by
  rw[show(a==b)=decide (a=b)from(by by_cases h:a=b<;>simp[h]),←Bool.not_or,h,Bool.not_not]
 simp[execOp,eqGuard,binOp,Op.stringOp,ByteArray.toList_eq,g.ev hx,g.ev hy,e]
end Sl
namespace Eg
open Go
theorem qLw:∀{A B:List UInt8},Op.bytesLess A B=true↔cmpT A B<0
 |[],[]=>by simp[Op.bytesLess,cmpT]
 |[],b::B=>by simp[Op.bytesLess,cmpT]
 |a::A,[]=>by simp[Op.bytesLess,cmpT]
 |a::A,b::B=>by
  have ih:=qLw (A:=A) (B:=B)
  simp only[Op.bytesLess,cmpT]
  by_cases h1:a.toNat<b.toNat
  ·have:a<b:=UInt8.lt_iff_toNat_lt.2 h1
   simp[h1,this]
  have h2:¬a<b:=fun h=>h1 (UInt8.lt_iff_toNat_lt.1 h)
  by_cases h3:b.toNat<a.toNat
  ·have:a≠b:=fun e=>by subst e;omega
   simp[h1,h3,h2,this]
  have:a=b:=UInt8.toNat_inj.1 oO
  subst this
  simp[h1,ih,UInt8.lt_irrefl]
theorem srch_at {ts:List (List UInt8)}(hs:Srt ts){i:Nat}{A:List UInt8}(hA:ts[i]?=some A):ts[srch ts A]?=some A∧srch ts A≤i:=by
 have hle:srch ts A≤i:=by
  refine Classical.byContradiction fun h=>?_
  have:=qFn (show i<srch ts A by omega) hA
  rw[nV]at this
  omega
 have hi:=(List.getElem?_eq_some_iff.1 hA).1
 obtain⟨B,hB⟩:∃B,ts[srch ts A]?=some B:=⟨_,List.getElem?_eq_getElem oO⟩
 have h1:=qKm hs (Nat.le_refl _) hB
 have h2:=hs.le hle hB hA
 have:B=A:=vS.1 oO
 exact⟨by rw[hB,this],hle⟩
theorem bgns_iff {ts:List (List UInt8)}(hs:Srt ts){x:List UInt8}{i:Nat}{A:List UInt8}(hA:ts[i]?=some A):Bgn A x↔srch ts x≤i∧i<srch ts x+bgns ts x:=by
 constructor
 ·intro h
  have h1:srch ts x≤i:=by
   refine Classical.byContradiction fun hn=>?_
   have a:=qFn (show i<srch ts x by omega) hA
   have b:=cmpT_bgn h
   omega
  refine⟨h1,Classical.byContradiction fun hn=>?_⟩
  exact qPa (ts:=ts) (x:=x) hs (i:=i-srch ts x) oO (by rw[show srch ts x+(i-srch ts x)=i by omega];exact hA) h
 rintro⟨h1,h2⟩
 exact qPc (ts:=ts) (x:=x) (i:=i-srch ts x) oO (by rw[show srch ts x+(i-srch ts x)=i by omega];exact hA)
end Eg
namespace Go.Proofs.YtjbdlljghogodaaGreatDoor
open Go Go.RowKit Sl Eg
set_option maxRecDepth 10000
section
variable {E:Env}{Es:List Ent}{pp tb s most:Nat}
theorem qNr (hE:Seat E):Ct E 11 [uPt s] [bR s most Es] (fun v Q=>∃pp tb,v=uPt pp∧Q=[cells pp [uPt s,uPt tb] 108,tabP tb s (rls Es),bR s most Es]):=by
 refine bO (hE.fn Tryz.func11) O O O (fun R=>?_)
 simp only[dR,uV,uW]
 refine gg19 ?_
 refine uX (qCo hE) O ?_
 rintro _ _⟨tb,rfl,rfl⟩
 simp only[uV,uW]
 refine gg1 ?_
 refine uU ?_
 refine gL O (fun b9=>?_)
 refine gg4 ?_
 apply cB
 ·rfl
 ·(apply Rs.tmp rfl;exact Rs.nil)
 ·exact⟨b9,tb,O,O⟩
 refine cO (cK (p:=tabP tb s []) (p':=tabP tb s (rls Es)) uK (fun _ h=>tF (rls Es) h)) ?_
 exact uI
theorem qPz (hE:Seat E){g c:Nat}{ids:List Nat}(hl:ids.length<1000000):
  Ct E 69 [.slice (some ⟨g,0,none⟩) ids.length c] [sl (some ⟨g,0,none⟩) c 56 1 ids.length (idC ids)]
   (fun v Q=>∃g' c',v= .slice (some ⟨g',0,none⟩) ids.length c'∧Q=[sl (some ⟨g',0,none⟩) c' 56 1 ids.length (idC ids),sl (some ⟨g,0,none⟩) c 56 1 ids.length (idC ids)]):=by
 rcases Nat.eq_zero_or_pos ids.length with h0|h0
 ·obtain rfl:=List.eq_nil_of_length_eq_zero h0
  refine bO (hE.fn Tryz.func69) O O O (fun R=>?_)
  simp only[dR,uV,uW]
  refine gg17 ?_
  refine uU ?_
  refine nU (hE.t O) (fun b5=>?_)
  refine gg1 ?_
  refine uU ?_
  refine qCa (hE.t O) O O uK ?_
  refine gg4 ?_
  exact uZ O (.tmp O .nil) ⟨b5,0,O,O⟩
 exact qQa hE h0 hl
theorem ct_SortA (hE:Seat E)(hB:Base E.w0){ids:List Nat}(hg:∀x∈ids,good (rls Es) x) (hgl:∀x∈ids,len (rls Es) x≤4000000) (hn:ids.length<65536) {g c:Nat}:
  Ct E 33 [uPt pp,.slice (some ⟨g,0,none⟩) ids.length c] [cells pp [uPt s,uPt tb] 108,tabP tb s (rls Es),bR s most Es,sl (some ⟨g,0,none⟩) c 56 1 ids.length (idC ids)]
   (fun v Q=>∃g' c' out,v= .tuple #[.slice (some ⟨g',0,none⟩) ids.length c',.nilIface]∧out.Perm ids∧Srt (out.map (txt (rls Es)))∧Q=[cells pp [uPt s,uPt tb] 108,tabP tb s (rls Es),bR s most Es,sl (some ⟨g',0,none⟩) c' 56 1 ids.length (idC out),sl (some ⟨g,0,none⟩) c 56 1 ids.length (idC ids)]):=by
 refine bO (hE.fn Tryz.func33) O O O (fun R=>?_)
 simp only[dR,uV,uW]
 refine gg2 ?_
 refine uU ?_
 refine gL O (fun b2=>?_)
 refine gg9 ?_
 refine uX (zW (q:=sl (some ⟨g,0,none⟩) c 56 1 ids.length (idC ids)) hE hB hg (fun _=>⟨g,0,O,qSr (fun _ _ h=>h)⟩) oO) O ?_
 rintro _ _⟨rfl,rfl⟩
 simp only[uV,uW]
 refine gg15 ?_
 refine uX (qPz hE oO) O ?_
 rintro _ _⟨g',c',rfl,rfl⟩
 simp only[uV,uW]
 refine gg7 ?_
 have hd:OkD (fun x=>good (rls Es) x∧len (rls Es) x≤4000000) ids.length ids.toArray:=⟨by simp,fun i hi=>by
  have hm:ids.toArray[i]!∈ids:=by simp[hi]
  exact⟨hg _ hm,hgl _ hm⟩⟩
 have hc:Cmp E 71 [uPt b2] (dU [cells b2 [uPt pp] 32,cells pp [uPt s,uPt tb] 108,tabP tb s (rls Es),bR s most Es]) (fun x=>good (rls Es) x∧len (rls Es) x≤4000000) (fun x y=>cmpT (txt (rls Es) x) (txt (rls Es) y)):=fun x y hx hy=>qJo (ct_Sort1 hE hB hx hy)
 have hsf:=qJh (g:=g') (c:=c') (n:=ids.length) hE (hE.f oK) hc (swo_txt (rls Es)) hn hd
 have hsg:Ct E 70 [.slice (some ⟨g',0,none⟩) ids.length c',.func (.func 71) #[] ⟨[uPt b2]⟩] (sl (some ⟨g',0,none⟩) c' 56 1 ids.length (idC ids)::[cells b2 [uPt pp] 32,cells pp [uPt s,uPt tb] 108,tabP tb s (rls Es),bR s most Es])
   (fun v Q=>∃p',(v= .tuple #[]∧∃out:List Nat,p'=sl (some ⟨g',0,none⟩) c' 56 1 ids.length (idC out)∧out.Perm ids∧Srt (out.map (txt (rls Es))))∧Q=p'::[cells b2 [uPt pp] 32,cells pp [uPt s,uPt tb] 108,tabP tb s (rls Es),bR s most Es]):=by
  refine qNt (Φ:=fun v p'=>v= .tuple #[]∧∃out:List Nat,p'=sl (some ⟨g',0,none⟩) c' 56 1 ids.length (idC out)∧out.Perm ids∧Srt (out.map (txt (rls Es)))) ?_
  intro R w s
  refine(hsf R w s).mono ?_
  rintro e w'⟨v,Qs,h1,⟨d',h2,h3,hd',hp,hso⟩,h4⟩
  refine⟨v,Qs,h1,⟨_,⟨h2,d'.toList,O,by simpa using hp,?_⟩,h3⟩,h4⟩
  intro j A B hA hB
  have hj:=(List.getElem?_eq_some_iff.1 hB).1
  simp only[List.length_map,Array.length_toList]at hj
  have hsz:=hd'.1
  have h5:=hso j (j+1) (Nat.zero_le _) oO oO
  simp only[ltF,decide_eq_false_iff_not,Int.not_lt]at h5
  have eA:A=txt (rls Es) d'[j]!:=by
   rw[List.getElem?_map,Array.getElem?_toList]at hA
   rw[Array.getElem?_eq_getElem oO]at hA
   simp at hA
   rw[←hA,getElem!_pos d' j oO]
  have eB:B=txt (rls Es) d'[j+1]!:=by
   rw[List.getElem?_map,Array.getElem?_toList]at hB
   rw[Array.getElem?_eq_getElem oO]at hB
   simp at hB
   rw[←hB,getElem!_pos d' (j+1) oO]
  rw[eA,eB]
  have:=lG (txt (rls Es) d'[j+1]!) (txt (rls Es) d'[j]!)
  omega
 refine uX (hsg) O ?_
 rintro _ _⟨_,⟨rfl,out,rfl,hp,hso⟩,rfl⟩
 simp only[uV,uW]
 refine gg10 ?_
 exact uZ O (.tmp O (.tmp O .nil)) ⟨g',c',out,O,hp,hso,O⟩
theorem ct_SortN (hE:Seat E)(hB:Base E.w0){ids:List Nat}{n:Nat}(hin:ids.length=n)(hg:∀x∈ids,good (rls Es) x) (hgl:∀x∈ids,len (rls Es) x≤4000000) (hn:n<65536) {g c:Nat}:
  Ct E 33 [uPt pp,.slice (some ⟨g,0,none⟩) n c] [cells pp [uPt s,uPt tb] 108,tabP tb s (rls Es),bR s most Es,sl (some ⟨g,0,none⟩) c 56 1 n (idC ids)]
   (fun v Q=>∃g' c' out,v= .tuple #[.slice (some ⟨g',0,none⟩) n c',.nilIface]∧out.Perm ids∧Srt (out.map (txt (rls Es)))∧Q=[cells pp [uPt s,uPt tb] 108,tabP tb s (rls Es),bR s most Es,sl (some ⟨g',0,none⟩) c' 56 1 n (idC out),sl (some ⟨g,0,none⟩) c 56 1 n (idC ids)]):=by
 subst hin
 exact ct_SortA hE hB hg hgl hn
theorem qNg (hE:Seat E)(hB:Base E.w0){ids:List Nat}{n x:Nat}(hin:ids.length=n)(hg:∀x∈ids,good (rls Es) x) (hx:good (rls Es) x) (hl:∀x∈ids,len (rls Es) x≤4000000) (hlx:len (rls Es) x≤4000000) (hn:n≤1099511627776) {a:Option Addr} {c:Nat} {q:HP} (hq:Rdb E.w0 a (idC ids) q) (hs:Srt (ids.map (txt (rls Es)))):
  Ct E 35 [uPt pp,.slice a n c,.int .i64 (x:Nat)] [cells pp [uPt s,uPt tb] 108,tabP tb s (rls Es),bR s most Es,q] (fun v Q=>∃r:Bool,v= .tuple #[.int .i64 (srch (ids.map (txt (rls Es))) (txt (rls Es) x):Nat),.bool r,.nilIface]∧(r=true↔∃u,ids[srch (ids.map (txt (rls Es))) (txt (rls Es) x)]?=some u∧txt (rls Es) u=txt (rls Es) x)∧Q=[cells pp [uPt s,uPt tb] 108,tabP tb s (rls Es),bR s most Es,q]):=by
 subst hin
 exact qPp hE hB hg hx hl hlx hn hq hs
theorem qPo (hE:Seat E)(hB:Base E.w0){ids:List Nat}{n x:Nat}(hin:ids.length=n)(hg:∀x∈ids,good (rls Es) x) (hx:good (rls Es) x) (hl:∀x∈ids,len (rls Es) x≤4000000) (hlx:len (rls Es) x≤4000000) (hn:n≤1099511627776) {a:Option Addr} {c:Nat} {q:HP} (hq:Rdb E.w0 a (idC ids) q) (hs:Srt (ids.map (txt (rls Es)))):
  Ct E 37 [uPt pp,.slice a n c,.int .i64 (x:Nat)] [cells pp [uPt s,uPt tb] 108,tabP tb s (rls Es),bR s most Es,q] (fun v Q=>v= .tuple #[.int .i64 (srch (ids.map (txt (rls Es))) (txt (rls Es) x):Nat),.int .i64 ((srch (ids.map (txt (rls Es))) (txt (rls Es) x)+bgns (ids.map (txt (rls Es))) (txt (rls Es) x):Nat):Int),.nilIface]∧Q=[cells pp [uPt s,uPt tb] 108,tabP tb s (rls Es),bR s most Es,q]):=by
 subst hin
 exact qNf hE hB hg hx hl hlx hn hq hs
end
section
variable {E:Env}{Es:List Ent}{pp tb s most:Nat}
theorem qJp (hE:Seat E){b10 b7 n ca ct x:Nat}{pa pt:Option Addr}{ys:List Nat}{ts:List (List UInt8)}{T:Nat→List UInt8}(hy:ys.length=n)(ht:ts.length=n)(hn:n≤1000000)(hx:x∈ys)(hT:∀(i y:Nat)(t:List UInt8),ys[i]?=some y→ts[i]?=some t→t=T y):
  Ct E 34 [.int .i64 (x:Nat),uPt b10,uPt b7] [cells b10 [.slice pa n ca] 26,cells b7 [.slice pt n ct] 27,sl pa ca 56 1 n (idC ys),sl pt ct 9 1 n (tsC ts)] (fun v Q=>v= .string ⟨⟨T x⟩⟩∧Q=[cells b10 [.slice pa n ca] 26,cells b7 [.slice pt n ct] 27,sl pa ca 56 1 n (idC ys),sl pt ct 9 1 n (tsC ts)]):=by
 subst hy
 refine bO (hE.fn Tryz.func34) O O O (fun R=>?_)
 simp only[dR,uV,uW]
 refine gg12 ?_
 have hpos:0<ys.length:=List.length_pos_of_mem hx
 refine jK (p:=sl pa ca 56 1 ys.length (idC ys)) uK (fun _ h=>fA h hpos) ?_
 rintro⟨ga,rfl⟩
 refine jK (p:=sl pt ct 9 1 ys.length (tsC ts)) uK (fun _ h=>fA h hpos) ?_
 rintro⟨gt,rfl⟩
 refine dW (fun i:Nat=>[(0,.int .i64 (x:Nat)),(1,uPt b10),(2,uPt b7),(5,.int .i64 (i:Nat))]) (fun _=>[cells b10 [.slice (some ⟨ga,0,none⟩) ys.length ca] 26,cells b7 [.slice (some ⟨gt,0,none⟩) ys.length ct] 27,sl (some ⟨ga,0,none⟩) ca 56 1 ys.length (idC ys),sl (some ⟨gt,0,none⟩) ct 9 1 ys.length (tsC ts),R]) (fun i=>ys.length-i) (fun i=>i≤ys.length∧∀(j y:Nat),j<i→ys[j]?=some y→y≠x) 0 ⟨Nat.zero_le _,fun j y h=>absurd h (Nat.not_lt_zero _)⟩ ⟨O,O,O,O,trivial⟩ uI ?_
 rintro i⟨hi,hall⟩
 refine gg9 ?_
 refine bE O (fun h1=>?_) (fun h1=>?_)
 ·have hil:i<ys.length:=oO
  obtain⟨y,hyi⟩:∃y,ys[i]?=some y:=⟨_,List.getElem?_eq_getElem hil⟩
  obtain⟨t,hti⟩:∃t,ts[i]?=some t:=⟨_,List.getElem?_eq_getElem oO⟩
  have f1:=fV hyi (((i:Nat):Int).toNat) oO
  have f2:=qFv hti (((i:Nat):Int).toNat) oO
  refine gg14 ?_
  refine bE O (fun h2=>?_) (fun h2=>?_)
  ·obtain rfl:y=x:=by omega
   refine gg15 ?_
   exact uZ O (.tmp O .nil) ⟨by rw[←hT i y t hyi hti];rfl,rfl⟩
  refine gg8 ?_
  refine bS (ι:=Nat) (j:=i+1) ⟨oO,fun j z hj hz=>?_⟩ oO ⟨O,O,O,congrArg some (bW oO),trivial⟩ uI
  rcases Nat.lt_or_ge j i with h| h
  ·exact hall j z h hz
  obtain rfl:j=i:=by omega
  rw[hyi]at hz
  cases hz
  omega
 exfalso
 obtain⟨j,hj⟩:=List.getElem?_of_mem hx
 exact hall j x (by have:=(List.getElem?_eq_some_iff.1 hj).1;omega) hj O
theorem Bes.mem {L:List Rl}{ids:List Nat}{ts:List (List UInt8)}(h:Bes L ids ts){u:Nat}(hu:u∈ids):∃t,t∈ts∧Be L u t:=by
 obtain⟨i,hi⟩:=List.getElem?_of_mem hu
 have hl:=(List.getElem?_eq_some_iff.1 hi).1
 obtain⟨t,ht⟩:∃t,ts[i]?=some t:=⟨_,List.getElem?_eq_getElem (by rw[←h.1];exact hl)⟩
 exact⟨t,List.mem_of_getElem? ht,h.2 i u t hi ht⟩
theorem qBx (hE:Seat E)(hB:Base E.w0){l:List TMk}{a:Option Addr}{c:Nat}{bs:List UInt8}{q:HP}(hq:Rdb E.w0 a (mkVs l) q)(hl:l.length≤9223372036854775807)(hx:∀x∈l,x.ok):
  Ct E 5 [.slice a l.length c,.string ⟨⟨bs⟩⟩] [q] (fun v Q=>v= .bool true∧Q=[q]):=by
 have hgo:goFn E.P 34=true:=hE.f oK
 refine bO (hE.fn Tryz.func5) O O O (fun R=>?_)
 simp only[dR,uV,uW]
 refine gg8 ?_
 refine uX (qQq hE) O ?_
 rintro _ _⟨rfl,rfl⟩
 simp only[uV,uW]
 refine gg3 ?_
 refine uX (qQj hE hB) O ?_
 rintro _ _⟨rfl,rfl⟩
 simp only[uV,uW]
 refine gg11 ?_
 refine uX (qLb hE hq hl hx) O ?_
 rintro _ _⟨s,M,ids,p1,p2,c1,c2,rfl,hM,hbes,rfl⟩
 have hn30:(plns [] (l.take 30)).length≤30:=by
  have:=zK (l.take 30) []
  rw[List.length_take,List.length_nil]at this
  omega
 have hsh:∀t∈plns [] (l.take 30),t.length≤400:=sW _ _ (fun t h=>by cases h)
 generalize plns [] (l.take 30)=ts at*
 obtain⟨n,hn⟩:∃n,ts.length=n:=⟨_,rfl⟩
 rw[hn]at hn30 ⊢
 have hil:ids.length=n:=by rw[hbes.1,hn]
 simp only[uV,uW]
 refine gg5 ?_
 refine uU (cZ (hE.t O) (fun b7=>?_))
 refine gg21 ?_
 refine bE O (fun hst=>?_) (fun hst=>?_)
 ·refine gg8 ?_
  exact uZ O (.tmp O .nil) ⟨O,O⟩
 have hbl:bs.length≤40:=by
  have h:((⟨⟨bs⟩⟩:ByteArray).size:Nat)=bs.length:=rfl
  omega
 refine gg5 ?_
 refine uX (qNr (Es:=M) (s:=s) (most:=1048576) hE) O ?_
 rintro _ _⟨pp,tb,rfl,rfl⟩
 simp only[uV,uW]
 refine gg6 ?_
 refine uX (qPw hE) O ?_
 rintro _ _⟨m,bm,rfl,rfl⟩
 simp only[uV,uW]
 refine tL (p:=bR s 1048576 M) uK (fun _ h=>(dP h).1) (fun hw=>?_)
 have hU:∀u∈ids,Ev (rls M) u∧len (rls M) u≤400:=fun u hu=>by
  obtain⟨t,ht,hb⟩:=hbes.mem hu
  exact⟨hb.ev,by unfold len;rw[hb.tx];exact hsh t ht⟩
 have hpot:=pot_le hw (f:=fun _=>none) ids hU
 rw[hil]at hpot
 have hroom:M.length+pot' (rls M) (fun _=>none) ids≤1048576:=oO
 refine gg1 ?_
 refine uX (ct_AllWN (Es:=M) (s:=s) (tb:=tb) (pp:=pp) (most:=1048576) (m:=m) (bm:=bm) (f:=fun _=>none) (U:=ids) hE hB hil (fun x h=>h) hU oO hroom (Kn.nil _)) O ?_
 rintro _ _⟨M2,f2,ys,g3,c3,rfl,hM2, -,hkn,hyl,hsl,rfl⟩
 simp only[uV,uW]
 refine tL (p:=bR s 1048576 (M++M2)) uK (fun _ h=>(dP h).1) (fun hw2=>?_)
 have hbes2:=hbes.more M2
 have hE2:(M++M2).length=M.length+M2.length:=List.length_append
 have hyT:∀(i y:Nat)(t:List UInt8),ys[i]?=some y→ts[i]?=some t→good (rls (M++M2)) y∧txt (rls (M++M2)) y=t∧Sg (rls (M++M2)) t y:=fun i y t h1 h2=>by
  obtain⟨x,hx1,hb⟩:=hbes2.at h2
  have h:=hsl i x y hx1 h1
  have e:=hb.tx
  exact⟨h.2.2.1,by rw[h.2.1,e],by rw[←e];exact h.2.2.2⟩
 have hyM:∀y∈ys,∃i t,ys[i]?=some y∧ts[i]?=some t:=fun y hy=>by
  obtain⟨i,hi⟩:=List.getElem?_of_mem hy
  obtain⟨t,ht⟩:∃t,ts[i]?=some t:=⟨_,List.getElem?_eq_getElem (by have:=(List.getElem?_eq_some_iff.1 hi).1;omega)⟩
  exact⟨i,t,hi,ht⟩
 have hyg:∀y∈ys,good (rls (M++M2)) y∧len (rls (M++M2)) y≤400:=fun y hy=>by
  obtain⟨i,t,h1,h2⟩:=hyM y hy
  obtain⟨e1,e2,_⟩:=hyT i y t h1 h2
  exact⟨e1,by unfold len;rw[e2];exact hsh t (List.mem_of_getElem? h2)⟩
 refine gg3 ?_
 refine uU (cZ (hE.t O) (fun b10=>?_))
 refine gg18 ?_
 refine uX (ct_SortN (Es:=M++M2) (s:=s) (tb:=tb) (pp:=pp) (most:=1048576) hE hB hyl (fun y hy=>(hyg y hy).1) (fun y hy=>Nat.le_trans (hyg y hy).2 oO) oO) O ?_
 rintro _ _⟨g4,c4,out,rfl,hperm,hsrt,rfl⟩
 simp only[uV,uW]
 have hol:out.length=n:=by rw[hperm.length_eq,hyl]
 have hom:∀y,y∈out↔y∈ys:=fun y=>hperm.mem_iff
 refine gg26 ?_
 refine bE O (fun hz=>?_) (fun hz=>?_)
 ·exact absurd O hz
 obtain⟨T,hT⟩:∃T,txt (rls (M++M2))=T:=⟨_,rfl⟩
 have hTT:∀(i y:Nat)(t:List UInt8),ys[i]?=some y→ts[i]?=some t→t=T y:=fun i y t h1 h2=>by rw[←hT];exact(hyT i y t h1 h2).2.1.symm
 have hsrt':=hsrt
 rw[hT]at hsrt
 have huniq:∀x y,x∈ys→y∈ys→T x=T y→x=y:=fun x y hxm hym e=>by
  obtain⟨i,t1,g1,g2⟩:=hyM x hxm
  obtain⟨j,t2,g5,g6⟩:=hyM y hym
  have e1:=hTT i x t1 g1 g2
  have e2:=hTT j y t2 g5 g6
  obtain rfl:t1=t2:=by rw[e1,e2,e]
  exact(hyT i x t1 g1 g2).2.2.fn hw2 (hyT j y t1 g5 g6).2.2
 refine gg15 ?_
 refine dW (fun i:Nat=>[(1,.string ⟨⟨bs⟩⟩),(9,uPt pp),(10,uPt b10),(12,.slice (some ⟨g4,0,none⟩) n c4),(13,.func (.func 34) #[] ⟨[uPt b10,uPt b7]⟩),(14,.int .i64 (i:Nat))]) (fun _=>[cells pp [uPt s,uPt tb] 108,tabP tb s (rls (M++M2)),bR s 1048576 (M++M2),cells b10 [.slice (some ⟨g3,0,none⟩) n c3] 26,cells b7 [.slice p2 n c2] 27,sl (some ⟨g3,0,none⟩) c3 56 1 n (idC ys),sl p2 c2 9 1 n (tsC ts),sl (some ⟨g4,0,none⟩) c4 56 1 n (idC out),q,R]) (fun i=>n+1-i) (fun i=>1≤i∧i≤n+1) 1 ⟨Nat.le_refl _,oO⟩ ⟨O,O,O,O,O,O,trivial⟩ uI ?_
 rintro i⟨hi1,hi2⟩
 refine gg9 ?_
 refine bE O (fun a1=>?_) (fun a1=>?_)
 ·obtain⟨u,hu⟩:∃u,out[i-1]?=some u:=⟨_,List.getElem?_eq_getElem oO⟩
  obtain⟨v,hv⟩:∃v,out[i]?=some v:=⟨_,List.getElem?_eq_getElem oO⟩
  have f1:=fV hu (((i:Nat):Int)-1).toNat oO
  have f2:=fV hv (((i:Nat):Int)).toNat oO
  have hum:=(hom u).1 (List.mem_of_getElem? hu)
  have hvm:=(hom v).1 (List.mem_of_getElem? hv)
  have hless:Op.bytesLess (T v) (T u)=false:=by
   have h:=hsrt (i-1) (T u) (T v) (by rw[List.getElem?_map,hu];rfl) (by rw[show i-1+1=i by omega,List.getElem?_map,hv];rfl)
   cases hb:Op.bytesLess (T v) (T u)with
   |false=>rfl
   |true=>
    have h2:=qLw.1 hb
    have h3:=lG (T u) (T v)
    omega
  refine gg5 ?_
  refine uH ([sl (some ⟨g4,0,none⟩) c4 56 1 n (idC out)]) ?_
  refine gg6 ?_
  refine uD 7 O (aB O) ?_
  refine gg4 ?_
  apply dH 6 O oK O
  apply fP (hx:=O) (ha:=O) (hf:=hgo)
  ·exact qJp (b10:=b10) (b7:=b7) (x:=u) (T:=T) (pa:=some ⟨g3,0,none⟩) (ca:=c3) (pt:=p2) (ct:=c2) hE hyl hn oO hum hTT
  ·exact uK
  rintro _ _⟨rfl,rfl⟩
  simp only[uV,uW]
  refine uE ?_
  apply dH 12 O oK O
  apply fP (hx:=O) (ha:=O) (hf:=hgo)
  ·exact qJp (b10:=b10) (b7:=b7) (x:=v) (T:=T) (pa:=some ⟨g3,0,none⟩) (ca:=c3) (pt:=p2) (ct:=c2) hE hyl hn oO hvm hTT
  ·exact uK
  rintro _ _⟨rfl,rfl⟩
  simp only[uV,uW]
  refine uE ?_
  refine uD 13 O (y_gt_str O O) ?_
  refine gg2 ?_
  refine w_eq 93 (.bool false) O (congrArg Value.bool hless) ?_
  refine gg9 ?_
  refine bS (ι:=Nat) (j:=i+1) ⟨oO,oO⟩ oO ⟨O,O,O,O,O,congrArg some (bW oO),trivial⟩ uI
 refine gg12 ?_
 refine dW (fun i:Nat=>[(1,.string ⟨⟨bs⟩⟩),(9,uPt pp),(10,uPt b10),(12,.slice (some ⟨g4,0,none⟩) n c4),(13,.func (.func 34) #[] ⟨[uPt b10,uPt b7]⟩),(15,.int .i64 (i:Nat))]) (fun _=>[cells pp [uPt s,uPt tb] 108,tabP tb s (rls (M++M2)),bR s 1048576 (M++M2),cells b10 [.slice (some ⟨g3,0,none⟩) n c3] 26,cells b7 [.slice p2 n c2] 27,sl (some ⟨g3,0,none⟩) c3 56 1 n (idC ys),sl p2 c2 9 1 n (tsC ts),sl (some ⟨g4,0,none⟩) c4 56 1 n (idC out),q,R]) (fun i=>n-i) (fun i=>i≤n) 0 (Nat.zero_le _) ⟨O,O,O,O,O,O,trivial⟩ uI ?_
 clear hi1 hi2 a1
 rintro j hj
 refine gg9 ?_
 refine bE O (fun a2=>?_) (fun a2=>?_)
 ·obtain⟨y,hy⟩:∃y,ys[j]?=some y:=⟨_,List.getElem?_eq_getElem oO⟩
  have hym:=List.mem_of_getElem? hy
  have f1:=fV hy (((j:Nat):Int)).toNat oO
  have hyo:=(hom y).2 hym
  obtain⟨io,hio⟩:=List.getElem?_of_mem hyo
  obtain⟨hK1,hK2⟩:=srch_at hsrt (i:=io) (A:=T y) (by rw[List.getElem?_map,hio];rfl)
  obtain⟨u,hu⟩:∃u,out[srch (out.map T) (T y)]?=some u:=⟨_,List.getElem?_eq_getElem (by have:=(List.getElem?_eq_some_iff.1 hio).1;omega)⟩
  have huT:T u=T y:=by
   rw[List.getElem?_map,hu]at hK1
   exact Option.some.inj hK1
  obtain rfl:=huniq u y ((hom u).1 (List.mem_of_getElem? hu)) hym huT
  refine gg12 ?_
  refine uX (qNg (Es:=M++M2) (s:=s) (tb:=tb) (pp:=pp) (most:=1048576) (x:=u) (q:=sl (some ⟨g4,0,none⟩) c4 56 1 n (idC out)) hE hB hol (fun z hz=>(hyg z ((hom z).1 hz)).1) (hyg u hym).1 (fun z hz=>Nat.le_trans (hyg z ((hom z).1 hz)).2 oO) (Nat.le_trans (hyg u hym).2 oO) oO (fun _=>⟨g4,0,O,qSr (fun _ _ h=>h)⟩) hsrt') O ?_
  rintro _ _⟨r,rfl,hr,rfl⟩
  rw[hT]at hr ⊢
  obtain rfl:r=true:=hr.2 ⟨u,hu,rfl⟩
  simp only[uV,uW]
  obtain⟨K,hK⟩:∃K,srch (out.map T) (T u)=K:=⟨_,rfl⟩
  rw[hK]at hu hK2 ⊢
  have hKn:K<n:=by have:=(List.getElem?_eq_some_iff.1 hu).1;omega
  have f2:=fV hu (((K:Nat):Int)).toNat oO
  refine gg20 ?_
  refine l_eq 117 (.bool false) O O ?_
  refine gg20 ?_
  refine l_eq 128 (.bool false) O (by simp) ?_
  refine gg6 ?_
  refine dS 131 O (fun kp=>?_) (fun kp=>?_)
  ·obtain⟨w,hw'⟩:∃w,out[K-1]?=some w:=⟨_,List.getElem?_eq_getElem oO⟩
   have f3:=fV hw' (((K:Nat):Int)-1).toNat oO
   have hwu:w≠u:=fun e=>by
    subst e
    have:=qFn (ts:=out.map T) (x:=T w) (i:=K-1) (A:=T w) oO (by rw[List.getElem?_map,hw'];rfl)
    rw[nV]at this
    omega
   refine gg25 ?_
   refine w_eq 143 (.bool false) O (congrArg Value.bool (decide_eq_false oO)) ?_
   refine gg9 ?_
   refine bS (ι:=Nat) (j:=j+1) oO oO ⟨O,O,O,O,O,congrArg some (bW oO),trivial⟩ uI
  refine gg24 ?_
  refine bS (ι:=Nat) (j:=j+1) oO oO ⟨O,O,O,O,O,congrArg some (bW oO),trivial⟩ uI
 clear hj a2
 have hM2':M2.length≤400000:=oO
 refine gg9 ?_
 refine uU ?_
 refine qAr O (hE.t O) (hE.t O) (hE.t O) (fun gb cb hcb=>?_)
 have hrm3:(M++M2).length+2*bs.length≤1048576:=oO
 refine uX (qPn (Es:=M++M2) (s:=s) (most:=1048576) (tb:=tb) (pp:=pp) (a:=some ⟨gb,0,none⟩) (c:=cb) (q:=ro gb (bs.map fun b=>Value.int .u8 (b.toNat:Nat))) (bs:=bs) hE hB (fun _=>⟨gb,0,O,rd_ro⟩) oO hrm3) O ?_
 rintro _ _⟨M3,id,rfl,hM3,htx,hgd, -,rfl⟩
 simp only[uV,uW]
 have hEx:∀y∈ys,good (rls (M++M2++M3)) y∧txt (rls (M++M2++M3)) y=T y∧len (rls (M++M2++M3)) y≤400:=fun y hy=>by
  obtain⟨h1,h2⟩:=hyg y hy
  have e:txt (rls (M++M2++M3)) y=T y:=by rw[dA (M++M2),jG _ h1.1,hT]
  refine⟨⟨by rw[dA (M++M2),List.length_append];have:=h1.1;omega,by rw[dA (M++M2),jL _ h1.1];exact h1.2⟩,e,?_⟩
  unfold len
  rw[e,←hT]
  exact h2
 have hmap:out.map (txt (rls (M++M2++M3)))=out.map T:=List.map_congr_left fun y hy=>(hEx y ((hom y).1 hy)).2.1
 have hs3:Srt (out.map (txt (rls (M++M2++M3)))):=by rw[hmap];exact hsrt
 have hl3:len (rls (M++M2++M3)) id≤4000000:=by unfold len;rw[htx];omega
 refine gg12 ?_
 refine uX (qPo (Es:=M++M2++M3) (s:=s) (tb:=tb) (pp:=pp) (most:=1048576) (x:=id) (q:=sl (some ⟨g4,0,none⟩) c4 56 1 n (idC out)) hE hB hol (fun z hz=>(hEx z ((hom z).1 hz)).1) hgd (fun z hz=>Nat.le_trans (hEx z ((hom z).1 hz)).2.2 oO) hl3 oO (fun _=>⟨g4,0,O,qSr (fun _ _ h=>h)⟩) hs3) O ?_
 rintro _ _⟨rfl,rfl⟩
 simp only[uV,uW]
 rw[hmap,htx]
 have hto:=qPb (out.map T) bs
 rw[List.length_map,hol]at hto
 have hrng:∀i u,out[i]?=some u→(Bgn (T u) bs↔srch (out.map T) bs≤i∧i<srch (out.map T) bs+bgns (out.map T) bs):=fun i u hi=>bgns_iff hsrt (by rw[List.getElem?_map,hi];rfl)
 generalize srch (out.map T) bs=fr at*
 generalize bgns (out.map T) bs=bn at*
 refine gg27 ?_
 refine l_eq 169 (.bool false) O (congrArg Value.bool (decide_eq_false oO)) ?_
 refine gg8 ?_
 refine l_eq 174 (.bool false) O (congrArg Value.bool (decide_eq_false oO)) ?_
 refine gg11 ?_
 refine w_eq 179 (.bool false) O (congrArg Value.bool (decide_eq_false oO)) ?_
 refine gg10 ?_
 refine dW (fun i:Nat=>[(1,.string ⟨⟨bs⟩⟩),(9,uPt pp),(10,uPt b10),(12,.slice (some ⟨g4,0,none⟩) n c4),(13,.func (.func 34) #[] ⟨[uPt b10,uPt b7]⟩),(21,.int .i64 (fr:Nat)),(22,.int .i64 ((fr+bn:Nat):Int)),(24,.int .i64 (i:Nat))]) (fun _=>[cells b10 [.slice (some ⟨g3,0,none⟩) n c3] 26,cells b7 [.slice p2 n c2] 27,sl (some ⟨g3,0,none⟩) c3 56 1 n (idC ys),sl p2 c2 9 1 n (tsC ts),sl (some ⟨g4,0,none⟩) c4 56 1 n (idC out),q,R]) (fun i=>n-i) (fun i=>i≤n) 0 (Nat.zero_le _) ⟨O,O,O,O,O,O,O,O,trivial⟩ uI ?_
 rintro i hi
 refine gg9 ?_
 refine bE O (fun a3=>?_) (fun a3=>?_)
 ·obtain⟨u,hu⟩:∃u,out[i]?=some u:=⟨_,List.getElem?_eq_getElem oO⟩
  have hum:=(hom u).1 (List.mem_of_getElem? hu)
  have f1:=fV hu (((i:Nat):Int)).toNat oO
  have hrg:=hrng i u hu
  rw[bgn_iff]at hrg
  have hsz1:((⟨⟨T u⟩⟩:ByteArray).size:Nat)=(T u).length:=rfl
  have hsz2:((⟨⟨bs⟩⟩:ByteArray).size:Nat)=bs.length:=rfl
  refine gg11 ?_
  refine uU ?_
  apply fP (hx:=O) (ha:=O) (hf:=hE.f oK)
  ·exact qJp (b10:=b10) (b7:=b7) (x:=u) (T:=T) (pa:=some ⟨g3,0,none⟩) (ca:=c3) (pt:=p2) (ct:=c2) hE hyl hn oO hum hTT
  ·exact uK
  rintro _ _⟨rfl,rfl⟩
  simp only[uV,uW]
  refine gg9 ?_
  refine dS 195 O (fun q1=>?_) (fun q1=>?_)
  ·refine gg13 ?_
   refine dS 205 O (fun q2=>?_) (fun q2=>?_)
   ·refine gg7 ?_
    refine uB (nJ O (hE.t O) O ⟨_,O⟩ oO oO) ?_
    refine l_eq 209 (.string ⟨⟨(T u).take bs.length⟩⟩) O (congrArg Value.string (by rw[nZ _ _ _ oO,List.drop_zero];rfl)) ?_
    have hx1:(decide ((i:Int)<((fr+bn:Nat):Int))^^decide ((T u).take bs.length=bs))=false:=by
     rw[show decide ((i:Int)<((fr+bn:Nat):Int))=decide ((T u).take bs.length=bs)from decide_eq_decide.2 ⟨fun h=>(hrg.2 ⟨oO,oO⟩).2,fun h=>by have:=(hrg.1 ⟨oO,h⟩).2;omega⟩,Bool.xor_self]
    refine gg5 ?_
    refine uB (rW O O (hE.t O)) ?_
    refine l_eq 213 (.bool false) O (congrArg Value.bool hx1) ?_
    refine gg11 ?_
    refine bS (ι:=Nat) (j:=i+1) oO oO ⟨O,O,O,O,O,O,O,congrArg some (bW oO),trivial⟩ uI
   have hx1:(decide ((i:Int)<((fr+bn:Nat):Int))^^false)=false:=by
    rw[decide_eq_false (fun h=>by have:=(hrg.2 ⟨oO,oO⟩).1;omega)]
    rfl
   refine gg7 ?_
   refine uB (rW O O (hE.t O)) ?_
   refine l_eq 213 (.bool false) O (congrArg Value.bool hx1) ?_
   refine gg11 ?_
   refine bS (ι:=Nat) (j:=i+1) oO oO ⟨O,O,O,O,O,O,O,congrArg some (bW oO),trivial⟩ uI
  refine gg10 ?_
  refine dS 205 O (fun q2=>?_) (fun q2=>?_)
  ·refine gg7 ?_
   refine uB (nJ O (hE.t O) O ⟨_,O⟩ oO oO) ?_
   refine l_eq 209 (.string ⟨⟨(T u).take bs.length⟩⟩) O (congrArg Value.string (by rw[nZ _ _ _ oO,List.drop_zero];rfl)) ?_
   have hx1:(false^^decide ((T u).take bs.length=bs))=false:=by
    rw[decide_eq_false (fun h=>by have:=(hrg.1 ⟨oO,h⟩).1;omega)]
    rfl
   refine gg5 ?_
   refine uB (rW O O (hE.t O)) ?_
   refine l_eq 213 (.bool false) O (congrArg Value.bool hx1) ?_
   refine gg11 ?_
   refine bS (ι:=Nat) (j:=i+1) oO oO ⟨O,O,O,O,O,O,O,congrArg some (bW oO),trivial⟩ uI
  refine gg7 ?_
  refine uB (rW O O (hE.t O)) ?_
  refine l_eq 213 (.bool false) O O ?_
  refine gg11 ?_
  refine bS (ι:=Nat) (j:=i+1) oO oO ⟨O,O,O,O,O,O,O,congrArg some (bW oO),trivial⟩ uI
 refine gg11 ?_
 exact uZ O (.tmp O .nil) ⟨O,O⟩
end
end Go.Proofs.YtjbdlljghogodaaGreatDoor
