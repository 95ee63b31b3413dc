import Derived.Test.YtlmpojkmeglepaaGreatDoorQ73
set_option linter.all false
set_option maxHeartbeats 1000000
namespace Go.Proofs.YtlmpojkmeglepaaGreatDoor
open Go Go.RowKit Sl Eg
set_option maxRecDepth 10000
variable {E:Env}{Es:List Ent}{s most:Nat}
inductive MkOk (L:List Rl)(T:List Nat):Rl→Rl→Prop where
 |letter (b:UInt8):MkOk L T (.letter b) (.letter b)
 |pair {a b x y:Nat}:T[a]?=some x→T[b]?=some y→1≤x→x≤L.length→1≤y→y≤L.length→len L x+len L y≤dC→MkOk L T (.pair a b) (.pair x y)
 |power {a k x:Nat}:T[a]?=some x→1≤x→x≤L.length→2≤k→k≤1152921504606846976→len L x*k≤dC→MkOk L T (.power a k) (.power x k)
theorem ct_xPut (hE:Seat E){r r':Rl}{T:List Nat}{gt ct:Nat}(hTl:T.length≤1000000)(hm:MkOk (rls Es) T r r')(hroom:Es.length<most):Ct E 89 [uPt s,.agg #[.int .i64 (Rl.kind (r):Nat),.int .u8 (Rl.byte (r):Nat),.int .i64 (Rl.left (r):Nat),.int .i64 (Rl.right (r):Nat),.int .i64 (Rl.times (r):Nat)],.slice (some ⟨gt,0,none⟩) T.length ct] [bR s most Es,sl (some ⟨gt,0,none⟩) ct 44 1 T.length (idC T)]
  (fun v Q=>∃(M:List Ent)(id:Nat),v= .tuple #[.int .i64 id,.nilIface]∧M.length≤1∧1≤id∧(rls (Es++M))[id-1]?=some r'∧Q=[bR s most (Es++M),sl (some ⟨gt,0,none⟩) ct 44 1 T.length (idC T)]):=by
 refine eZ (p:=bR s most Es) uK (fun _ h=>dR h) (fun hsay=>?_)
 have hT100:=hTl
 cases hm with
 |letter b=>
  refine bO (hE.fn Tryz.func89) O O O (fun R=>?_)
  simp only[dY,uV,uW]
  simp only[Rl.kind,Rl.byte,Rl.left,Rl.right,Rl.times]
  refine dO (uU ?_)
  refine fJ O (fun b4=>?_)
  refine uA O (uA O (dN (aL (dO (uB (uBf O) ?_)))))
  refine uL ?_
  refine dN (bK (dO (uB (y_eq O O) (uA O (dN (bF O (dO (uM O (uB (uBf O) ?_)))))))))
  refine uL ?_
  refine uX (qGm (s:=s) (most:=most) (Es:=Es) hE b hroom) O ?_
  rintro _ _⟨M,id,rfl,h1,h2,h3,rfl⟩
  simp only[uV,uW]
  refine uB (aT O O) (uB (aT O O) (uA O (uA O (dN (bZ (bN (aV ?_)))))))
  exact uZ O (.tmp O (.tmp O .nil)) ⟨M,id,O,h1,h2,h3,O⟩
 | @pair a b x y ha hb x1 x2 y1 y2 hl=>
  have hat:=(List.getElem?_eq_some_iff.1 ha).1
  have hbt:=(List.getElem?_eq_some_iff.1 hb).1
  obtain⟨x,rfl⟩:∃k,x=k+1:=⟨x-1,oO⟩
  obtain⟨y,rfl⟩:∃k,y=k+1:=⟨y-1,oO⟩
  rw[bQ]at x2 y2
  obtain⟨e1,he1⟩:∃x',Es[x]?=some x':=⟨_,List.getElem?_eq_getElem oO⟩
  obtain⟨e2,he2⟩:∃x',Es[y]?=some x':=⟨_,List.getElem?_eq_getElem oO⟩
  have hlen:e1.t.length+e2.t.length≤dC:=by rw[hsay.2.1 _ _ he1,hsay.2.1 _ _ he2];exact hl
  have f0:=fK ha (((a:Nat):Int).toNat) oO
  have f1:=fK hb (((b:Nat):Int).toNat) oO
  refine bO (hE.fn Tryz.func89) O O O (fun R=>?_)
  simp only[dY,uV,uW]
  simp only[Rl.kind,Rl.byte,Rl.left,Rl.right,Rl.times]
  refine dO (uU ?_)
  refine fJ O (fun b4=>?_)
  refine uA O (uA O (dN (aL (dO (uB (uBf O) ?_)))))
  refine uL ?_
  refine dN (bK (dO (uB (y_eq O O) (uA O (dN (bD O (dO (uB (y_eq O O) (uA O (dN (bF O (aL ?_))))))))))))
  refine uH ([cells b4 [.int .i64 ((2:Nat):Int),.int .u8 ((0:Nat):Int),.int .i64 (a:Nat),.int .i64 (b:Nat),.int .i64 ((0:Nat):Int)] 86,sl (some ⟨gt,0,none⟩) ct 44 1 T.length (idC T)]) ?_
  refine uD 0 O (aB O) (uD 1 O (aB O) ?_)
  refine uD 2 O (uBf O) ?_
  refine uD 3 O (uY) ?_
  refine uD 4 O (uAj O O) ?_
  refine uD 5 O (uY) ?_
  refine uD 6 O (aB O) ?_
  refine uD 7 O (uBf O) ?_
  refine uD 8 O (uY) ?_
  refine uD 9 O (uAj O O) ?_
  refine uD 10 O (uY) ?_
  apply dH 11 O oK O
  refine uC (qIx (s:=s) (most:=most) (Es:=Es) hE he1 he2 hlen hroom) O ?_
  rintro _ _⟨M,id,rfl,h1,h2,h3,rfl⟩
  simp only[uV,uW]
  refine uE ?_
  refine uD 12 O (aT O O) (uD 13 O (aT O O) (uD 14 O (aC O) (uD 15 O (aC O) ?_)))
  refine jT oK ?_
  refine aK (bZ (bN (aV ?_)))
  exact uZ O (.tmp O (.tmp O .nil)) ⟨M,id,O,h1,h2,h3,O⟩
 | @power a k x ha x1 x2 hk hk2 hl=>
  have hat:=(List.getElem?_eq_some_iff.1 ha).1
  obtain⟨x,rfl⟩:∃k,x=k+1:=⟨x-1,oO⟩
  rw[bQ]at x2
  obtain⟨e1,he1⟩:∃x',Es[x]?=some x':=⟨_,List.getElem?_eq_getElem oO⟩
  have hlen:e1.t.length*k≤dC:=by rw[hsay.2.1 _ _ he1];exact hl
  have f0:=fK ha (((a:Nat):Int).toNat) oO
  refine bO (hE.fn Tryz.func89) O O O (fun R=>?_)
  simp only[dY,uV,uW]
  simp only[Rl.kind,Rl.byte,Rl.left,Rl.right,Rl.times]
  refine dO (uU ?_)
  refine fJ O (fun b4=>?_)
  refine uA O (uA O (dN (aL (dO (uB (uBf O) ?_)))))
  refine uL ?_
  refine dN (bK (dO (uB (y_eq O O) (uA O (dN (bD O (dO (uB (y_eq O O) (uA O (dN (bD O (bC (bI (aK (aL ?_)))))))))))))))
  refine uH ([cells b4 [.int .i64 ((3:Nat):Int),.int .u8 ((0:Nat):Int),.int .i64 (a:Nat),.int .i64 ((0:Nat):Int),.int .i64 (k:Nat)] 86,sl (some ⟨gt,0,none⟩) ct 44 1 T.length (idC T)]) ?_
  refine uD 0 O (aB O) (uD 1 O (aB O) ?_)
  refine uD 2 O (uBf O) ?_
  refine uD 3 O (uY) ?_
  refine uD 4 O (uAj O O) ?_
  refine uD 5 O (uY) ?_
  refine uD 6 O (uBf O) ?_
  refine uD 7 O (uY) ?_
  apply dH 8 O oK O
  refine uC (qEe (s:=s) (most:=most) (Es:=Es) hE he1 hk hlen hroom) O ?_
  rintro _ _⟨M,id,rfl,h1,h2,h3,rfl⟩
  simp only[uV,uW]
  refine uE ?_
  refine uD 9 O (aT O O) (uD 10 O (aT O O) (uD 11 O (aC O) (uD 12 O (aC O) ?_)))
  refine jT oK ?_
  refine aK (bZ ?_)
  exact uZ O (.tmp O (.tmp O .nil)) ⟨M,id,O,h1,h2,h3,O⟩
theorem ct_xAdd (hE:Seat E){r r':Rl}{T:List Nat}{gt ct:Nat}(hTl:T.length≤1000000)(hm:MkOk (rls Es) T r r')(hroom:Es.length<most):Ct E 40 [uPt s,.agg #[.int .i64 (Rl.kind (r):Nat),.int .u8 (Rl.byte (r):Nat),.int .i64 (Rl.left (r):Nat),.int .i64 (Rl.right (r):Nat),.int .i64 (Rl.times (r):Nat)],.slice (some ⟨gt,0,none⟩) T.length ct] [bR s most Es,sl (some ⟨gt,0,none⟩) ct 44 1 T.length (idC T)]
  (fun v Q=>∃(M:List Ent)(id:Nat),v= .tuple #[.int .i64 id,.nilIface]∧M.length≤1∧1≤id∧(rls (Es++M))[id-1]?=some r'∧Q=[bR s most (Es++M),sl (some ⟨gt,0,none⟩) ct 44 1 T.length (idC T)]):=by
 refine eZ (p:=bR s most Es) uK (fun _ h=>dR h) (fun hsay=>?_)
 have hT100:=hTl
 cases hm with
 |letter b=>
  refine bO (hE.fn Tryz.func40) O O O (fun R=>?_)
  simp only[dY,uV,uW]
  simp only[Rl.kind,Rl.byte,Rl.left,Rl.right,Rl.times]
  refine dO (uU ?_)
  refine fJ O (fun b4=>?_)
  refine uA O (uA O (dN (aL (dO (uB (uBf O) ?_)))))
  refine uL ?_
  refine dN (bK (dO (uB (y_eq O O) (uA O (dN (bF O (dO (uM O (uB (uBf O) ?_)))))))))
  refine uL ?_
  refine uX (qGm (s:=s) (most:=most) (Es:=Es) hE b hroom) O ?_
  rintro _ _⟨M,id,rfl,h1,h2,h3,rfl⟩
  simp only[uV,uW]
  refine uB (aT O O) (uB (aT O O) (uA O (uA O (dN (bZ (bN (aV ?_)))))))
  exact uZ O (.tmp O (.tmp O .nil)) ⟨M,id,O,h1,h2,h3,O⟩
 | @pair a b x y ha hb x1 x2 y1 y2 hl=>
  have hat:=(List.getElem?_eq_some_iff.1 ha).1
  have hbt:=(List.getElem?_eq_some_iff.1 hb).1
  obtain⟨x,rfl⟩:∃k,x=k+1:=⟨x-1,oO⟩
  obtain⟨y,rfl⟩:∃k,y=k+1:=⟨y-1,oO⟩
  rw[bQ]at x2 y2
  obtain⟨e1,he1⟩:∃x',Es[x]?=some x':=⟨_,List.getElem?_eq_getElem oO⟩
  obtain⟨e2,he2⟩:∃x',Es[y]?=some x':=⟨_,List.getElem?_eq_getElem oO⟩
  have hlen:e1.t.length+e2.t.length≤dC:=by rw[hsay.2.1 _ _ he1,hsay.2.1 _ _ he2];exact hl
  have f0:=fK ha (((a:Nat):Int).toNat) oO
  have f1:=fK hb (((b:Nat):Int).toNat) oO
  refine bO (hE.fn Tryz.func40) O O O (fun R=>?_)
  simp only[dY,uV,uW]
  simp only[Rl.kind,Rl.byte,Rl.left,Rl.right,Rl.times]
  refine dO (uU ?_)
  refine fJ O (fun b4=>?_)
  refine uA O (uA O (dN (aL (dO (uB (uBf O) ?_)))))
  refine uL ?_
  refine dN (bK (dO (uB (y_eq O O) (uA O (dN (bD O (dO (uB (y_eq O O) (uA O (dN (bF O (aL ?_))))))))))))
  refine uH ([cells b4 [.int .i64 ((2:Nat):Int),.int .u8 ((0:Nat):Int),.int .i64 (a:Nat),.int .i64 (b:Nat),.int .i64 ((0:Nat):Int)] 86,sl (some ⟨gt,0,none⟩) ct 44 1 T.length (idC T)]) ?_
  refine uD 0 O (aB O) (uD 1 O (aB O) ?_)
  refine uD 2 O (uBf O) ?_
  refine uD 3 O (uY) ?_
  refine uD 4 O (uAj O O) ?_
  refine uD 5 O (uY) ?_
  refine uD 6 O (aB O) ?_
  refine uD 7 O (uBf O) ?_
  refine uD 8 O (uY) ?_
  refine uD 9 O (uAj O O) ?_
  refine uD 10 O (uY) ?_
  apply dH 11 O oK O
  refine uC (qIx (s:=s) (most:=most) (Es:=Es) hE he1 he2 hlen hroom) O ?_
  rintro _ _⟨M,id,rfl,h1,h2,h3,rfl⟩
  simp only[uV,uW]
  refine uE ?_
  refine uD 12 O (aT O O) (uD 13 O (aT O O) (uD 14 O (aC O) (uD 15 O (aC O) ?_)))
  refine jT oK ?_
  refine aK (bZ (bN (aV ?_)))
  exact uZ O (.tmp O (.tmp O .nil)) ⟨M,id,O,h1,h2,h3,O⟩
 | @power a k x ha x1 x2 hk hk2 hl=>
  have hat:=(List.getElem?_eq_some_iff.1 ha).1
  obtain⟨x,rfl⟩:∃k,x=k+1:=⟨x-1,oO⟩
  rw[bQ]at x2
  obtain⟨e1,he1⟩:∃x',Es[x]?=some x':=⟨_,List.getElem?_eq_getElem oO⟩
  have hlen:e1.t.length*k≤dC:=by rw[hsay.2.1 _ _ he1];exact hl
  have f0:=fK ha (((a:Nat):Int).toNat) oO
  refine bO (hE.fn Tryz.func40) O O O (fun R=>?_)
  simp only[dY,uV,uW]
  simp only[Rl.kind,Rl.byte,Rl.left,Rl.right,Rl.times]
  refine dO (uU ?_)
  refine fJ O (fun b4=>?_)
  refine uA O (uA O (dN (aL (dO (uB (uBf O) ?_)))))
  refine uL ?_
  refine dN (bK (dO (uB (y_eq O O) (uA O (dN (bD O (dO (uB (y_eq O O) (uA O (dN (bD O (bC (bI (aK (aL ?_)))))))))))))))
  refine uH ([cells b4 [.int .i64 ((3:Nat):Int),.int .u8 ((0:Nat):Int),.int .i64 (a:Nat),.int .i64 ((0:Nat):Int),.int .i64 (k:Nat)] 86,sl (some ⟨gt,0,none⟩) ct 44 1 T.length (idC T)]) ?_
  refine uD 0 O (aB O) (uD 1 O (aB O) ?_)
  refine uD 2 O (uBf O) ?_
  refine uD 3 O (uY) ?_
  refine uD 4 O (uAj O O) ?_
  refine uD 5 O (uY) ?_
  refine uD 6 O (uBf O) ?_
  refine uD 7 O (uY) ?_
  apply dH 8 O oK O
  refine uC (qEe (s:=s) (most:=most) (Es:=Es) hE he1 hk hlen hroom) O ?_
  rintro _ _⟨M,id,rfl,h1,h2,h3,rfl⟩
  simp only[uV,uW]
  refine uE ?_
  refine uD 9 O (aT O O) (uD 10 O (aT O O) (uD 11 O (aC O) (uD 12 O (aC O) ?_)))
  refine jT oK ?_
  refine aK (bZ ?_)
  exact uZ O (.tmp O (.tmp O .nil)) ⟨M,id,O,h1,h2,h3,O⟩
end Go.Proofs.YtlmpojkmeglepaaGreatDoor
namespace Sl
open Go Go.RowKit
variable {E:Env}{n:Nat}{L:Fr}{S:List HP}{ty:TypeId}{pos:String}{af:Array Edge}{d:Option Nat}{gd:Option (Nat×Bool)}
theorem qSs {x y:Operand}{t yt:TypeId}{a b:Bool}{sz:Nat}{zs:List Value}(hx:ev L x=some (.bool a))(hy:ev L y=some (.bool b))(ht:E.tab t=some ⟨.bool,sz,zs⟩):
  Yl E n L S ⟨d,.binOp .neq t x y yt,ty,pos,af,gd⟩ (.bool (a^^b)):=fun o w g _=>by
 have hu:=tab_bool ht
 have h1:(eqGuard .neq t x y (.bool a) (.bool b)).run E.P w= .ok () w:=by unfold eqGuard;simp
 have h2:binOp .neq t (.bool a) (.bool b)=(do pure (.bool (!(←Op.equal t (.bool a) (.bool b))))):=rfl
 have h3:=run_equal_bool (P:=E.P) w t a b hu
 simp[execOp,h1,h2,h3,g.ev hx,g.ev hy]
 cases a<;>cases b<;>rfl
end Sl
namespace Go.Proofs.YtlmpojkmeglepaaGreatDoor
open Go Go.RowKit Sl Eg
set_option maxRecDepth 10000
section
variable {E:Env}{G:List Rl}
theorem ct_after (hE:Seat E)(hB:Base E.w0){low x y:Nat}(hl:low<1099511627776)(hx:x<P61)(hy:y<P61):Ct E 140 [.int .i64 (low:Nat),.int .u64 (x:Nat),.int .u64 (y:Nat)] [] (fun v Q=>v= .int .i64 (after low x y:Nat)∧Q=[]):=fun R w s=>by
 have hT:TabAt w:=fun j hj=>s.old_cell (hB.tab j hj)
 have:=tT low x y w hl hx hy hT
 rw[←hE.P]at this
 exact this.mono fun e w'⟨h1,h2⟩=>⟨_,[],h1,⟨O,O⟩,h2▸s⟩
theorem ct_After (hE:Seat E)(hB:Base E.w0){low x y:Nat}(hl:low≤1048576)(hx:x<P61)(hy:y<P61):Ct E 119 [.int .i64 (low:Nat),.int .u64 (x:Nat),.int .u64 (y:Nat)] [] (fun v Q=>v= .int .i64 (after low x y:Nat)∧Q=[]):=by
 refine bO (hE.fn Tryz.func119) O O O (fun R=>?_)
 simp only[dY,uV,uW]
 refine dO (uA O (dN (aL (dO (uM O (uB (y_gt O O) (dN ?_)))))))
 refine bE O (fun h1=>?_) (fun h1=>?_)
 ·exfalso;omega
 refine bC (aK (dO (uM O (uB (y_max O O) ?_))))
 refine l_eq 10 (.int .i64 (low:Nat)) O (bW (by first |omega |simp)) ?_
 refine uM O (uM O (uX (ct_after (low:=low) (x:=x) (y:=y) hE hB oO hx hy) O ?_))
 rintro _ _⟨rfl,rfl⟩
 simp only[uV,uW]
 refine uA O (dN (bZ ?_))
 exact uZ O (.tmp O .nil) ⟨O,O⟩
def zN (f:Nat→Value)(z:Value)(n k:Nat):List Value:=(List.range n).map fun j=>if j≤k then f j else z
theorem qGz (f:Nat→Value)(z:Value)(n k:Nat):(zN f z n k).length=n:=by simp[zN]
theorem qCn {f:Nat→Value}{z:Value}(h:f 0=z)(n:Nat):List.replicate n z=zN f z n 0:=by
 apply List.ext_getElem?
 intro i
 unfold zN
 rw[List.getElem?_map,List.getElem?_replicate]
 rcases Nat.lt_or_ge i n with hi|hi
 ·rw[if_pos hi,List.getElem?_range hi]
  simp only[Option.map_some]
  split
  ·rename_i h0
   obtain rfl:i=0:=by omega
   rw[h]
  rfl
 rw[if_neg oO,List.getElem?_eq_none (by simpa using hi)];rfl
theorem yJ {f:Nat→Value}{z:Value}{n k j:Nat}(hj:j<n)(hk:j≤k)(o:Nat)(ho:o=j):(zN f z n k)[o]?=some (f j):=by
 subst ho
 unfold zN
 rw[List.getElem?_map,List.getElem?_range hj]
 simp[hk]
theorem qHa {f:Nat→Value}{z:Value}{n k:Nat}(hk:k+1<n)(o:Nat)(ho:o=k+1){v:Value}(hv:v=f (k+1))(hp:bP v=[v]):bX (zN f z n k) o (bP v)=zN f z n (k+1):=by
 rw[hp]
 subst ho hv
 apply List.ext_getElem?
 intro i
 simp only[bX]
 rw[List.getElem?_set,qGz]
 unfold zN
 rw[List.getElem?_map,List.getElem?_map]
 rcases Nat.lt_or_ge i n with hi|hi
 ·rw[List.getElem?_range hi]
  simp only[Option.map_some]
  by_cases e:k+1=i
  ·subst e
   rw[if_pos rfl,if_pos hk,if_pos (Nat.le_refl _)]
  rw[if_neg e]
  by_cases h2:i≤k
  ·rw[if_pos h2,if_pos oO]
  rw[if_neg h2,if_neg oO]
 rw[if_neg oO,List.getElem?_eq_none (by simpa using hi)]
 rfl
def lvC (G:List Rl)(k:Nat):List Value:=zN (fun j=> .int .i64 (lvl G j)) (.int .i64 0) (G.length+1) k
def kzC (G:List Rl)(k:Nat):List Value:=zN (fun j=> .int .u64 (key G j:Nat)) (.int .u64 0) (G.length+1) k
theorem qEd (hE:Seat E){i:Nat}{r:Rl}(hr:G[i]?=some r)(hGl:G.length≤100000){pb g1 c1 g2 c2 g3 c3:Nat}:Ct E 118 [uPt pb,.int .i64 ((i+1:Nat):Int)] [cells pb [.slice (some ⟨g1,0,none⟩) (G.length+1) c1,.slice (some ⟨g2,0,none⟩) (G.length+1) c2,.slice (some ⟨g3,0,none⟩) (G.length+1) c3] 151,sl (some ⟨g1,0,none⟩) c1 86 5 (G.length+1) (ruC G)] (fun v Q=>v= .int .i64 (nA r:Nat)∧Q=[cells pb [.slice (some ⟨g1,0,none⟩) (G.length+1) c1,.slice (some ⟨g2,0,none⟩) (G.length+1) c2,.slice (some ⟨g3,0,none⟩) (G.length+1) c3] 151,sl (some ⟨g1,0,none⟩) c1 86 5 (G.length+1) (ruC G)]):=by
 have hi:=(List.getElem?_eq_some_iff.1 hr).1
 obtain⟨f0,f1,f2,f3,f4⟩:=qDg hr (((i+1:Nat):Int).toNat*5) oO
 obtain⟨e0,e1,e2,e3,e4⟩:=qDg hr (0+((i+1:Nat):Int).toNat*5) oO
 refine bO (hE.fn Tryz.func118) O O O (fun R=>?_)
 simp only[dY,uV,uW]
 refine dO (uA O (dN (aL (dO (uM O (uB (bA O) (uB (uBf O) ?_)))))))
 refine uL ?_
 refine uM O (uB (uAi O O) ?_)
 refine uB (uBf O) ?_
 refine uL ?_
 refine uB (y_eq O O) (dN ?_)
 cases r with
 |letter b=>
  simp only[Rl.kind]
  refine bD O (bC (aK (dO (uM O (uB (bA O) (uB (uBf O) ?_))))))
  refine uL ?_
  refine uM O (uB (uAi O O) ?_)
  refine uB (uBf O) ?_
  refine uL ?_
  refine uA O (dN (bZ ?_))
  exact uZ O (.tmp O .nil) ⟨O,O⟩
 |pair a b=>
  simp only[Rl.kind]
  refine bF O (dO (uM O (uB (bA O) (uB (uBf O) ?_))))
  refine uL ?_
  refine uM O (uB (uAi O O) ?_)
  refine uB (uBf O) ?_
  refine uL ?_
  refine uA O (dN (bZ (aV ?_)))
  exact uZ O (.tmp O .nil) ⟨O,O⟩
 |power a t=>
  simp only[Rl.kind]
  refine bD O (bC (aK (dO (uM O (uB (bA O) (uB (uBf O) ?_))))))
  refine uL ?_
  refine uM O (uB (uAi O O) ?_)
  refine uB (uBf O) ?_
  refine uL ?_
  refine uA O (dN (bZ ?_))
  exact uZ O (.tmp O .nil) ⟨O,O⟩
end
section
variable {E:Env}{G:List Rl}
def teV (p:Bool×Bool):Value:= .agg #[.bool p.1,.bool p.2]
def Kte (G:List Rl)(K l:Nat)(f:Int→Option Value):Prop:=∀(x:Int)(v:Value),f x=some v→∃j:Nat,x=(j:Nat)∧v=teV (te G K (expd G l j))
theorem Kte.set {K l:Nat}{f:Int→Option Value}(h:Kte G K l f){j:Nat}{v:Value}(hv:v=teV (te G K (expd G l j))):Kte G K l (setF f (j:Nat) v):=fun x u hx=>by
 unfold setF at hx
 split at hx
 ·rename_i e
  cases hx
  exact⟨j,e,hv⟩
 exact h x u hx
theorem qRy (hw:Wf G){K l i a b:Nat}(hr:G[i]?=some (.pair a b))(hl:(l:Int)<lvl G (i+1)):te G K (expd G l (i+1))=if(te G K (expd G l b)).2=true then((te G K (expd G l a)).1^^(te G K (expd G l b)).1,(te G K (expd G l a)).2)else te G K (expd G l b):=by
 rw[fZ hw hr hl,qLy]
theorem qLz (hw:Wf G){K l i a t:Nat}(hr:G[i]?=some (.power a t))(hl:(l:Int)<lvl G (i+1))(ht:1≤t):te G K (expd G l (i+1))=if(te G K (expd G l a)).2=true then(if t%2=0 then false else(te G K (expd G l a)).1,true)else te G K (expd G l a):=by
 rw[gF hw hr hl,te_rep _ _ _ _ ht]
structure EnG2 where
 b9:Nat
 f:Int→Option Value
theorem ct_pEnd (hE:Seat E)(hw:Wf G)(hGl:G.length≤100000){k K l pb g1 c1 g2 c2 g3 c3 bm:Nat}(hkG:k≤G.length)(hlk:∀j,1≤j→j≤k→0≤lvl G j):∀(id:Nat),1≤id→id≤k→∀(f:Int→Option Value),Kte G K l f→
  Ct E 121 [.agg #[uPt pb,.int .i64 (l:Nat),.int .u64 (K:Nat),.map (some bm)],.int .i64 (id:Nat)] [cells pb [.slice (some ⟨g1,0,none⟩) (G.length+1) c1,.slice (some ⟨g2,0,none⟩) (G.length+1) c2,.slice (some ⟨g3,0,none⟩) (G.length+1) c3] 151,sl (some ⟨g1,0,none⟩) c1 86 5 (G.length+1) (ruC G),sl (some ⟨g2,0,none⟩) c2 3 1 (G.length+1) (lvC G k),sl (some ⟨g3,0,none⟩) c3 70 1 (G.length+1) (kzC G k),mapF bm .i64 f]
   (fun v Q=>v=teV (te G K (expd G l id))∧∃f',Kte G K l f'∧Q=[cells pb [.slice (some ⟨g1,0,none⟩) (G.length+1) c1,.slice (some ⟨g2,0,none⟩) (G.length+1) c2,.slice (some ⟨g3,0,none⟩) (G.length+1) c3] 151,sl (some ⟨g1,0,none⟩) c1 86 5 (G.length+1) (ruC G),sl (some ⟨g2,0,none⟩) c2 3 1 (G.length+1) (lvC G k),sl (some ⟨g3,0,none⟩) c3 70 1 (G.length+1) (kzC G k),mapF bm .i64 f']):=by
 intro id
 induction id using Nat.strongRecOn with
 |ind id ih=>
  intro hid1 hid f hf
  obtain⟨i,rfl⟩:∃i,id=i+1:=⟨id-1,oO⟩
  obtain⟨r,hr⟩:∃r,G[i]?=some r:=⟨_,List.getElem?_eq_getElem oO⟩
  have hkl:=jB (hw.ok i r hr)
  have hLi:=hlk (i+1) hid1 hid
  have f5:(lvC G k)[((i+1:Nat):Int).toNat]?=some (.int .i64 (lvl G (i+1))):=yJ oO oO _ oO
  have f6:(kzC G k)[((i+1:Nat):Int).toNat]?=some (.int .u64 (key G (i+1):Nat)):=yJ oO oO _ oO
  obtain⟨f0,f1,f2,f3,f4⟩:=qDg hr (0+((i+1:Nat):Int).toNat*5) oO
  refine bO (hE.fn Tryz.func121) O O O (fun R=>?_)
  simp only[dY,uV,uW]
  refine dO (uU ?_)
  refine fJ O (fun b2=>?_)
  refine uU (dA (hE.t O) (fun b4=>?_))
  refine dN (aL (aL ?_))
  refine uH ([cells b2 [uPt pb,.int .i64 (l:Nat),.int .u64 (K:Nat),.map (some bm)] 226,cells pb [.slice (some ⟨g1,0,none⟩) (G.length+1) c1,.slice (some ⟨g2,0,none⟩) (G.length+1) c2,.slice (some ⟨g3,0,none⟩) (G.length+1) c3] 151,sl (some ⟨g2,0,none⟩) c2 3 1 (G.length+1) (lvC G k)]) ?_
  refine uD 0 O (uBf O) ?_
  refine uD 1 O (uY) ?_
  refine uD 2 O (bA O) ?_
  refine uD 3 O (uBf O) ?_
  refine uD 4 O (uY) ?_
  refine uD 5 O (aB O) (uD 6 O (uAj O O) ?_)
  refine uD 7 O (uY) ?_
  refine uD 8 O (uBf O) ?_
  refine uD 9 O (uY) ?_
  refine uD 10 O (y_le O O) ?_
  refine jT oK ?_
  refine aK ?_
  refine bE O (fun h1=>?_) (fun h1=>?_)
  ·have hlow:expd G l (i+1)=[i+1]:=dZ oO oO
   refine aL ?_
   refine uH ([cells b2 [uPt pb,.int .i64 (l:Nat),.int .u64 (K:Nat),.map (some bm)] 226,cells pb [.slice (some ⟨g1,0,none⟩) (G.length+1) c1,.slice (some ⟨g2,0,none⟩) (G.length+1) c2,.slice (some ⟨g3,0,none⟩) (G.length+1) c3] 151,sl (some ⟨g3,0,none⟩) c3 70 1 (G.length+1) (kzC G k)]) ?_
   refine uD 0 O (uBf O) ?_
   refine uD 1 O (uY) ?_
   refine uD 2 O (bA O) ?_
   refine uD 3 O (uBf O) ?_
   refine uD 4 O (uY) ?_
   refine uD 5 O (aB O) (uD 6 O (uAj O O) ?_)
   refine uD 7 O (uY) ?_
   refine uD 8 O (uBf O) ?_
   refine uD 9 O (uY) ?_
   refine uD 10 O (y_eq O O) (uD 11 O (aC O) ?_)
   refine jT oK ?_
   refine aK (dO (uM O (uM O (uB (dV (hE.t O) O O) ?_))))
   refine uU (uS ?_)
   refine dN (bZ (aV ?_))
   apply cB
   ·rfl
   ·((apply Rs.cell rfl (hE.t rfl) rfl;(focus((repeat(first |rfl|assumption|constructor));done)));exact Rs.nil)
   ·refine⟨?_,f,hf,O⟩
    rw[hlow,te_one]
    have e:decide (((key G (i+1):Nat):Int)=(K:Nat))=decide (key G (i+1)=K):=decide_eq_decide.2 oO
    rw[e]
    rfl
   exact uI
  have hhi:(l:Int)<lvl G (i+1):=oO
  have hnl:∀b,r≠ .letter b:=fun b e=>by
   subst e
   have:=(fT hr).2
   omega
  have hlast:nA r∈kids r:=by
   cases r with
   |letter b=>exact absurd rfl (hnl b)
   |pair a b=>simp[nA,kids]
   |power a t=>simp[nA,kids]
  have hlr:nA r<i+1:=(hkl _ hlast).2
  have hl1:1≤nA r:=(hkl _ hlast).1
  have hl2:nA r≤k:=oO
  obtain⟨odd,whole,hp⟩:∃odd whole,te G K (expd G l (nA r))=(odd,whole):=⟨_,_,rfl⟩
  have hm1:E.P.underlying 224=some (.map 44 228):=by rw[hE.P];kernel_rfl
  have hm2:E.P.underlying 44=some (.int .i64):=by rw[hE.P];kernel_rfl
  have hm3:∀w,(zeroValue 228).run E.P w= .ok (.agg #[.bool false,.bool false]) w:=fun w=>by rw[hE.P];kernel_rfl
  refine bC (aK (aL (dO (uB (uBf O) ?_))))
  refine uL ?_
  refine uM O ?_
  rcases hfi:f ((i+1:Nat):Int)with _|v0
  ·apply aA
   ·exact jJ hm1 hm2 hm3 O O uK hfi
   ·rfl
   refine l_eq 40 (.tuple #[.agg #[.bool false,.bool false],.bool false]) O O ?_
   refine uM O (uB (aT O O) (uB (aT O O) (uU (dA (hE.t O) (fun b6=>?_)))))
   refine uU (uS ?_)
   refine uA O (dN (dO (uM O (dN (bD O (bC (aK (dO (uB (uBf O) ?_)))))))))
   refine uL ?_
   refine uB (bA O) (uB (uBf O) ?_)
   refine uL ?_
   refine uM O (uB (uAi O O) ?_)
   refine uB (uG) ?_
   refine uU (dA (hE.t O) (fun b8=>?_))
   refine uU (uS ?_)
   refine dN ?_
   refine rP (fun x:EnG2=>[(1,.int .i64 ((i+1:Nat):Int)),(2,uPt b2),(4,uPt b4),(8,uPt b8),(9,.pointer (some ⟨x.b9,0,none⟩))]) (fun x=>[cells pb [.slice (some ⟨g1,0,none⟩) (G.length+1) c1,.slice (some ⟨g2,0,none⟩) (G.length+1) c2,.slice (some ⟨g3,0,none⟩) (G.length+1) c3] 151,sl (some ⟨g1,0,none⟩) c1 86 5 (G.length+1) (ruC G),sl (some ⟨g2,0,none⟩) c2 3 1 (G.length+1) (lvC G k),sl (some ⟨g3,0,none⟩) c3 70 1 (G.length+1) (kzC G k),mapF bm .i64 x.f,cells b2 [uPt pb,.int .i64 (l:Nat),.int .u64 (K:Nat),.map (some bm)] 226,cells b4 [.bool false,.bool false] 228,cells b8 [.int .i64 (Rl.kind (r):Nat),.int .u8 (Rl.byte (r):Nat),.int .i64 (Rl.left (r):Nat),.int .i64 (Rl.right (r):Nat),.int .i64 (Rl.times (r):Nat)] 86,cells x.b9 [.bool odd,.bool whole] 228,R]) (fun x=>Kte G K l x.f) ?_ ?_
   ·refine qBb 7 ([cells b2 [uPt pb,.int .i64 (l:Nat),.int .u64 (K:Nat),.map (some bm)] 226]) ?_ ?_
    ·exact uI
    refine uT 0 O (uG) ?_
    refine uT 1 O (uBf O) ?_
    refine uT 2 O (uY) ?_
    refine uT 3 O (aB O) ?_
    apply vT 4 6 O O oK O O
    ·apply aZ (qEd hE hr hGl) O (hE.f oK)
     ·exact uK
     rintro _ _⟨rfl,rfl⟩
     simp only[uV,uW]
     refine uE ?_
     apply vT 5 6 O O oK O O
     ·apply aZ (ih (nA r) hlr hl1 hl2 f hf) O (hE.f oK)
      ·exact uK
      rintro _ _⟨rfl,fm,hfm,rfl⟩
      rw[hp]
      simp only[uV,uW]
      refine uE ?_
      apply eH 6 O oK O
      refine dA (hE.t O) (fun b9=>?_)
      refine uE ?_
      apply iB O oK oK O
      refine uS ?_
      refine gM (ι:=EnG2) ⟨b9,fm⟩ hfm ⟨O,O,O,O,O,trivial⟩ ?_
      exact uI
     refine dA (hE.t O) (fun b9=>?_)
     refine uE ?_
     apply eH 5 O oK O
     refine uC (ih (nA r) hlr hl1 hl2 f hf) O ?_
     rintro _ _⟨rfl,fm,hfm,rfl⟩
     rw[hp]
     simp only[uV,uW]
     refine uE ?_
     apply iB O oK oK O
     refine uS ?_
     refine gM (ι:=EnG2) ⟨b9,fm⟩ hfm ⟨O,O,O,O,O,trivial⟩ ?_
     exact uI
    refine dA (hE.t O) (fun b9=>?_)
    refine uE ?_
    apply eH 4 O oK O
    refine uC (qEd hE hr hGl) O ?_
    rintro _ _⟨rfl,rfl⟩
    simp only[uV,uW]
    refine uE ?_
    apply eH 5 O oK O
    refine uC (ih (nA r) hlr hl1 hl2 f hf) O ?_
    rintro _ _⟨rfl,fm,hfm,rfl⟩
    rw[hp]
    simp only[uV,uW]
    refine uE ?_
    apply iB O oK oK O
    refine uS ?_
    refine gM (ι:=EnG2) ⟨b9,fm⟩ hfm ⟨O,O,O,O,O,trivial⟩ ?_
    exact uI
   rintro⟨b9,fm⟩hfm
   simp only at hfm ⊢
   refine aL (bK (dO (uB (uBf O) ?_)))
   refine uL ?_
   refine uB (gY O) (uA O (dN ?_))
   cases whole with
   |false=>
    have he:te G K (expd G l (i+1))=(odd,false):=by
     cases r with
     |letter b=>exact absurd rfl (hnl b)
     |pair a b=>
      have hp':te G K (expd G l b)=(odd,false):=hp
      rw[qRy hw hr hhi,hp'];rfl
     |power a t=>
      have hp':te G K (expd G l a)=(odd,false):=hp
      rw[qLz hw hr hhi (by have:=(hw.ok _ _ hr).2.2;omega),hp'];rfl
    refine bF O (bC (bI (aK (dO (uB (uBf O) ?_)))))
    refine uL ?_
    refine uM O (uB (uG) ?_)
    refine uU ?_
    apply kU (kt:=44) (et:=228) (by rw[hE.P];kernel_rfl) (by rw[hE.P];kernel_rfl) O O O
    ·exact uK
    refine dN (dO (uB (uG) ?_))
    refine uU (uS ?_)
    refine dN (bZ ?_)
    apply cB
    ·rfl
    ·((apply Rs.cell rfl (hE.t rfl) rfl;(focus((repeat(first |rfl|assumption|constructor));done)));exact Rs.nil)
    ·exact⟨by rw[he];rfl,setF fm ((i+1:Nat):Int) (teV (odd,false)),hfm.set (j:=i+1) (by rw[he]),rfl⟩
    exact uI
   |true=>
    refine bD O (dO (uB (uBf O) ?_))
    refine uL ?_
    refine uB (y_eq O O) (uA O (dN ?_))
    cases r with
    |letter b=>exact absurd rfl (hnl b)
    |pair a b=>
     simp only[Rl.kind,Rl.byte,Rl.left,Rl.right,Rl.times]
     have ha:=hkl a (by simp[kids])
     obtain⟨o2,w2,hp2⟩:∃odd whole,te G K (expd G l a)=(odd,whole):=⟨_,_,rfl⟩
     have he:te G K (expd G l (i+1))=(odd^^o2,w2):=by
      have hp':te G K (expd G l b)=(odd,true):=hp
      rw[qRy hw hr hhi,hp',hp2,Bool.xor_comm]
      rfl
     refine bF O (dO (uB (uG) ?_))
     refine uB (uBf O) ?_
     refine uL ?_
     refine uX (ih a ha.2 ha.1 oO fm hfm) O ?_
     rintro _ _⟨rfl,fm2,hfm2,rfl⟩
     rw[hp2]
     simp only[uV,uW]
     refine uU (dA (hE.t O) (fun b10=>?_))
     refine uU (uS ?_)
     refine dN (aJ (uB (uBf O) ?_))
     refine uL ?_
     refine uB (uBf O) ?_
     refine uL ?_
     refine uB (qSs O O (hE.t O)) ?_
     refine uB (uBf O) ?_
     refine uL ?_
     refine uB (dV (hE.t O) O O) ?_
     refine uU (uS ?_)
     refine aM (bI (aK (dO (uB (uBf O) ?_))))
     refine uL ?_
     refine uM O (uB (uG) ?_)
     refine uU ?_
     apply kU (kt:=44) (et:=228) (by rw[hE.P];kernel_rfl) (by rw[hE.P];kernel_rfl) O O O
     ·exact uK
     refine dN (dO (uB (uG) ?_))
     refine uU (uS ?_)
     refine dN (bZ ?_)
     apply cB
     ·rfl
     ·((apply Rs.cell rfl (hE.t rfl) rfl;(focus((repeat(first |rfl|assumption|constructor));done)));exact Rs.nil)
     ·exact⟨by rw[he];rfl,setF fm2 ((i+1:Nat):Int) (teV (odd^^o2,w2)),hfm2.set (j:=i+1) (by rw[he]),rfl⟩
     exact uI
    |power a t=>
     simp only[Rl.kind,Rl.byte,Rl.left,Rl.right,Rl.times]
     have htp:=qLz hw (K:=K) hr hhi (by have:=(hw.ok _ _ hr).2.2;omega)
     have hp':te G K (expd G l a)=(odd,true):=hp
     rw[hp']at htp
     refine bD O (dO (uB (uBf O) ?_))
     refine uL ?_
     refine uB (qBi O O oO oO) ?_
     refine uB (y_eq O O) (uA O (dN ?_))
     refine bE O (fun h2=>?_) (fun h2=>?_)
     ·have he:te G K (expd G l (i+1))=(false,true):=by rw[htp,if_pos rfl,if_pos oO]
      refine aJ (uB (uBf O) ?_)
      refine uU (uS ?_)
      refine aM (bI (aK (dO (uB (uBf O) ?_))))
      refine uL ?_
      refine uM O (uB (uG) ?_)
      refine uU ?_
      apply kU (kt:=44) (et:=228) (by rw[hE.P];kernel_rfl) (by rw[hE.P];kernel_rfl) O O O
      ·exact uK
      refine dN (dO (uB (uG) ?_))
      refine uU (uS ?_)
      refine dN (bZ ?_)
      apply cB
      ·rfl
      ·((apply Rs.cell rfl (hE.t rfl) rfl;(focus((repeat(first |rfl|assumption|constructor));done)));exact Rs.nil)
      ·exact⟨by rw[he];rfl,setF fm ((i+1:Nat):Int) (teV (false,true)),hfm.set (j:=i+1) (by rw[he]),rfl⟩
      exact uI
     have he:te G K (expd G l (i+1))=(odd,true):=by rw[htp,if_pos rfl,if_neg oO]
     refine bC (bI (aK (dO (uB (uBf O) ?_))))
     refine uL ?_
     refine uM O (uB (uG) ?_)
     refine uU ?_
     apply kU (kt:=44) (et:=228) (by rw[hE.P];kernel_rfl) (by rw[hE.P];kernel_rfl) O O O
     ·exact uK
     refine dN (dO (uB (uG) ?_))
     refine uU (uS ?_)
     refine dN (bZ ?_)
     apply cB
     ·rfl
     ·((apply Rs.cell rfl (hE.t rfl) rfl;(focus((repeat(first |rfl|assumption|constructor));done)));exact Rs.nil)
     ·exact⟨by rw[he];rfl,setF fm ((i+1:Nat):Int) (teV (odd,true)),hfm.set (j:=i+1) (by rw[he]),rfl⟩
     exact uI
  obtain⟨j,hj,rfl⟩:=hf _ _ hfi
  obtain rfl:j=i+1:=by omega
  refine uB (jJ hm1 hm2 hm3 O O uK hfi) ?_
  refine l_eq 40 (.tuple #[.agg #[.bool (te G K (expd G l (i+1))).1,.bool (te G K (expd G l (i+1))).2],.bool true]) O O ?_
  refine uM O (uB (aT O O) (uB (aT O O) (uU (dA (hE.t O) (fun b6=>?_)))))
  refine uU (uS ?_)
  refine uA O (dN (dO (uM O (dN (bF O (dO (uB (uG) ?_)))))))
  refine uU (uS ?_)
  refine dN (bZ (aV ?_))
  apply cB
  ·rfl
  ·((apply Rs.cell rfl (hE.t rfl) rfl;(focus((repeat(first |rfl|assumption|constructor));done)));exact Rs.nil)
  ·exact⟨O,f,hf,O⟩
  exact uI
end
section
variable {E:Env}{G:List Rl}
structure ApdG where
 a:Nat
 b:Nat
 h:Nat
theorem qQk {x y:Int}(hx:0≤x):∃n:Nat,(n:Int)=max x y:=⟨(max x y).toNat,Int.toNat_of_nonneg (Int.le_trans hx (Int.le_max_left _ _))⟩
theorem max_if (x y:Int):(if x<y then y else x)=max x y:=by
 rw[Int.max_def]
 split
 ·rw[if_pos oO]
 split
 ·omega
 rfl
end
end Go.Proofs.YtlmpojkmeglepaaGreatDoor
