import Derived.Test.YtnicahfnolhgbaaGreatDoorQ9D
set_option linter.all false
set_option maxHeartbeats 1000000
namespace Sl
open Go Go.RowKit Eg
variable {E:Bp}{n:Nat}{L L':Fr}{S H H':List HP}{Q:Exit->Act->World->Prop}
def bl (k:Nat):Array Bool:=((List.range 18).map k.testBit).toArray
def RS {ops m f k l}(e:l=bl k)(h:∀W:Nat->Nat->Fr->List HP->Prop,(∀f k L H,W f k L H↔Ea E ops m S Q f (bl k) n L H)->W f k L H):Ea E ops m S Q f l n L H:=e▸h (fun f k L H=>Ea E ops m S Q f (bl k) n L H) (fun _ _ _ _=>Iff.rfl)
def CV {ops m f k l}{W:Nat->Nat->Fr->List HP->Prop}(hW:∀f k L H,W f k L H↔Ea E ops m S Q f (bl k) n L H) (h:W f k L' H') (e:l=bl k) (hL:wk L L') (hH:∀k,dW H k->dW H' k) (hS:∀k,dW H' k->dW S k):Ea E ops m S Q f l n L H:=
 LF e (RU hL hH hS ((hW _ _ _ _).1 h))
end Sl
namespace Go.Proofs.YtnicahfnolhgbaaGreatDoor
open Go Go.RowKit Sl Eg
set_option maxRecDepth 10000
variable {E:Bp}{Es:List Bj}{s most:Nat}
def qLl (hE:BP E){a n0 x0 ts C}(hC:nL Cn.nil ts=C)(h1:1<=n0.length)(h2:n0.length<=28)(hx:Km x0 (DX 0 ts))(hP:∀p∈DX 0 ts,1<=p.length/\p.length<=1048576) (hQ:(DV (DX 0 ts)).length<=1000000000)
  (hR:Qb [] ts) (hw:Wf C.G) (hm:C.G.length<=most) (hJ:most<=fJ) (hN:∀x k,C.N x=some k->k<=C.G.length):
  Ct E 7 [uPt a,BN n0,BK most] [Dt a n0 (n0++mD) x0 none Dr.on]
   (fun v Q=>∃d s Es,v= .tuple #[uPt d,.nilIface]/\BO Es=C.G/\Q=[Dt a n0 (n0++mD) x0 none Dr.on,bR s most Es,GG d a n0 s C.N (fun _=>false) (Ga C.G.length) (DV (DX 0 ts)).length]):=by
 have hs:(⟨⟨n0⟩⟩:ByteArray).size=n0.length:=rfl;obtain⟨hn,hS,hT⟩:=Oi h1 h2;refine bO (hE.fn Tryz.func7) O O O (fun R=>?_);simp only[dS,uV,uW];refine dO (uA O (uA O (dN (aL (dO (uM O (uB (gY) ?_)))))));refine dN (bD O (bC (aK (aL (dO (uM O (uB (XY O (hE.t O)) ?_)))))));refine uB (UO O O) (uM O ?_);refine dV 21 O (fun c1=>?_) (fun c1=>?_)
 ·exfalso;omega
 refine dP (uM O (dP (uB (XY O (hE.t O)) ?_)));refine dP (uB (UM O O) (uB (gY) ?_));refine dN ?_;refine bE O (fun c2=>?_) (fun c2=>?_)
 ·exfalso;omega
 refine bC (aK (aL (dO (uM O (uM O ?_)))));have hK:n0.length+([46,110,101,119]:List UInt8).length<=1000000000:=Nat.add_le_add h2 (by decide:4<=999999972);refine uB (Mf O O hK) ?_;rw[show n0++[46,110,101,119]=n0++mD from rfl];refine BH (qOj hE hS hT) O ?_;refine uA O (dN (dO (uM O (uB (gY) ?_))));refine dN (bD O (bC (aK (dO (uM O (uM O (uX (qPa hE hn hP hx hQ) O ?_)))))));rintro _ _⟨l,ys,q,c,rfl,hO,rfl⟩;simp only[uV,uW];refine uM O (uB (aT O O) (uB (aT O O) (uB (aT O O) (uA O (uA O (uA O (dN (aL (dO (uM O (uB (gY) ?_)))))))))));refine dN (bD O ?_);have hU:ys.length=(DX 0 ts).length:=by rw[<-hO,jr]
 have hX:=XA (DX 0 ts);refine bC (aK (dO (uU ?_)));refine eQ (fun hL=>?_);refine uB (gY) ?_;refine uU (gN O (fun hH=>?_));refine uA O (dN ?_);refine fF (fU (t:=111) (sz:=5)) ?_;refine fF (fU (t:=3) (sz:=1)) ?_;refine fF (fZ (ps:=[cells hH [.slice none 0 0,.slice none 0 0,.map (some hL)] 88,sl none 0 111 5 0 [],sl none 0 3 1 0 [],dY hL (fun _=>none)]) (p:=FF hH Cn.nil) uK (fun k h=>⟨⟨none,0,none,0,hL⟩,h⟩)) ?_;refine aL (dO (uM O (uM O (uX (Jo (ys:=ys) hE hR hO oO) O ?_))));rintro _ _⟨rfl,rfl⟩;simp only[uV,uW];rw[hC];refine uB (QY O) (dN (bD O ?_));refine zJ (p:=FF hH C) uK qVv ?_;rintro⟨rq,rc,lq,lc,kb⟩;simp only[uV,uW];refine bC (aK (aL ?_));refine uN 17 ([cells hH [.slice rq C.G.length rc,.slice lq C.G.length lc,.map (some kb)] 88]) ?_;refine uT 0 O (aB O) (uT 1 O (aB O) (uT 2 O (aB O) (uT 4 O (aB O) (uT 8 O (aB O) (uT 9 O (bA O) ?_)))));refine uT 10 O (EC O) ?_;refine uT 11 O (uY) ?_;refine uT 12 O (Yo O) ?_;obtain⟨B,hB⟩:∃x:HP,x=dW [sl rq rc 111 5 C.G.length (Cx C.G),sl lq lc 3 1 C.G.length (Bg (DN C.G)),dY kb (Cf C.N),Dt a n0 (n0++mD) x0 none Dr.on,cells l [uPt a,BN n0,BK ys.length,BK ((DV (DX 0 ts)).length),.bool false] 139,R]:=⟨_,rfl⟩
 refine RS (k:=7959) oK (fun W hW=>?_)
 have tabcde:∀hD hF hG hA hI,W 3 32767 [(12,uPt hH),(52,uPt a),(53,BN n0),(54,BK most),(56,uPt l),(64,BK (C.G.length)),(55,uPt hD),(57,.map (some hF)),(58,.map (some hG)),(66,uPt hI)] [B,cells hH [.slice rq C.G.length rc,.slice lq C.G.length lc,.map (some kb)] 88,bR hD most [],dY hF (fun _=>none),dY hG (fun _=>none),Bn hA .i64 (fun _=>none),cells hI [.map (some hA),BK (C.G.length)] 96]:=by
  intro hD hF hG hA hI;refine(hW _ _ _ _).2 ?_;refine LF (l:= #[true,true,true,true,true,true,true,true,true,true,true,true,true,true,true,false,false,false]) oK ?_;apply dG 15 O oK
  ·(first |exact iE (hE.t rfl) rfl rfl|exact qSq (hE.t rfl) rfl rfl)
  ·rfl
  apply fE 16 O oK O;refine gN O (fun hM=>?_);refine uE ?_;apply dG 17 O oK
  ·exact aC O
  ·rfl
  refine QG oK ?_;refine aK (aL (dO (uM O ?_)));rw[qZh];refine RP (p:=B) (ps:=fun _:Unit=>[sl rq rc 111 5 C.G.length (Cx C.G),sl lq lc 3 1 C.G.length (Bg (DN C.G)),dY kb (Cf C.N),Dt a n0 (n0++mD) x0 none Dr.on,cells l [uPt a,BN n0,BK ys.length,BK ((DV (DX 0 ts)).length),.bool false] 139,R]) uK (fun k h=>⟨(),by rw[hB]at h;exact h⟩) ?_;rintro -;refine jM (fZ (ps:=[cells hH [.slice rq C.G.length rc,.slice lq C.G.length lc,.map (some kb)] 88,sl rq rc 111 5 C.G.length (Cx C.G),sl lq lc 3 1 C.G.length (Bg (DN C.G)),dY kb (Cf C.N)]) (p:=FF hH C) uK (fun k h=>⟨⟨rq,rc,lq,lc,kb⟩,h⟩)) ?_;refine uM O (uX (Jq (c:=C) hE hw hm hN) O ?_);rintro _ _⟨Es,rfl,hV,rfl⟩;simp only[uV,uW];refine uA O (dN (dO (uM O (uB (zBy O (hE.t O) O) ?_))));refine BH (Js hE) O ?_;refine dN (bD O (dO (uM O (uB (gY) ?_))));refine dN (bD O ?_)
  refine fF (fZ (ps:=[cells hM [uPt a,BN n0,uPt hD,uPt l,.map (some hF),.map (some hG),uPt hI,.bool false] 98,cells hI [.map (some hA),BK (C.G.length)] 96,dY hF (Cf C.N),dY hG (fun _=>none),Bn hA .i64 (Dw (Ga C.G.length)),cells l [uPt a,BN n0,BK ys.length,BK ((DV (DX 0 ts)).length),.bool false] 139]) (p:=GG hM a n0 hD C.N (fun _=>false) (Ga C.G.length) (DV (DX 0 ts)).length) uK (fun k h=>⟨⟨l,hF,hG,hI,hA,ys.length,(DV (DX 0 ts)).length⟩,⟨O,BD⟩,by rw[qVr,qUf];exact h⟩)) ?_;refine bC (aK (dO (uM O (uA O (uA O (dN (bZ ?_)))))));exact uZ O (.tmp O (.tmp O .nil)) ⟨hM,hD,Es,O,hV,O⟩
 have tabcd:∀hD hF hG hA,W 4 16383 [(12,uPt hH),(52,uPt a),(53,BN n0),(54,BK most),(56,uPt l),(64,BK (C.G.length)),(55,uPt hD),(57,.map (some hF)),(58,.map (some hG)),(65,.agg #[.map (some hA),BK (C.G.length)])] [B,cells hH [.slice rq C.G.length rc,.slice lq C.G.length lc,.map (some kb)] 88,bR hD most [],dY hF (fun _=>none),dY hG (fun _=>none),Bn hA .i64 (fun _=>none)]:=by
  intro hD hF hG hA;refine(hW _ _ _ _).2 ?_;refine pO [14] oK BF (fun i hi=>?_);obtain rfl:i=14:=by simpa using hi
  refine⟨_,_,_,_,_,O,O,gN O (fun hI=>⟨by(apply Dm;(repeat constructor);done),?_⟩)⟩;exact CV hW (tabcde _ _ _ _ _) oK BC uI uI
 have tabde:∀hD hF hA hI,W 4 32703 [(12,uPt hH),(52,uPt a),(53,BN n0),(54,BK most),(56,uPt l),(64,BK (C.G.length)),(55,uPt hD),(57,.map (some hF)),(66,uPt hI)] [B,cells hH [.slice rq C.G.length rc,.slice lq C.G.length lc,.map (some kb)] 88,bR hD most [],dY hF (fun _=>none),Bn hA .i64 (fun _=>none),cells hI [.map (some hA),BK (C.G.length)] 96]:=by
  intro hD hF hA hI;refine(hW _ _ _ _).2 ?_;refine pO [6] oK BF (fun i hi=>?_);obtain rfl:i=6:=by simpa using hi
  refine⟨_,_,_,_,_,O,O,eQ (fun hG=>⟨by(apply Dm;(repeat constructor);done),?_⟩)⟩;exact CV hW (tabcde _ _ _ _ _) oK BC uI uI
 have tacde:∀hD hG hA hI,W 4 32735 [(12,uPt hH),(52,uPt a),(53,BN n0),(54,BK most),(56,uPt l),(64,BK (C.G.length)),(55,uPt hD),(58,.map (some hG)),(66,uPt hI)] [B,cells hH [.slice rq C.G.length rc,.slice lq C.G.length lc,.map (some kb)] 88,bR hD most [],dY hG (fun _=>none),Bn hA .i64 (fun _=>none),cells hI [.map (some hA),BK (C.G.length)] 96]:=by
  intro hD hG hA hI;refine(hW _ _ _ _).2 ?_;refine pO [5] oK BF (fun i hi=>?_);obtain rfl:i=5:=by simpa using hi
  refine⟨_,_,_,_,_,O,O,eQ (fun hF=>⟨by(apply Dm;(repeat constructor);done),?_⟩)⟩;exact CV hW (tabcde _ _ _ _ _) oK BC uI uI
 have tbcde:∀hF hG hA hI,W 4 32759 [(12,uPt hH),(52,uPt a),(53,BN n0),(54,BK most),(56,uPt l),(64,BK (C.G.length)),(57,.map (some hF)),(58,.map (some hG)),(66,uPt hI)] [B,cells hH [.slice rq C.G.length rc,.slice lq C.G.length lc,.map (some kb)] 88,dY hF (fun _=>none),dY hG (fun _=>none),Bn hA .i64 (fun _=>none),cells hI [.map (some hA),BK (C.G.length)] 96]:=by
  intro hF hG hA hI;refine(hW _ _ _ _).2 ?_;refine pO [3] oK BF (fun i hi=>?_);obtain rfl:i=3:=by simpa using hi
  refine⟨_,_,_,_,_,O,O,aZ (jE (most:=most) hE hJ) O (hE.f oK) uK ?_⟩;rintro _ _⟨hD,rfl,rfl⟩;simp only[uV,uW];refine uE ?_;exact CV hW (tabcde _ _ _ _ _) oK BC uI uI
 have tabc:∀hD hF hG,W 6 8063 [(12,uPt hH),(52,uPt a),(53,BN n0),(54,BK most),(56,uPt l),(64,BK (C.G.length)),(55,uPt hD),(57,.map (some hF)),(58,.map (some hG))] [B,cells hH [.slice rq C.G.length rc,.slice lq C.G.length lc,.map (some kb)] 88,bR hD most [],dY hF (fun _=>none),dY hG (fun _=>none)]:=by
  intro hD hF hG;refine(hW _ _ _ _).2 ?_;refine pO [7] oK BF (fun i hi=>?_);obtain rfl:i=7:=by simpa using hi
  refine⟨_,_,_,_,_,O,O,jS .i64 (fun hA=>⟨by(apply Dm;(repeat constructor);done),?_⟩)⟩;refine uT 13 O (iE (hE.t O) O O) ?_;exact CV hW (tabcd _ _ _ _) oK BC uI uI
 have tabd:∀hD hF hA,W 5 16319 [(12,uPt hH),(52,uPt a),(53,BN n0),(54,BK most),(56,uPt l),(64,BK (C.G.length)),(55,uPt hD),(57,.map (some hF)),(65,.agg #[.map (some hA),BK (C.G.length)])] [B,cells hH [.slice rq C.G.length rc,.slice lq C.G.length lc,.map (some kb)] 88,bR hD most [],dY hF (fun _=>none),Bn hA .i64 (fun _=>none)]:=by
  intro hD hF hA;refine(hW _ _ _ _).2 ?_;refine pO [6,14] oK BF (fun i hi=>?_);simp only[di,kw,or_false]at hi;rcases hi with rfl|rfl
  ·refine⟨_,_,_,_,_,O,O,eQ (fun hG=>⟨by(apply Dm;(repeat constructor);done),?_⟩)⟩;exact CV hW (tabcd _ _ _ _) oK BC uI uI
  refine⟨_,_,_,_,_,O,O,gN O (fun hI=>⟨by(apply Dm;(repeat constructor);done),?_⟩)⟩;exact CV hW (tabde _ _ _ _) oK BC uI uI
 have tacd:∀hD hG hA,W 5 16351 [(12,uPt hH),(52,uPt a),(53,BN n0),(54,BK most),(56,uPt l),(64,BK (C.G.length)),(55,uPt hD),(58,.map (some hG)),(65,.agg #[.map (some hA),BK (C.G.length)])] [B,cells hH [.slice rq C.G.length rc,.slice lq C.G.length lc,.map (some kb)] 88,bR hD most [],dY hG (fun _=>none),Bn hA .i64 (fun _=>none)]:=by
  intro hD hG hA;refine(hW _ _ _ _).2 ?_;refine pO [5,14] oK BF (fun i hi=>?_);simp only[di,kw,or_false]at hi;rcases hi with rfl|rfl
  ·refine⟨_,_,_,_,_,O,O,eQ (fun hF=>⟨by(apply Dm;(repeat constructor);done),?_⟩)⟩;exact CV hW (tabcd _ _ _ _) oK BC uI uI
  refine⟨_,_,_,_,_,O,O,gN O (fun hI=>⟨by(apply Dm;(repeat constructor);done),?_⟩)⟩;exact CV hW (tacde _ _ _ _) oK BC uI uI
 have tade:∀hD hA hI,W 5 32671 [(12,uPt hH),(52,uPt a),(53,BN n0),(54,BK most),(56,uPt l),(64,BK (C.G.length)),(55,uPt hD),(66,uPt hI)] [B,cells hH [.slice rq C.G.length rc,.slice lq C.G.length lc,.map (some kb)] 88,bR hD most [],Bn hA .i64 (fun _=>none),cells hI [.map (some hA),BK (C.G.length)] 96]:=by
  intro hD hA hI;refine(hW _ _ _ _).2 ?_;refine pO [5,6] oK BF (fun i hi=>?_);simp only[di,kw,or_false]at hi;rcases hi with rfl|rfl
  ·refine⟨_,_,_,_,_,O,O,eQ (fun hF=>⟨by(apply Dm;(repeat constructor);done),?_⟩)⟩;exact CV hW (tabde _ _ _ _) oK BC uI uI
  refine⟨_,_,_,_,_,O,O,eQ (fun hG=>⟨by(apply Dm;(repeat constructor);done),?_⟩)⟩;exact CV hW (tacde _ _ _ _) oK BC uI uI
 have tbcd:∀hF hG hA,W 5 16375 [(12,uPt hH),(52,uPt a),(53,BN n0),(54,BK most),(56,uPt l),(64,BK (C.G.length)),(57,.map (some hF)),(58,.map (some hG)),(65,.agg #[.map (some hA),BK (C.G.length)])] [B,cells hH [.slice rq C.G.length rc,.slice lq C.G.length lc,.map (some kb)] 88,dY hF (fun _=>none),dY hG (fun _=>none),Bn hA .i64 (fun _=>none)]:=by
  intro hF hG hA;refine(hW _ _ _ _).2 ?_;refine pO [3,14] oK BF (fun i hi=>?_);simp only[di,kw,or_false]at hi;rcases hi with rfl|rfl
  ·refine⟨_,_,_,_,_,O,O,aZ (jE (most:=most) hE hJ) O (hE.f oK) uK ?_⟩;rintro _ _⟨hD,rfl,rfl⟩;simp only[uV,uW];refine uE ?_;exact CV hW (tabcd _ _ _ _) oK BC uI uI
  refine⟨_,_,_,_,_,O,O,gN O (fun hI=>⟨by(apply Dm;(repeat constructor);done),?_⟩)⟩;exact CV hW (tbcde _ _ _ _) oK BC uI uI
 have tbde:∀hF hA hI,W 5 32695 [(12,uPt hH),(52,uPt a),(53,BN n0),(54,BK most),(56,uPt l),(64,BK (C.G.length)),(57,.map (some hF)),(66,uPt hI)] [B,cells hH [.slice rq C.G.length rc,.slice lq C.G.length lc,.map (some kb)] 88,dY hF (fun _=>none),Bn hA .i64 (fun _=>none),cells hI [.map (some hA),BK (C.G.length)] 96]:=by
  intro hF hA hI;refine(hW _ _ _ _).2 ?_;refine pO [3,6] oK BF (fun i hi=>?_);simp only[di,kw,or_false]at hi;rcases hi with rfl|rfl
  ·refine⟨_,_,_,_,_,O,O,aZ (jE (most:=most) hE hJ) O (hE.f oK) uK ?_⟩;rintro _ _⟨hD,rfl,rfl⟩;simp only[uV,uW];refine uE ?_;exact CV hW (tabde _ _ _ _) oK BC uI uI
  refine⟨_,_,_,_,_,O,O,eQ (fun hG=>⟨by(apply Dm;(repeat constructor);done),?_⟩)⟩;exact CV hW (tbcde _ _ _ _) oK BC uI uI
 have tcde:∀hG hA hI,W 5 32727 [(12,uPt hH),(52,uPt a),(53,BN n0),(54,BK most),(56,uPt l),(64,BK (C.G.length)),(58,.map (some hG)),(66,uPt hI)] [B,cells hH [.slice rq C.G.length rc,.slice lq C.G.length lc,.map (some kb)] 88,dY hG (fun _=>none),Bn hA .i64 (fun _=>none),cells hI [.map (some hA),BK (C.G.length)] 96]:=by
  intro hG hA hI;refine(hW _ _ _ _).2 ?_;refine pO [3,5] oK BF (fun i hi=>?_);simp only[di,kw,or_false]at hi;rcases hi with rfl|rfl
  ·refine⟨_,_,_,_,_,O,O,aZ (jE (most:=most) hE hJ) O (hE.f oK) uK ?_⟩;rintro _ _⟨hD,rfl,rfl⟩;simp only[uV,uW];refine uE ?_;exact CV hW (tacde _ _ _ _) oK BC uI uI
  refine⟨_,_,_,_,_,O,O,eQ (fun hF=>⟨by(apply Dm;(repeat constructor);done),?_⟩)⟩;exact CV hW (tbcde _ _ _ _) oK BC uI uI
 have tab:∀hD hF,W 7 7999 [(12,uPt hH),(52,uPt a),(53,BN n0),(54,BK most),(56,uPt l),(64,BK (C.G.length)),(55,uPt hD),(57,.map (some hF))] [B,cells hH [.slice rq C.G.length rc,.slice lq C.G.length lc,.map (some kb)] 88,bR hD most [],dY hF (fun _=>none)]:=by
  intro hD hF;refine(hW _ _ _ _).2 ?_;refine pO [6,7] oK BF (fun i hi=>?_);simp only[di,kw,or_false]at hi;rcases hi with rfl|rfl
  ·refine⟨_,_,_,_,_,O,O,eQ (fun hG=>⟨by(apply Dm;(repeat constructor);done),?_⟩)⟩;exact CV hW (tabc _ _ _) oK BC uI uI
  refine⟨_,_,_,_,_,O,O,jS .i64 (fun hA=>⟨by(apply Dm;(repeat constructor);done),?_⟩)⟩;refine uT 13 O (iE (hE.t O) O O) ?_;exact CV hW (tabd _ _ _) oK BC uI uI
 have tac:∀hD hG,W 7 8031 [(12,uPt hH),(52,uPt a),(53,BN n0),(54,BK most),(56,uPt l),(64,BK (C.G.length)),(55,uPt hD),(58,.map (some hG))] [B,cells hH [.slice rq C.G.length rc,.slice lq C.G.length lc,.map (some kb)] 88,bR hD most [],dY hG (fun _=>none)]:=by
  intro hD hG;refine(hW _ _ _ _).2 ?_;refine pO [5,7] oK BF (fun i hi=>?_);simp only[di,kw,or_false]at hi;rcases hi with rfl|rfl
  ·refine⟨_,_,_,_,_,O,O,eQ (fun hF=>⟨by(apply Dm;(repeat constructor);done),?_⟩)⟩;exact CV hW (tabc _ _ _) oK BC uI uI
  refine⟨_,_,_,_,_,O,O,jS .i64 (fun hA=>⟨by(apply Dm;(repeat constructor);done),?_⟩)⟩;refine uT 13 O (iE (hE.t O) O O) ?_;exact CV hW (tacd _ _ _) oK BC uI uI
 have tad:∀hD hA,W 6 16287 [(12,uPt hH),(52,uPt a),(53,BN n0),(54,BK most),(56,uPt l),(64,BK (C.G.length)),(55,uPt hD),(65,.agg #[.map (some hA),BK (C.G.length)])] [B,cells hH [.slice rq C.G.length rc,.slice lq C.G.length lc,.map (some kb)] 88,bR hD most [],Bn hA .i64 (fun _=>none)]:=by
  intro hD hA;refine(hW _ _ _ _).2 ?_;refine pO [5,6,14] oK BF (fun i hi=>?_);simp only[di,kw,or_false]at hi;rcases hi with rfl|rfl|rfl
  ·refine⟨_,_,_,_,_,O,O,eQ (fun hF=>⟨by(apply Dm;(repeat constructor);done),?_⟩)⟩;exact CV hW (tabd _ _ _) oK BC uI uI
  ·refine⟨_,_,_,_,_,O,O,eQ (fun hG=>⟨by(apply Dm;(repeat constructor);done),?_⟩)⟩;exact CV hW (tacd _ _ _) oK BC uI uI
  refine⟨_,_,_,_,_,O,O,gN O (fun hI=>⟨by(apply Dm;(repeat constructor);done),?_⟩)⟩;exact CV hW (tade _ _ _) oK BC uI uI
 have tbc:∀hF hG,W 7 8055 [(12,uPt hH),(52,uPt a),(53,BN n0),(54,BK most),(56,uPt l),(64,BK (C.G.length)),(57,.map (some hF)),(58,.map (some hG))] [B,cells hH [.slice rq C.G.length rc,.slice lq C.G.length lc,.map (some kb)] 88,dY hF (fun _=>none),dY hG (fun _=>none)]:=by
  intro hF hG;refine(hW _ _ _ _).2 ?_;refine pO [3,7] oK BF (fun i hi=>?_);simp only[di,kw,or_false]at hi;rcases hi with rfl|rfl
  ·refine⟨_,_,_,_,_,O,O,aZ (jE (most:=most) hE hJ) O (hE.f oK) uK ?_⟩;rintro _ _⟨hD,rfl,rfl⟩;simp only[uV,uW];refine uE ?_;exact CV hW (tabc _ _ _) oK BC uI uI
  refine⟨_,_,_,_,_,O,O,jS .i64 (fun hA=>⟨by(apply Dm;(repeat constructor);done),?_⟩)⟩;refine uT 13 O (iE (hE.t O) O O) ?_;exact CV hW (tbcd _ _ _) oK BC uI uI
 have tbd:∀hF hA,W 6 16311 [(12,uPt hH),(52,uPt a),(53,BN n0),(54,BK most),(56,uPt l),(64,BK (C.G.length)),(57,.map (some hF)),(65,.agg #[.map (some hA),BK (C.G.length)])] [B,cells hH [.slice rq C.G.length rc,.slice lq C.G.length lc,.map (some kb)] 88,dY hF (fun _=>none),Bn hA .i64 (fun _=>none)]:=by
  intro hF hA;refine(hW _ _ _ _).2 ?_;refine pO [3,6,14] oK BF (fun i hi=>?_);simp only[di,kw,or_false]at hi;rcases hi with rfl|rfl|rfl
  ·refine⟨_,_,_,_,_,O,O,aZ (jE (most:=most) hE hJ) O (hE.f oK) uK ?_⟩;rintro _ _⟨hD,rfl,rfl⟩;simp only[uV,uW];refine uE ?_;exact CV hW (tabd _ _ _) oK BC uI uI
  ·refine⟨_,_,_,_,_,O,O,eQ (fun hG=>⟨by(apply Dm;(repeat constructor);done),?_⟩)⟩;exact CV hW (tbcd _ _ _) oK BC uI uI
  refine⟨_,_,_,_,_,O,O,gN O (fun hI=>⟨by(apply Dm;(repeat constructor);done),?_⟩)⟩;exact CV hW (tbde _ _ _) oK BC uI uI
 have tcd:∀hG hA,W 6 16343 [(12,uPt hH),(52,uPt a),(53,BN n0),(54,BK most),(56,uPt l),(64,BK (C.G.length)),(58,.map (some hG)),(65,.agg #[.map (some hA),BK (C.G.length)])] [B,cells hH [.slice rq C.G.length rc,.slice lq C.G.length lc,.map (some kb)] 88,dY hG (fun _=>none),Bn hA .i64 (fun _=>none)]:=by
  intro hG hA;refine(hW _ _ _ _).2 ?_;refine pO [3,5,14] oK BF (fun i hi=>?_);simp only[di,kw,or_false]at hi;rcases hi with rfl|rfl|rfl
  ·refine⟨_,_,_,_,_,O,O,aZ (jE (most:=most) hE hJ) O (hE.f oK) uK ?_⟩;rintro _ _⟨hD,rfl,rfl⟩;simp only[uV,uW];refine uE ?_;exact CV hW (tacd _ _ _) oK BC uI uI
  ·refine⟨_,_,_,_,_,O,O,eQ (fun hF=>⟨by(apply Dm;(repeat constructor);done),?_⟩)⟩;exact CV hW (tbcd _ _ _) oK BC uI uI
  refine⟨_,_,_,_,_,O,O,gN O (fun hI=>⟨by(apply Dm;(repeat constructor);done),?_⟩)⟩;exact CV hW (tcde _ _ _) oK BC uI uI
 have tde:∀hA hI,W 6 32663 [(12,uPt hH),(52,uPt a),(53,BN n0),(54,BK most),(56,uPt l),(64,BK (C.G.length)),(66,uPt hI)] [B,cells hH [.slice rq C.G.length rc,.slice lq C.G.length lc,.map (some kb)] 88,Bn hA .i64 (fun _=>none),cells hI [.map (some hA),BK (C.G.length)] 96]:=by
  intro hA hI;refine(hW _ _ _ _).2 ?_;refine pO [3,5,6] oK BF (fun i hi=>?_);simp only[di,kw,or_false]at hi;rcases hi with rfl|rfl|rfl
  ·refine⟨_,_,_,_,_,O,O,aZ (jE (most:=most) hE hJ) O (hE.f oK) uK ?_⟩;rintro _ _⟨hD,rfl,rfl⟩;simp only[uV,uW];refine uE ?_;exact CV hW (tade _ _ _) oK BC uI uI
  ·refine⟨_,_,_,_,_,O,O,eQ (fun hF=>⟨by(apply Dm;(repeat constructor);done),?_⟩)⟩;exact CV hW (tbde _ _ _) oK BC uI uI
  refine⟨_,_,_,_,_,O,O,eQ (fun hG=>⟨by(apply Dm;(repeat constructor);done),?_⟩)⟩;exact CV hW (tcde _ _ _) oK BC uI uI
 have ta:∀hD,W 8 7967 [(12,uPt hH),(52,uPt a),(53,BN n0),(54,BK most),(56,uPt l),(64,BK (C.G.length)),(55,uPt hD)] [B,cells hH [.slice rq C.G.length rc,.slice lq C.G.length lc,.map (some kb)] 88,bR hD most []]:=by
  intro hD;refine(hW _ _ _ _).2 ?_;refine pO [5,6,7] oK BF (fun i hi=>?_);simp only[di,kw,or_false]at hi;rcases hi with rfl|rfl|rfl
  ·refine⟨_,_,_,_,_,O,O,eQ (fun hF=>⟨by(apply Dm;(repeat constructor);done),?_⟩)⟩;exact CV hW (tab _ _) oK BC uI uI
  ·refine⟨_,_,_,_,_,O,O,eQ (fun hG=>⟨by(apply Dm;(repeat constructor);done),?_⟩)⟩;exact CV hW (tac _ _) oK BC uI uI
  refine⟨_,_,_,_,_,O,O,jS .i64 (fun hA=>⟨by(apply Dm;(repeat constructor);done),?_⟩)⟩;refine uT 13 O (iE (hE.t O) O O) ?_;exact CV hW (tad _ _) oK BC uI uI
 have tb:∀hF,W 8 7991 [(12,uPt hH),(52,uPt a),(53,BN n0),(54,BK most),(56,uPt l),(64,BK (C.G.length)),(57,.map (some hF))] [B,cells hH [.slice rq C.G.length rc,.slice lq C.G.length lc,.map (some kb)] 88,dY hF (fun _=>none)]:=by
  intro hF;refine(hW _ _ _ _).2 ?_;refine pO [3,6,7] oK BF (fun i hi=>?_);simp only[di,kw,or_false]at hi;rcases hi with rfl|rfl|rfl
  ·refine⟨_,_,_,_,_,O,O,aZ (jE (most:=most) hE hJ) O (hE.f oK) uK ?_⟩;rintro _ _⟨hD,rfl,rfl⟩;simp only[uV,uW];refine uE ?_;exact CV hW (tab _ _) oK BC uI uI
  ·refine⟨_,_,_,_,_,O,O,eQ (fun hG=>⟨by(apply Dm;(repeat constructor);done),?_⟩)⟩;exact CV hW (tbc _ _) oK BC uI uI
  refine⟨_,_,_,_,_,O,O,jS .i64 (fun hA=>⟨by(apply Dm;(repeat constructor);done),?_⟩)⟩;refine uT 13 O (iE (hE.t O) O O) ?_;exact CV hW (tbd _ _) oK BC uI uI
 have tc:∀hG,W 8 8023 [(12,uPt hH),(52,uPt a),(53,BN n0),(54,BK most),(56,uPt l),(64,BK (C.G.length)),(58,.map (some hG))] [B,cells hH [.slice rq C.G.length rc,.slice lq C.G.length lc,.map (some kb)] 88,dY hG (fun _=>none)]:=by
  intro hG;refine(hW _ _ _ _).2 ?_;refine pO [3,5,7] oK BF (fun i hi=>?_);simp only[di,kw,or_false]at hi;rcases hi with rfl|rfl|rfl
  ·refine⟨_,_,_,_,_,O,O,aZ (jE (most:=most) hE hJ) O (hE.f oK) uK ?_⟩;rintro _ _⟨hD,rfl,rfl⟩;simp only[uV,uW];refine uE ?_;exact CV hW (tac _ _) oK BC uI uI
  ·refine⟨_,_,_,_,_,O,O,eQ (fun hF=>⟨by(apply Dm;(repeat constructor);done),?_⟩)⟩;exact CV hW (tbc _ _) oK BC uI uI
  refine⟨_,_,_,_,_,O,O,jS .i64 (fun hA=>⟨by(apply Dm;(repeat constructor);done),?_⟩)⟩;refine uT 13 O (iE (hE.t O) O O) ?_;exact CV hW (tcd _ _) oK BC uI uI
 have td:∀hA,W 7 16279 [(12,uPt hH),(52,uPt a),(53,BN n0),(54,BK most),(56,uPt l),(64,BK (C.G.length)),(65,.agg #[.map (some hA),BK (C.G.length)])] [B,cells hH [.slice rq C.G.length rc,.slice lq C.G.length lc,.map (some kb)] 88,Bn hA .i64 (fun _=>none)]:=by
  intro hA;refine(hW _ _ _ _).2 ?_;refine pO [3,5,6,14] oK BF (fun i hi=>?_);simp only[di,kw,or_false]at hi;rcases hi with rfl|rfl|rfl|rfl
  ·refine⟨_,_,_,_,_,O,O,aZ (jE (most:=most) hE hJ) O (hE.f oK) uK ?_⟩;rintro _ _⟨hD,rfl,rfl⟩;simp only[uV,uW];refine uE ?_;exact CV hW (tad _ _) oK BC uI uI
  ·refine⟨_,_,_,_,_,O,O,eQ (fun hF=>⟨by(apply Dm;(repeat constructor);done),?_⟩)⟩;exact CV hW (tbd _ _) oK BC uI uI
  ·refine⟨_,_,_,_,_,O,O,eQ (fun hG=>⟨by(apply Dm;(repeat constructor);done),?_⟩)⟩;exact CV hW (tcd _ _) oK BC uI uI
  refine⟨_,_,_,_,_,O,O,gN O (fun hI=>⟨by(apply Dm;(repeat constructor);done),?_⟩)⟩;exact CV hW (tde _ _) oK BC uI uI
 have t0:W 9 7959 [(12,uPt hH),(52,uPt a),(53,BN n0),(54,BK most),(56,uPt l),(64,BK (C.G.length))] [B,cells hH [.slice rq C.G.length rc,.slice lq C.G.length lc,.map (some kb)] 88]:=by
  refine(hW _ _ _ _).2 ?_;refine pO [3,5,6,7] oK BF (fun i hi=>?_);simp only[di,kw,or_false]at hi;rcases hi with rfl|rfl|rfl|rfl
  ·refine⟨_,_,_,_,_,O,O,aZ (jE (most:=most) hE hJ) O (hE.f oK) uK ?_⟩;rintro _ _⟨hD,rfl,rfl⟩;simp only[uV,uW];refine uE ?_;exact CV hW (ta _) oK BC uI uI
  ·refine⟨_,_,_,_,_,O,O,eQ (fun hF=>⟨by(apply Dm;(repeat constructor);done),?_⟩)⟩;exact CV hW (tb _) oK BC uI uI
  ·refine⟨_,_,_,_,_,O,O,eQ (fun hG=>⟨by(apply Dm;(repeat constructor);done),?_⟩)⟩;exact CV hW (tc _) oK BC uI uI
  refine⟨_,_,_,_,_,O,O,jS .i64 (fun hA=>⟨by(apply Dm;(repeat constructor);done),?_⟩)⟩;refine uT 13 O (iE (hE.t O) O O) ?_;exact CV hW (td _) oK BC uI uI
 refine(hW _ _ _ _).2 (CV hW t0 oK BC (fZ (ps:=[sl rq rc 111 5 C.G.length (Cx C.G),sl lq lc 3 1 C.G.length (Bg (DN C.G)),dY kb (Cf C.N),Dt a n0 (n0++mD) x0 none Dr.on,cells l [uPt a,BN n0,BK ys.length,BK ((DV (DX 0 ts)).length),.bool false] 139,R]) uK (fun k h=>by rw[hB];exact h)) uI)
