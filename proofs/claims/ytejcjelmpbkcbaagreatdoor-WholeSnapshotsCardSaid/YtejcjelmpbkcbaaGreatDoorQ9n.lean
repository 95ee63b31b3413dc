import Derived.Test.YtejcjelmpbkcbaaGreatDoorQ9a
import Derived.Test.YtejcjelmpbkcbaaGreatDoorQ9m
set_option linter.all false
set_option maxHeartbeats 1000000
namespace Go.Proofs.YtejcjelmpbkcbaaGreatDoor
open Go Go.RowKit Sl Eg Pm
set_option maxRecDepth 10000
variable {E:Env}
def qAc (hE:Seat E){b n mb:Nat}{p:Option Nat}:Ct E 55 [uPt b] [cells b [.int .i32 0,.int .u32 0,.int .i64 (n:Nat),pv p,.map (some mb)] 132] (fun v Q=>v= .agg #[.int .i64 (n:Nat),pv p]∧Q=[cells b [.int .i32 0,.int .u32 0,.int .i64 (n:Nat),pv p,.map (some mb)] 132]):=by
 refine qLb (hE.fn Tryz.func55) O O O (fun R=>?_);simp only[dX,uV,uW];refine iP (fF ?_);apply jW O O;refine cZ (hE.t O) (fun b2=>?_);refine jX (eX (iP (fF ?_)));refine dZ (aB O) O O ?_;refine dZ (bA O) O O ?_;refine dZ (uBf O) O O ?_;apply jW O O;refine uC (qKn hE) O ?_;rintro _ _⟨rfl,rfl⟩;simp only[uV,uW];refine jX (eX (iP (fF ?_)));refine dZ (aB O) O O ?_;refine dZ (bA O) O O ?_;refine dZ (uBf O) O O ?_;apply qWo O;refine jX (eX (iP (fF ?_)));refine dZ (aB O) O O ?_;refine dZ (bA O) O O ?_;refine dZ (uBf O) O O ?_;apply dZ
 ·(apply bV rfl (hE.t rfl) rfl;(repeat(first |rfl|assumption|constructor));done)
 ·rfl
 ·rfl
 apply jW O O;(first |(apply bL rfl rfl (hE.t rfl) rfl;(focus((repeat constructor);done));(focus rfl);(focus(exact bi rfl)))|(apply aS rfl rfl (hE.t rfl) rfl;(focus((repeat constructor);done));(focus rfl);(focus(first |omega |(simp only[bP,aN,av,di];omega)))))
 refine jX (eX (qWi ?_));refine qPf (hE.f oK) (qBo hE) uK (Qs:=[cells b [.int .i32 0,.int .u32 0,.int .i64 (n:Nat),pv p,.map (some mb)] 132]) (vs:=[.agg #[.int .i64 (n:Nat),pv p]]) O ?_ ?_ ?_
 ·simp only[uV,uW];((apply Rs.cell rfl (hE.t rfl) rfl;(focus((repeat(first |rfl|assumption|constructor));done)));exact Rs.nil)
 ·exact⟨O,O⟩
 simp only[uV,uW];exact uI
def qSh (hE:Seat E){b n:Nat}{p:Option Nat}:Ct E 57 [uPt b,.agg #[.int .i64 (n:Nat),pv p]] [] (fun v Q=>∃t mr mc,v=uPt t∧Q=[cells t [uPt b,.int .i64 (n:Nat),pv p,.map (some mr),.map (some mc),.bool false] 156,fJ mr (fun _=>none),fJ mc (fun _=>none)]):=by
 refine bO (hE.fn Tryz.func57) O O O (fun R=>?_);simp only[dX,uV,uW];refine gg2 ?_;refine uU ?_;refine gW O (fun b3=>?_);refine gg7 ?_;refine uU ?_;refine zC (fun b7=>?_);refine uU ?_;refine zC (fun b8=>?_);refine gg1 ?_;refine uU ?_;refine gW O (fun b10=>?_);refine gg4 ?_;exact uZ O (.tmp O .nil) ⟨b10,b7,b8,O,O⟩
def xA (hE:Seat E){b n mb:Nat}{p:Option Nat}:Ct E 16 [uPt b] [cells b [.int .i32 0,.int .u32 0,.int .i64 (n:Nat),pv p,.map (some mb)] 132] (fun v Q=>∃t mr mc,v=uPt t∧Q=[cells b [.int .i32 0,.int .u32 0,.int .i64 (n:Nat),pv p,.map (some mb)] 132,cells t [uPt b,.int .i64 (n:Nat),pv p,.map (some mr),.map (some mc),.bool false] 156,fJ mr (fun _=>none),fJ mc (fun _=>none)]):=by
 refine bO (hE.fn Tryz.func16) O O O (fun R=>?_);simp only[dX,uV,uW];refine gg19 ?_;refine uX (qAc hE) O ?_;rintro _ _⟨rfl,rfl⟩;simp only[uV,uW];refine uX (qSh hE) O ?_;rintro _ _⟨t,mr,mc,rfl,rfl⟩;simp only[uV,uW];refine gg4 ?_;exact uZ O (.tmp O .nil) ⟨t,mr,mc,O,O⟩
def qNo (hE:Seat E){b t n mr mc:Nat}{p:Option Nat}{dn:Bool}:Ct E 24 [uPt t] [cells t [uPt b,.int .i64 (n:Nat),pv p,.map (some mr),.map (some mc),.bool dn] 156] (fun v Q=>v= .int .i64 (n:Nat)∧Q=[cells t [uPt b,.int .i64 (n:Nat),pv p,.map (some mr),.map (some mc),.bool dn] 156]):=by
 refine bO (hE.fn Tryz.func24) O O O (fun R=>?_);simp only[dX,uV,uW];refine gg26 ?_;exact uZ O (.tmp O .nil) ⟨O,O⟩
def qKr (hE:Seat E){x:List UInt8}(h1:1≤x.length)(h2:x.length≤32):Ct E 46 [.string ⟨⟨x⟩⟩] [] (fun v Q=>v= .bool true∧Q=[]):=by
 refine bO (hE.fn Tryz.func46) O O O (fun R=>?_);simp only[dX,uV,uW];refine gg11 ?_;have e1:(1:Int)≤((x.length:Nat):Int):=oO;have e2:((x.length:Nat):Int)≤32:=oO;refine l_eq 6 (.bool true) O (bf Value.bool (ma e1)) ?_;refine gg11 ?_;exact uZ O (.tmp O .nil) ⟨bf Value.bool (ma e2),O⟩
def qBz (hE:Seat E){b t n mr mc:Nat}{p:Option Nat}{x:List UInt8}(h1:1≤x.length)(h2:x.length≤32):Ct E 58 [uPt t,.string ⟨⟨x⟩⟩] [cells t [uPt b,.int .i64 (n:Nat),pv p,.map (some mr),.map (some mc),.bool false] 156] (fun v Q=>v= .nilIface∧Q=[cells t [uPt b,.int .i64 (n:Nat),pv p,.map (some mr),.map (some mc),.bool false] 156]):=by
 refine bO (hE.fn Tryz.func58) O O O (fun R=>?_);simp only[dX,uV,uW];refine gg43 ?_;refine uX (qKr hE h1 h2) O ?_;rintro _ _⟨rfl,rfl⟩;simp only[uV,uW];refine gg12 ?_;exact uZ O (.tmp O .nil) ⟨O,O⟩
def qVg (hE:Seat E){A:Ar}{T:Tre}{b t n mr mc:Nat}{p:Option Nat}{Fr Fc:List UInt8→Option Value}{x:List UInt8}(h:At A T p)(hc:Fc x=none):
  Ct E 59 [uPt t,.string ⟨⟨x⟩⟩] [cells t [uPt b,.int .i64 (n:Nat),pv p,.map (some mr),.map (some mc),.bool false] 156,fJ mr Fr,fJ mc Fc,ar A] (fun v Q=>v= .tuple #[.int .i64 ((fnd T x).getD 0:Nat),.bool (fnd T x).isSome]∧Q=[cells t [uPt b,.int .i64 (n:Nat),pv p,.map (some mr),.map (some mc),.bool false] 156,fJ mr (kV Fr x (.bool true)),fJ mc Fc,ar A]):=by
 have hm1:E.P.underlying 154=some (.map 9 152):=by rw[hE.P];kernel_rfl
 have hm2:E.P.underlying 9=some .string:=by rw[hE.P];kernel_rfl
 have hm3:∀w,(zeroValue 152).run E.P w= .ok (.agg #[.int .i64 0,.bool false]) w:=fun w=>by rw[hE.P];kernel_rfl
 refine bO (hE.fn Tryz.func59) O O O (fun R=>?_);simp only[dX,uV,uW];refine gg14 ?_;refine uB (qZw hm1 hm2 hm3 O O uK hc) ?_;refine gg3 ?_;refine uU (cZ (hE.t O) (fun b6=>?_));refine gg19 ?_;refine uU ?_;apply qR (kt:=9) (et:=4) (by rw[hE.P];kernel_rfl) (by rw[hE.P];kernel_rfl) O O O
 ·exact uK
 refine gg10 ?_;refine uX (qUy (k:=x) hE h) O ?_;rintro _ _⟨rfl,rfl⟩;simp only[uV,uW];refine gg7 ?_;exact uZ O (.tmp O (.tmp O .nil)) ⟨O,O⟩
def qVd (hE:Seat E){A:Ar}{T:Tre}{b t n mr mc:Nat}{p:Option Nat}{Fr Fc:List UInt8→Option Value}{x:List UInt8}(h:At A T p)(hc:Fc x=none)(h1:1≤x.length)(h2:x.length≤32):
  Ct E 42 [uPt t,.string ⟨⟨x⟩⟩] [cells t [uPt b,.int .i64 (n:Nat),pv p,.map (some mr),.map (some mc),.bool false] 156,fJ mr Fr,fJ mc Fc,ar A] (fun v Q=>((∃w,fnd T x=some w∧v= .tuple #[.int .i64 (w:Nat),.nilIface])∨(fnd T x=none∧v= .tuple #[.int .i64 0,.iface 54 (.int .i64 5)]))∧Q=[cells t [uPt b,.int .i64 (n:Nat),pv p,.map (some mr),.map (some mc),.bool false] 156,fJ mr (kV Fr x (.bool true)),fJ mc Fc,ar A]):=by
 refine bO (hE.fn Tryz.func42) O O O (fun R=>?_);simp only[dX,uV,uW];refine gg11 ?_;refine uX (qBz hE h1 h2) O ?_;rintro _ _⟨rfl,rfl⟩;simp only[uV,uW];refine gg16 ?_;refine uX (qVg hE h hc) O ?_;rintro _ _⟨rfl,rfl⟩;cases e:fnd T x with
 |none=>
  simp only[uV,uW]
  refine gg24 ?_
  exact uZ O (.tmp O (.tmp O .nil)) ⟨.inr ⟨trivial,O⟩,O⟩
 |some w=>
  simp only[uV,uW]
  refine gg25 ?_
  exact uZ O (.tmp O (.tmp O .nil)) ⟨.inl ⟨w,O,O⟩,O⟩
def chV (id:Nat)(dropped:Bool):Value:= .agg #[.int .i64 (id:Nat),.bool dropped]
def qVf (hE:Seat E){b t n mr mc id:Nat}{p:Option Nat}{Fc:List UInt8→Option Value}{x:List UInt8}(h1:1≤x.length)(h2:x.length≤32):
  Ct E 20 [uPt t,.string ⟨⟨x⟩⟩,.int .i64 (id:Nat)] [cells t [uPt b,.int .i64 (n:Nat),pv p,.map (some mr),.map (some mc),.bool false] 156,fJ mc Fc] (fun v Q=>v= .nilIface∧Q=[cells t [uPt b,.int .i64 (n:Nat),pv p,.map (some mr),.map (some mc),.bool false] 156,fJ mc (kV Fc x (chV id false))]):=by
 refine bO (hE.fn Tryz.func20) O O O (fun R=>?_);simp only[dX,uV,uW];refine gg10 ?_;refine uX (qBz hE h1 h2) O ?_;rintro _ _⟨rfl,rfl⟩;simp only[uV,uW];refine gg21 ?_;refine uU ?_;apply qR (kt:=9) (et:=152) (by rw[hE.P];kernel_rfl) (by rw[hE.P];kernel_rfl) O O O
 ·exact uK
 refine gg8 ?_;exact uZ O (.tmp O .nil) ⟨O,O⟩
def ct_sDrop (hE:Seat E){A:Ar}{T:Tre}{b t n mr mc:Nat}{p:Option Nat}{Fr Fc:List UInt8→Option Value}{x:List UInt8}(h:At A T p)(hc:Fc x=none)(h1:1≤x.length)(h2:x.length≤32):
  Ct E 18 [uPt t,.string ⟨⟨x⟩⟩] [cells t [uPt b,.int .i64 (n:Nat),pv p,.map (some mr),.map (some mc),.bool false] 156,fJ mr Fr,fJ mc Fc,ar A] (fun v Q=>(fnd T x≠none∧v= .nilIface∧Q=[cells t [uPt b,.int .i64 (n:Nat),pv p,.map (some mr),.map (some mc),.bool false] 156,fJ mr (kV Fr x (.bool true)),fJ mc (kV Fc x (chV 0 true)),ar A])∨(fnd T x=none∧v= .iface 54 (.int .i64 5)∧Q=[cells t [uPt b,.int .i64 (n:Nat),pv p,.map (some mr),.map (some mc),.bool false] 156,fJ mr (kV Fr x (.bool true)),fJ mc Fc,ar A])):=by
 refine bO (hE.fn Tryz.func18) O O O (fun R=>?_);simp only[dX,uV,uW];refine gg10 ?_;refine uX (qBz hE h1 h2) O ?_;rintro _ _⟨rfl,rfl⟩;simp only[uV,uW];refine gg17 ?_;refine uX (qVg hE h hc) O ?_;rintro _ _⟨rfl,rfl⟩;cases e:fnd T x with
 |none=>
  simp only[uV,uW]
  refine gg22 ?_
  exact uZ O (.tmp O .nil) (.inr ⟨trivial,O,O⟩)
 |some w=>
  simp only[uV,uW]
  refine gg24 ?_
  refine uU ?_
  apply qR (kt:=9) (et:=152) (by rw[hE.P];kernel_rfl) (by rw[hE.P];kernel_rfl) O O O
  ·exact uK
  refine gg8 ?_
  exact uZ O (.tmp O .nil) (.inl ⟨by simp,rfl,rfl⟩)
end Go.Proofs.YtejcjelmpbkcbaaGreatDoor
namespace Sl
open Go Go.RowKit
variable {E:Env}{n:Nat}{L:Fr}{S S':List HP}{d:Option Nat}{ty:TypeId}{pos:String}{af:Array Edge}{gd:Option (Nat×Bool)}
def qZx {x y:Operand}{b:Nat}{t kt et:TypeId}{f:List UInt8→Option Value}{k:List UInt8}{z u:Value}{ok:Bool}(ht:E.P.underlying t=some (.map kt et))(hkt:E.P.underlying kt=some .string)(hz:∀w,(zeroValue et).run E.P w= .ok z w) (hx:ev L x=some (.map (some b))) (hy:ev L y=some (.string ⟨⟨k⟩⟩)) (hm:Take (fJ b f) S S') (hr:xM ok z (f k)=u):
  Yl E n L S ⟨d,.lookup t x y ok,ty,pos,af,gd⟩ u:=by
 subst hr;exact qZw ht hkt hz hx hy hm O
end Sl
namespace Go.Proofs.YtejcjelmpbkcbaaGreatDoor
set_option maxRecDepth 10000
section
open Go Go.RowKit Sl Eg Pm
variable {E:Env}
def vsF (L:Ky→Option Nat):List UInt8→Option Value:=fun k=>(L k).map fun n=> .int .i64 (n:Nat)
def qZl {L:Ky→Option Nat}{k:Ky}{n:Nat}:kV (vsF L) k (.int .i64 (n:Nat))=vsF (pu L k n):=by
 funext y;unfold kV vsF pu;by_cases h:y=k
 ·simp[h]
 simp[h]
def vsF_at {L:Ky→Option Nat}{k:Ky}{n:Nat}(h:∀k v,L k=some v→v≤n):∃v:Nat,xM false (.int .i64 0) (vsF L k)= .int .i64 (v:Nat)∧v≤n:=by
 unfold vsF;cases e:L k with
 |none=>exact⟨0,rfl,au _⟩
 |some v=>exact⟨v,rfl,h k v e⟩
def chT (T:Tre)(x:Ky)(id:Nat)(dropped:Bool):Tre:=if dropped=true then drop T x else put T x id
structure CvG where
 dn:List UInt8→Bool
 B:Ar
 q:Option Nat
 L:Ky→Option Nat
def qNn (hE:Seat E){A:Ar}{T:Tre}{b t n mb mr mc id:Nat}{p p0:Option Nat}{dp dn:Bool}{x:Ky}{L:Ky→Option Nat}{Fr:List UInt8→Option Value}(h:At A T p)(hs:sz T≤90000)(hn:n≤1000000)(hL:∀k v,L k=some v→v≤n) (hF:∀k,Fr k≠none→k=x) (hd:dp=true→fnd T x=none→drop T x=T):
  Ct E 61 [uPt b,uPt t] [cells b [.int .i32 0,.int .u32 0,.int .i64 (n:Nat),pv p,.map (some mb)] 132,cells t [uPt b,.int .i64 (n:Nat),pv p0,.map (some mr),.map (some mc),.bool dn] 156,fJ mr Fr,fJ mc (kV (fun _=>none) x (chV id dp)),fJ mb (vsF L),ar A]
   (fun v Q=>∃B q,v= .tuple #[.int .i64 ((n+1:Nat):Int),.nilIface]∧At (A++B) (chT T x id dp) q∧Q=[cells b [.int .i32 0,.int .u32 0,.int .i64 ((n+1):Nat),pv q,.map (some mb)] 132,cells t [uPt b,.int .i64 (n:Nat),pv p0,.map (some mr),.map (some mc),.bool dn] 156,fJ mr Fr,fJ mc (kV (fun _=>none) x (chV id dp)),fJ mb (vsF (pu L x (n+1))),ar (A++B)]):=by
 have hm1:E.P.underlying 154=some (.map 9 152):=by rw[hE.P];kernel_rfl
 have hm2:E.P.underlying 9=some .string:=by rw[hE.P];kernel_rfl
 have hm3:∀w,(zeroValue 3).run E.P w= .ok (.int .i64 0) w:=fun w=>by rw[hE.P];kernel_rfl
 have hm4:E.P.underlying 118=some (.map 9 3):=by rw[hE.P];kernel_rfl
 have hm5:E.P.underlying 153=some (.map 9 4):=by rw[hE.P];kernel_rfl
 obtain⟨vx,hvx,hvn⟩:=vsF_at (k:=x) hL
 have hFc:∀k v,kV (fun _=>none) x (chV id dp) k=some v→k=x∧v=chV id dp:=fun k v h=>by
  unfold kV at h;split at h
  ·rename_i e
   exact⟨e,(lm h).symm⟩
  cases h
 refine qLb (hE.fn Tryz.func61) O O O (fun R=>?_);simp only[dX,uV,uW];refine iP (fF ?_);refine dZ (aC O) O O ?_;refine dZ (aC O) O O ?_;refine jX (eX (iP (fF ?_)));refine dZ (aB O) O O ?_;refine dZ (bA O) O O ?_;refine dZ (uBf O) O O ?_;apply jW O O;refine uC (qKn hE) O ?_;rintro _ _⟨rfl,rfl⟩;simp only[uV,uW];refine jX (eX (iP (fF ?_)));refine dZ (aB O) O O ?_;refine dZ (bA O) O O ?_;refine dZ (uBf O) O O ?_;apply qWo O;refine jX (eX (iP (iP (fF ?_))));refine dZ (aB O) O O ?_;refine dZ (bA O) O O ?_;refine dZ (uBf O) O O ?_;apply dZ
 ·(apply aO rfl (hE.t rfl) rfl;(repeat(first |rfl|assumption|constructor));done)
 ·rfl
 ·rfl
 apply jW O O;apply qDb hm5 O uK;intro br;refine jX (eX (sW ?_));refine qWg (fun x:List UInt8→Bool=>[(0,uPt b),(1,uPt t),(22,uPt br)]) (fun dn1=>[qAr br mr Fr dn1,cells b [.int .i32 1,.int .u32 0,.int .i64 (n:Nat),pv p,.map (some mb)] 132,cells t [uPt b,.int .i64 (n:Nat),pv p0,.map (some mr),.map (some mc),.bool dn] 156,fJ mc (kV (fun _=>none) x (chV id dp)),fJ mb (vsF L),ar A,R]) (fun dn1=>if dn1 x=true then 0 else 1) (fun _=>True) (fun _=>false) trivial ⟨O,O,O,trivial⟩ uI ?_;rintro done -;refine iP (fF ?_);apply jW O O;apply qHx O uK;rotate_left
 ·intro k v hk hdn;obtain rfl:k=x:=hF k (by rw[hk];simp);refine dZ (aT O O) O O ?_;refine jX (eX (iP ?_));refine qHs O ?_;refine qCt (eX (sW (iP (fF ?_))));apply dZ
  ·exact qJs O uK
  ·rfl
  ·rfl
  refine qWp (fun _ h=>fG (fun _ x=>qOl x) h) ?_;refine dZ (aT O O) O O ?_;refine dZ (aC O) O O ?_;refine jX (eX ?_);refine iP ?_;refine qCs ([cells b [.int .i32 1,.int .u32 0,.int .i64 (n:Nat),pv p,.map (some mb)] 132,cells t [uPt b,.int .i64 (n:Nat),pv p0,.map (some mr),.map (some mc),.bool dn] 156,fJ mb (vsF L)]) ?_ ?_
  ·exact uI
  apply eZ 0 O
  ·exact aB O
  ·with_reducible (repeat(first |exact dY|apply aG|apply aH))
  ·kernel_rfl
  ·rfl
  apply eZ 1 O
  ·exact bA O
  ·with_reducible (repeat(first |exact dY|apply aG|apply aH))
  ·kernel_rfl
  ·rfl
  apply eZ 2 O
  ·exact uBf O
  ·with_reducible (repeat(first |exact dY|apply aG|apply aH))
  ·kernel_rfl
  ·rfl
  apply eZ 3 O
  ·(apply aO rfl (hE.t rfl) rfl;(repeat(first |rfl|assumption|constructor));done)
  ·with_reducible (repeat(first |exact dY|apply aG|apply aH))
  ·kernel_rfl
  ·rfl
  apply eZ 4 O
  ·exact aB O
  ·with_reducible (repeat(first |exact dY|apply aG|apply aH))
  ·kernel_rfl
  ·rfl
  apply eZ 5 O
  ·exact qZx hm4 hm2 hm3 O O uK hvx
  ·with_reducible (repeat(first |exact dY|apply aG|apply aH))
  ·kernel_rfl
  ·rfl
  apply eZ 6 O
  ·exact aB O
  ·with_reducible (repeat(first |exact dY|apply aG|apply aH))
  ·kernel_rfl
  ·rfl
  apply eZ 7 O
  ·exact bA O
  ·with_reducible (repeat(first |exact dY|apply aG|apply aH))
  ·kernel_rfl
  ·rfl
  apply eZ 8 O
  ·exact uBf O
  ·with_reducible (repeat(first |exact dY|apply aG|apply aH))
  ·kernel_rfl
  ·rfl
  apply eZ 9 O
  ·exact uBf O
  ·with_reducible (repeat(first |exact dY|apply aG|apply aH))
  ·kernel_rfl
  ·rfl
  apply eZ 10 O
  ·(apply aO rfl (hE.t rfl) rfl;(repeat(first |rfl|assumption|constructor));done)
  ·with_reducible (repeat(first |exact dY|apply aG|apply aH))
  ·kernel_rfl
  ·rfl
  apply eZ 11 O
  ·exact y_gt O O
  ·with_reducible (repeat(first |exact dY|apply aG|apply aH))
  ·kernel_rfl
  ·rfl
  refine qOh oK ?_;refine eX ?_;refine qQa O (fun c1=>?_) (fun c1=>?_)
  ·exfalso;omega
  refine qCt (tY ?_);refine qAt (ι:=List UInt8→Bool) (j:=fun x=>x==k||done x) trivial (by simp[hdn]) ⟨rfl,rfl,rfl,trivial⟩ uI
 intro hall;refine dZ (aT O O) O O ?_;refine jX (eX (iP ?_));refine xN O ?_;clear hall;refine qLe (cK (p:=qAr br mr Fr done) (p':=fJ mr Fr) uK (fun k h=>qIq h)) ?_;refine qWf (lH (lH (rD (eX (iP (iP (fF ?_)))))));refine dZ (aB O) O O ?_;refine dZ (bA O) O O ?_;refine dZ (uBf O) O O ?_;apply dZ
 ·(apply aO rfl (hE.t rfl) rfl;(repeat(first |rfl|assumption|constructor));done)
 ·rfl
 ·rfl
 apply jW O O;apply qDb hm1 O uK;intro br2;refine jX (eX (sW ?_));refine qWg (fun x:List UInt8→Bool=>[(0,uPt b),(1,uPt t),(44,uPt br2)]) (fun dn1=>[qAr br2 mc (kV (fun _=>none) x (chV id dp)) dn1,cells b [.int .i32 1,.int .u32 0,.int .i64 (n:Nat),pv p,.map (some mb)] 132,cells t [uPt b,.int .i64 (n:Nat),pv p0,.map (some mr),.map (some mc),.bool dn] 156,fJ mr Fr,fJ mb (vsF L),ar A,R]) (fun dn1=>if dn1 x=true then 0 else 1) (fun _=>True) (fun _=>false) trivial ⟨O,O,O,trivial⟩ uI ?_;rintro done2 -;refine iP (fF ?_);apply jW O O;apply qHx O uK;rotate_left
 ·intro k v hk hdn;obtain⟨rfl,rfl⟩:=hFc k v hk;refine dZ (aT O O) O O ?_;refine jX (eX (iP ?_));refine qHs O ?_;refine qCt (eX (sW (iP (fF ?_))));apply dZ
  ·exact qJs O uK
  ·rfl
  ·rfl
  refine qWp (fun _ h=>fG (fun _ x=>qOl x) h) ?_;refine dZ (aT O O) O O ?_;refine dZ (aC O) O O ?_;refine jX (eX ?_);refine iP ?_;refine qCs ([cells b [.int .i32 1,.int .u32 0,.int .i64 (n:Nat),pv p,.map (some mb)] 132,cells t [uPt b,.int .i64 (n:Nat),pv p0,.map (some mr),.map (some mc),.bool dn] 156,fJ mb (vsF L)]) ?_ ?_
  ·exact uI
  apply eZ 0 O
  ·exact aB O
  ·with_reducible (repeat(first |exact dY|apply aG|apply aH))
  ·kernel_rfl
  ·rfl
  apply eZ 1 O
  ·exact bA O
  ·with_reducible (repeat(first |exact dY|apply aG|apply aH))
  ·kernel_rfl
  ·rfl
  apply eZ 2 O
  ·exact uBf O
  ·with_reducible (repeat(first |exact dY|apply aG|apply aH))
  ·kernel_rfl
  ·rfl
  apply eZ 3 O
  ·(apply aO rfl (hE.t rfl) rfl;(repeat(first |rfl|assumption|constructor));done)
  ·with_reducible (repeat(first |exact dY|apply aG|apply aH))
  ·kernel_rfl
  ·rfl
  apply eZ 4 O
  ·exact aB O
  ·with_reducible (repeat(first |exact dY|apply aG|apply aH))
  ·kernel_rfl
  ·rfl
  apply eZ 5 O
  ·exact qZx hm4 hm2 hm3 O O uK hvx
  ·with_reducible (repeat(first |exact dY|apply aG|apply aH))
  ·kernel_rfl
  ·rfl
  apply eZ 6 O
  ·exact aB O
  ·with_reducible (repeat(first |exact dY|apply aG|apply aH))
  ·kernel_rfl
  ·rfl
  apply eZ 7 O
  ·exact bA O
  ·with_reducible (repeat(first |exact dY|apply aG|apply aH))
  ·kernel_rfl
  ·rfl
  apply eZ 8 O
  ·exact uBf O
  ·with_reducible (repeat(first |exact dY|apply aG|apply aH))
  ·kernel_rfl
  ·rfl
  apply eZ 9 O
  ·exact uBf O
  ·with_reducible (repeat(first |exact dY|apply aG|apply aH))
  ·kernel_rfl
  ·rfl
  apply eZ 10 O
  ·(apply aO rfl (hE.t rfl) rfl;(repeat(first |rfl|assumption|constructor));done)
  ·with_reducible (repeat(first |exact dY|apply aG|apply aH))
  ·kernel_rfl
  ·rfl
  apply eZ 11 O
  ·exact y_gt O O
  ·with_reducible (repeat(first |exact dY|apply aG|apply aH))
  ·kernel_rfl
  ·rfl
  refine qOh oK ?_;refine eX ?_;refine qQa O (fun c2=>?_) (fun c2=>?_)
  ·exfalso;omega
  refine qCt (tY ?_);refine qAt (ι:=List UInt8→Bool) (j:=fun x=>x==k||done2 x) trivial (by simp[hdn]) ⟨rfl,rfl,rfl,trivial⟩ uI
 intro hall;refine dZ (aT O O) O O ?_;refine jX (eX (iP ?_));refine xN O ?_;clear hall;refine qLe (cK (p:=qAr br2 mc (kV (fun _=>none) x (chV id dp)) done2) (p':=fJ mc (kV (fun _=>none) x (chV id dp))) uK (fun k h=>qIq h)) ?_;refine qWf (lH (lH (rD (eX (iP (iP (fF ?_)))))));refine dZ (aB O) O O ?_;refine dZ (bA O) O O ?_;refine dZ (uBf O) O O ?_;apply dZ
 ·(apply aO rfl (hE.t rfl) rfl;(repeat(first |rfl|assumption|constructor));done)
 ·rfl
 ·rfl
 refine dZ (y_eq_map (k:=9) (e:=3) O (by rw[hE.P];kernel_rfl)) O O ?_;refine jX (eX ?_);refine xN O ?_;refine qCt (eX ?_);refine iP ?_;refine qCs ([cells b [.int .i32 1,.int .u32 0,.int .i64 (n:Nat),pv p,.map (some mb)] 132,cells t [uPt b,.int .i64 (n:Nat),pv p0,.map (some mr),.map (some mc),.bool dn] 156]) ?_ ?_
 ·exact uI
 have hcast:((n:Nat):Int)+1=((n+1:Nat):Int):=oO;apply eZ 0 O
 ·exact aB O
 ·with_reducible (repeat(first |exact dY|apply aG|apply aH))
 ·kernel_rfl
 ·rfl
 apply eZ 1 O
 ·exact bA O
 ·with_reducible (repeat(first |exact dY|apply aG|apply aH))
 ·kernel_rfl
 ·rfl
 apply eZ 2 O
 ·exact uBf O
 ·with_reducible (repeat(first |exact dY|apply aG|apply aH))
 ·kernel_rfl
 ·rfl
 apply eZ 3 O
 ·exact uBf O
 ·with_reducible (repeat(first |exact dY|apply aG|apply aH))
 ·kernel_rfl
 ·rfl
 apply eZ 4 O
 ·(apply aO rfl (hE.t rfl) rfl;(repeat(first |rfl|assumption|constructor));done)
 ·with_reducible (repeat(first |exact dY|apply aG|apply aH))
 ·kernel_rfl
 ·rfl
 apply eZ 5 O
 ·exact uAa O O
 ·with_reducible (repeat(first |exact dY|apply aG|apply aH))
 ·kernel_rfl
 ·rfl
 apply eZ 6 O
 ·exact aB O
 ·with_reducible (repeat(first |exact dY|apply aG|apply aH))
 ·kernel_rfl
 ·rfl
 apply eZ 7 O
 ·exact bA O
 ·with_reducible (repeat(first |exact dY|apply aG|apply aH))
 ·kernel_rfl
 ·rfl
 apply eZ 8 O
 ·exact uBf O
 ·with_reducible (repeat(first |exact dY|apply aG|apply aH))
 ·kernel_rfl
 ·rfl
 apply eZ 9 O
 ·exact uBf O
 ·with_reducible (repeat(first |exact dY|apply aG|apply aH))
 ·kernel_rfl
 ·rfl
 apply eZ 10 O
 ·(apply bV rfl (hE.t rfl) rfl;(repeat(first |rfl|assumption|constructor));done)
 ·with_reducible (repeat(first |exact dY|apply aG|apply aH))
 ·kernel_rfl
 ·rfl
 apply eZ 11 O
 ·(first |exact jK (hE.t rfl) rfl rfl|exact qJr (hE.t rfl) rfl rfl)
 ·with_reducible (repeat(first |exact dY|apply aG|apply aH))
 ·kernel_rfl
 ·rfl
 apply qQm 12 O oK O O;refine cZ (hE.t O) (fun b8=>?_);refine uE ?_;apply qQm 13 O oK O O;(first |(apply bL rfl rfl (hE.t rfl) rfl;(focus((repeat constructor);done));(focus rfl);(focus(exact bi rfl)))|(apply aS rfl rfl (hE.t rfl) rfl;(focus((repeat constructor);done));(focus rfl);(focus(first |omega |(simp only[bP,aN,av,di];omega)))))
 refine uE ?_;refine qOh oK ?_;refine eX (iP (iP (fF ?_)));refine dZ (aB O) O O ?_;refine dZ (bA O) O O ?_;refine dZ (uBf O) O O ?_;apply dZ
 ·(apply aO rfl (hE.t rfl) rfl;(repeat(first |rfl|assumption|constructor));done)
 ·rfl
 ·rfl
 rw[hcast];apply jW O O;apply qDb hm1 O uK;intro br3;refine jX (eX (sW ?_))
 refine qWg (fun x:CvG=>[(0,uPt b),(1,uPt t),(8,uPt b8),(87,uPt br3)]) (fun g=>[qAr br3 mc (kV (fun _=>none) x (chV id dp)) g.dn,cells b [.int .i32 1,.int .u32 0,.int .i64 (n:Nat),pv p,.map (some mb)] 132,cells t [uPt b,.int .i64 (n:Nat),pv p0,.map (some mr),.map (some mc),.bool dn] 156,cells b8 [.int .i64 ((n+1:Nat):Int),pv g.q] 130,fJ mr Fr,fJ mb (vsF g.L),ar (A++g.B),R]) (fun g=>if g.dn x=true then 0 else 1) (fun g=>(g.dn x=false∧g.B=[]∧g.q=p∧g.L=L)∨(g.dn x=true∧At (A++g.B) (chT T x id dp) g.q∧g.L=pu L x (n+1))) ⟨fun _=>false,[],p,L⟩ (.inl ⟨O,O,O,O⟩) ⟨O,O,O,O,trivial⟩ (by
  simp only[aj];(apply ent;(repeat constructor);done)) ?_
 rintro⟨done3,B,q,L3⟩hok;simp only at hok ⊢;refine iP (fF ?_);apply jW O O;apply qHx O uK;rotate_left
 ·intro k v hk hdn;obtain⟨rfl,rfl⟩:=hFc k v hk
  obtain⟨rfl,rfl,rfl⟩:[]=B∧p=q∧L=L3:=by
   rcases hok with h| h
   ·exact⟨h.2.1.symm,h.2.2.1.symm,h.2.2.2.symm⟩
   rw[hdn]at h;cases h.1
  rw[aj];refine dZ (aT O O) O O ?_;refine jX (eX (iP ?_));refine qHs O ?_;refine qCt (eX (sW (iP (fF ?_))));apply dZ
  ·exact qJs O uK
  ·rfl
  ·rfl
  refine qWp (fun _ h=>fG (fun _ x=>qOl x) h) ?_;unfold chV;refine dZ (aT O O) O O ?_;refine dZ (aT O O) O O ?_;apply jW O O;refine cZ (hE.t O) (fun b10=>?_);refine dZ (aC O) O O ?_;apply jW O O;(first |(apply bL rfl rfl (hE.t rfl) rfl;(focus((repeat constructor);done));(focus rfl);(focus(exact bi rfl)))|(apply aS rfl rfl (hE.t rfl) rfl;(focus((repeat constructor);done));(focus rfl);(focus(first |omega |(simp only[bP,aN,av,di];omega)))))
  refine jX (eX (iP (iP (fF ?_))));refine dZ (uBf O) O O ?_;apply dZ
  ·(apply aO rfl (hE.t rfl) rfl;(repeat(first |rfl|assumption|constructor));done)
  ·rfl
  ·rfl
  refine jX (eX ?_);refine i_cond_b O (fun c4=>?_) (fun c4=>?_)
  ·subst c4;refine fF ?_;refine dZ (uBf O) O O ?_;apply dZ
   ·(apply bV rfl (hE.t rfl) rfl;(repeat(first |rfl|assumption|constructor));done)
   ·rfl
   ·rfl
   refine dZ (aB O) O O ?_;apply jW O O;refine uC (ct_pDrop (k:=k) hE h oO (hd O)) O ?_;rintro _ _⟨B,q,rfl,hq,rfl⟩;simp only[uV,uW];refine dZ (uBf O) O O ?_;apply jW O O;(first |(apply bL rfl rfl (hE.t rfl) rfl;(focus((repeat constructor);done));(focus rfl);(focus(exact bi rfl)))|(apply aS rfl rfl (hE.t rfl) rfl;(focus((repeat constructor);done));(focus rfl);(focus(first |omega |(simp only[bP,aN,av,di];omega)))))
   refine jX (eX ?_);refine qCs ([cells b [.int .i32 1,.int .u32 0,.int .i64 (n:Nat),pv p,.map (some mb)] 132,cells b8 [.int .i64 ((n+1:Nat):Int),pv q] 130]) ?_ ?_
   ·exact uI
   apply eZ 0 O
   ·exact aB O
   ·with_reducible (repeat(first |exact dY|apply aG|apply aH))
   ·kernel_rfl
   ·rfl
   apply eZ 1 O
   ·exact bA O
   ·with_reducible (repeat(first |exact dY|apply aG|apply aH))
   ·kernel_rfl
   ·rfl
   apply eZ 2 O
   ·exact uBf O
   ·with_reducible (repeat(first |exact dY|apply aG|apply aH))
   ·kernel_rfl
   ·rfl
   apply eZ 3 O
   ·(apply aO rfl (hE.t rfl) rfl;(repeat(first |rfl|assumption|constructor));done)
   ·with_reducible (repeat(first |exact dY|apply aG|apply aH))
   ·kernel_rfl
   ·rfl
   apply eZ 4 O
   ·exact aB O
   ·with_reducible (repeat(first |exact dY|apply aG|apply aH))
   ·kernel_rfl
   ·rfl
   apply eZ 5 O
   ·exact uBf O
   ·with_reducible (repeat(first |exact dY|apply aG|apply aH))
   ·kernel_rfl
   ·rfl
   apply eZ 6 O
   ·(apply aO rfl (hE.t rfl) rfl;(repeat(first |rfl|assumption|constructor));done)
   ·with_reducible (repeat(first |exact dY|apply aG|apply aH))
   ·kernel_rfl
   ·rfl
   apply qQm 7 O oK O O;apply qR (kt:=9) (et:=3) (by rw[hE.P];kernel_rfl) (by rw[hE.P];kernel_rfl) O O O
   ·exact uK
   refine uE ?_;refine qOh oK ?_;refine tY ?_;rw[qZl];refine qAt (ι:=CvG) (j:=⟨fun x=>x==k||done3 x,B,q,pu L k (n+1)⟩) (.inr ⟨by simp,hq,rfl⟩) (by simp[hdn]) ⟨rfl,rfl,rfl,rfl,trivial⟩ uI
  subst c4;refine fF ?_;refine dZ (uBf O) O O ?_;apply dZ
  ·(apply bV rfl (hE.t rfl) rfl;(repeat(first |rfl|assumption|constructor));done)
  ·rfl
  ·rfl
  refine dZ (aB O) O O ?_;refine dZ (uBf O) O O ?_;apply dZ
  ·(apply aO rfl (hE.t rfl) rfl;(repeat(first |rfl|assumption|constructor));done)
  ·rfl
  ·rfl
  apply jW O O;refine uC (qUz (k:=k) (v:=id) hE h oO) O ?_;rintro _ _⟨B,q,rfl,hq,rfl⟩;simp only[uV,uW];refine dZ (uBf O) O O ?_;apply jW O O;(first |(apply bL rfl rfl (hE.t rfl) rfl;(focus((repeat constructor);done));(focus rfl);(focus(exact bi rfl)))|(apply aS rfl rfl (hE.t rfl) rfl;(focus((repeat constructor);done));(focus rfl);(focus(first |omega |(simp only[bP,aN,av,di];omega)))))
  refine jX (eX ?_);refine qCs ([cells b [.int .i32 1,.int .u32 0,.int .i64 (n:Nat),pv p,.map (some mb)] 132,cells b8 [.int .i64 ((n+1:Nat):Int),pv q] 130]) ?_ ?_
  ·exact uI
  apply eZ 0 O
  ·exact aB O
  ·with_reducible (repeat(first |exact dY|apply aG|apply aH))
  ·kernel_rfl
  ·rfl
  apply eZ 1 O
  ·exact bA O
  ·with_reducible (repeat(first |exact dY|apply aG|apply aH))
  ·kernel_rfl
  ·rfl
  apply eZ 2 O
  ·exact uBf O
  ·with_reducible (repeat(first |exact dY|apply aG|apply aH))
  ·kernel_rfl
  ·rfl
  apply eZ 3 O
  ·(apply aO rfl (hE.t rfl) rfl;(repeat(first |rfl|assumption|constructor));done)
  ·with_reducible (repeat(first |exact dY|apply aG|apply aH))
  ·kernel_rfl
  ·rfl
  apply eZ 4 O
  ·exact aB O
  ·with_reducible (repeat(first |exact dY|apply aG|apply aH))
  ·kernel_rfl
  ·rfl
  apply eZ 5 O
  ·exact uBf O
  ·with_reducible (repeat(first |exact dY|apply aG|apply aH))
  ·kernel_rfl
  ·rfl
  apply eZ 6 O
  ·(apply aO rfl (hE.t rfl) rfl;(repeat(first |rfl|assumption|constructor));done)
  ·with_reducible (repeat(first |exact dY|apply aG|apply aH))
  ·kernel_rfl
  ·rfl
  apply qQm 7 O oK O O;apply qR (kt:=9) (et:=3) (by rw[hE.P];kernel_rfl) (by rw[hE.P];kernel_rfl) O O O
  ·exact uK
  refine uE ?_;refine qOh oK ?_;refine tY ?_;rw[qZl];refine qAt (ι:=CvG) (j:=⟨fun x=>x==k||done3 x,B,q,pu L k (n+1)⟩) (.inr ⟨by simp,hq,rfl⟩) (by simp[hdn]) ⟨rfl,rfl,rfl,rfl,trivial⟩ uI
 intro hall
 obtain⟨hdn,hq,rfl⟩:done3 x=true∧At (A++B) (chT T x id dp) q∧L3=pu L x (n+1):=by
  rcases hok with h| h
  ·have:=hall x (chV id dp) (by unfold kV;rw[if_pos rfl]);rw[h.1]at this;cases this
  exact h
 refine dZ (aT O O) O O ?_;refine jX (eX (iP ?_));refine xN O ?_;clear hall;refine qLe (cK (p:=qAr br3 mc (kV (fun _=>none) x (chV id dp)) done3) (p':=fJ mc (kV (fun _=>none) x (chV id dp))) uK (fun k h=>qIq h)) ?_;refine qWf (lH (lH (rD (eX (iP (fF ?_))))));refine dZ (aB O) O O ?_;apply dZ
 ·(apply bV rfl (hE.t rfl) rfl;(repeat(first |rfl|assumption|constructor));done)
 ·rfl
 ·rfl
 refine dZ (bA O) O O ?_;refine dZ (uBf O) O O ?_;apply jW O O;(first |(apply bL rfl rfl (hE.t rfl) rfl;(focus((repeat constructor);done));(focus rfl);(focus(exact bi rfl)))|(apply aS rfl rfl (hE.t rfl) rfl;(focus((repeat constructor);done));(focus rfl);(focus(first |omega |(simp only[bP,aN,av,di];omega)))))
 refine jX (eX (iP (fF ?_)));refine dZ (uBf O) O O ?_;apply dZ
 ·(apply aO rfl (hE.t rfl) rfl;(repeat(first |rfl|assumption|constructor));done)
 ·rfl
 ·rfl
 refine dZ (aC O) O O ?_;refine dZ (aC O) O O ?_;refine jX (eX (qWi ?_));refine qPf (hE.f oK) (qBo hE) uK (Qs:=[cells b [.int .i32 0,.int .u32 0,.int .i64 ((n+1):Nat),pv q,.map (some mb)] 132,cells t [uPt b,.int .i64 (n:Nat),pv p0,.map (some mr),.map (some mc),.bool dn] 156,fJ mr Fr,fJ mc (kV (fun _=>none) x (chV id dp)),fJ mb (vsF (pu L x (n+1))),ar (A++B)]) (vs:=[.int .i64 ((n+1:Nat):Int),.nilIface]) O ?_ ?_ ?_
 ·simp only[uV,uW];(apply Rs.tmp rfl;apply Rs.tmp rfl;exact Rs.nil)
 ·exact⟨B,q,O,hq,O⟩
 simp only[uV,uW];exact uI
def cnt_none:cntS (fun _=>none) 0:=cntS.zero fun _=>rfl
def cnt_one {x:List UInt8}{v:Value}:cntS (kV (fun _=>none) x v) 1:=by
 refine⟨[(x,v)],by simp,fun k=>?_,rfl⟩;unfold kV;by_cases h:k=x
 ·subst h;simp
 simp[h]
def qCa (hE:Seat E){b t n mr mc:Nat}{p:Option Nat}:Ct E 21 [uPt t] [cells t [uPt b,.int .i64 (n:Nat),pv p,.map (some mr),.map (some mc),.bool false] 156,fJ mc (fun _=>none)] (fun v Q=>v= .tuple #[.int .i64 (n:Nat),.nilIface]∧Q=[cells t [uPt b,.int .i64 (n:Nat),pv p,.map (some mr),.map (some mc),.bool true] 156,fJ mc (fun _=>none)]):=by
 have hcn:=cnt_none;refine bO (hE.fn Tryz.func21) O O O (fun R=>?_);simp only[dX,uV,uW];refine gg55 ?_;refine uB (qGv (kt:=9) (et:=152) (by rw[hE.P];kernel_rfl) O uK (by assumption)) ?_;refine gg17 ?_;exact uZ O (.tmp O (.tmp O .nil)) ⟨O,O⟩
def yV (hE:Seat E){A:Ar}{T:Tre}{b t n mb mr mc id:Nat}{p p0:Option Nat}{dp:Bool}{x:Ky}{L:Ky→Option Nat}{Fr:List UInt8→Option Value}(h:At A T p)(hs:sz T≤90000)(hn:n≤1000000)(hL:∀k v,L k=some v→v≤n) (hF:∀k,Fr k≠none→k=x) (hd:dp=true→fnd T x=none→drop T x=T):
  Ct E 21 [uPt t] [cells b [.int .i32 0,.int .u32 0,.int .i64 (n:Nat),pv p,.map (some mb)] 132,cells t [uPt b,.int .i64 (n:Nat),pv p0,.map (some mr),.map (some mc),.bool false] 156,fJ mr Fr,fJ mc (kV (fun _=>none) x (chV id dp)),fJ mb (vsF L),ar A]
   (fun v Q=>∃B q,v= .tuple #[.int .i64 ((n+1:Nat):Int),.nilIface]∧At (A++B) (chT T x id dp) q∧Q=[cells b [.int .i32 0,.int .u32 0,.int .i64 ((n+1):Nat),pv q,.map (some mb)] 132,cells t [uPt b,.int .i64 (n:Nat),pv p0,.map (some mr),.map (some mc),.bool true] 156,fJ mr Fr,fJ mc (kV (fun _=>none) x (chV id dp)),fJ mb (vsF (pu L x (n+1))),ar (A++B)]):=by
 have hcn:=cnt_one (x:=x) (v:=chV id dp);refine bO (hE.fn Tryz.func21) O O O (fun R=>?_);simp only[dX,uV,uW];refine gg55 ?_;refine uB (qGv (kt:=9) (et:=152) (by rw[hE.P];kernel_rfl) O uK (by assumption)) ?_;refine gg13 ?_;refine uX (qNn hE h hs hn hL hF hd) O ?_;rintro _ _⟨B,q,rfl,hq,rfl⟩;simp only[uV,uW];refine gg7 ?_;exact uZ O (.tmp O (.tmp O .nil)) ⟨B,q,O,hq,O⟩
end
section
open Go Go.RowKit Sl Eg Pm
variable {E:Env}
def ar_new {H:List HP}:∀k,dU H k→dU (ar []::H) k:=fun k h=>⟨fun _=>none,k,fun _=> .inl rfl,by funext b;simp[join],⟨[],trivial⟩,h⟩
def mkT (l:List (Ky×Nat)):Tre:=l.foldl (fun T p=>put T p.1 p.2) .nil
def qIb (l:List (Ky×Nat))(p:Ky×Nat):mkT (l++[p])=put (mkT l) p.1 p.2:=by
 unfold mkT;rw[oo];rfl
def mkT_sz (l:List (Ky×Nat)):sz (mkT l)≤l.length:=by
 have key:∀(l:List (Ky×Nat))(T:Tre),sz (l.foldl (fun T p=>put T p.1 p.2) T)≤sz T+l.length:=fun l=>by
  induction l with
  |nil=>intro T;simp
  |cons p l ih=>
   intro T
   have h1:=ih (put T p.1 p.2)
   have h2:=qMu p.1 p.2 T
   simp only[sj,av]
   omega
 have:=key l .nil;rw[show sz Tre.nil=0 from rfl,jg]at this;exact this
def lsT (l:List (Ky×Nat)):Ky→Option Nat:=fun k=>(l.find? (fun p=>p.1==k)).map (·.2)
def qXe:∀(l:List (Ky×Nat)),(l.map (·.1)).Nodup→Rep (mkT l) (lsT l):=fun l=>by
 have key:∀(n:Nat)(l:List (Ky×Nat)),l.length=n→(l.map (·.1)).Nodup→Rep (mkT l) (lsT l):=fun n=>by
  induction n with
  |zero=>
   intro l h _
   obtain rfl:=ze.1 h
   exact Rep.nil
  |succ n ih=>
   intro l h hn
   obtain⟨l',p,rfl⟩:∃l' p,l=l'++[p]:=⟨l.dropLast,l.getLast (by intro e;subst e;cases h),(List.dropLast_concat_getLast _).symm⟩
   rw[fw,oH]at hn
   have h1:=ih l' (by simpa using h) hn.1
   rw[qIb]
   have h2:=h1.put p.1 p.2
   have e:pu (lsT l') p.1 p.2=lsT (l'++[p]):=by
    funext k;unfold pu lsT;rw[List.find?_append];by_cases hk:k=p.1
    ·subst hk
     have hno:l'.find? (fun q=>q.1==p.1)=none:=by
      rw[List.find?_eq_none];intro q hq hqk;exact hn.2.2 q.1 (fq.2 ⟨q,hq,O⟩) p.1 (by simp) (by simpa using hqk)
     simp[hno]
    rw[if_neg hk];have hpk:(p.1==k)=false:=by simpa using fun e=>hk e.symm
    simp[hpk]
   rw[←e]
   exact h2
 exact key _ l O
structure NwG where
 i:Nat
 B:Ar
 q:Option Nat
def qVe (hE:Seat E){l:List (Ky×Nat)}{a:Option Addr}{c:Nat}(hl:l.length≤1000)(hv:∀p∈l,1≤p.1.length∧p.1.length≤32) (hn:(l.map (·.1)).Nodup):
  Ct E 13 [.slice a l.length c] [sl a c 105 2 l.length (nlC (nmI l))] (fun v Q=>∃(b mb:Nat)(A:Ar)(q:Option Nat),v= .tuple #[uPt b,.nilIface]∧At A (mkT l) q∧Q=[sl a c 105 2 l.length (nlC (nmI l)),cells b [.int .i32 0,.int .u32 0,.int .i64 (0:Nat),pv q,.map (some mb)] 132,fJ mb (fun _=>none),ar A]):=by
 refine eU (p:=sl a c 105 2 l.length (nlC (nmI l))) uK (fun _ h=>fun hpos=>fA h hpos) (fun hp=>?_);refine bO (hE.fn Tryz.func13) O O O (fun R=>?_);simp only[dX,uV,uW];refine gg8 ?_;refine uU ?_;refine zC (fun b9=>?_);refine gg1 ?_;refine uU ?_;refine gW O (fun b11=>?_);refine gg12 ?_;refine iY ar_new ?_;refine eQ (fun x:NwG=>[(4,uPt b11),(12,.slice a l.length c),(13,.int .i64 (l.length:Nat)),(14,.int .i64 (x.i:Nat))]) (fun x=>[cells b11 [.int .i32 0,.int .u32 0,.int .i64 (0:Nat),pv x.q,.map (some b9)] 132,fJ b9 (fun _=>none),ar x.B,sl a c 105 2 l.length (nlC (nmI l)),R]) (fun x=>l.length-x.i) (fun x=>x.i≤l.length∧At x.B (mkT (l.take x.i)) x.q) ⟨0,[],none⟩ ⟨au _,O⟩ ⟨O,O,O,O,trivial⟩ uI ?_;rintro⟨i,B,q⟩⟨hi,hat⟩;simp only at hi hat ⊢;refine gg6 ?_;refine bE O (fun h1=>?_) (fun h1=>?_)
 ·have hil:i<l.length:=oO;obtain⟨⟨k,w⟩,hk⟩:∃p,l[i]?=some p:=⟨_,ag hil⟩;obtain⟨hk1,hk2⟩:=hv _ (ay hk);have hrep:=qXe (l.take i) (by rw[qg];exact hn.sublist (List.take_sublist _ _));have hsz:=mkT_sz (l.take i);rw[jv]at hsz
  have hfn:fnd (mkT (l.take i)) k=none:=by
   rw[hrep.fnd];unfold lsT;rw[Option.map_eq_none_iff,List.find?_eq_none];intro p hpi he;obtain⟨j,hj⟩:=kg hpi;rw[mf]at hj;split at hj
   ·rename_i hji
    have e1:(l.map (·.1))[j]?=some p.1:=by rw[bq,hj];rfl
    have e2:(l.map (·.1))[i]?=some k:=by rw[bq,hk];rfl
    have he':p.1=k:=by simpa using he
    rw[he']at e1;have:=(List.getElem?_inj (by rw[ku];omega) hn).1 (e1.trans e2.symm);omega
   cases hj
  obtain⟨g,rfl⟩:=hp oO;obtain⟨f0,f1⟩:=qXh hk (0+((i:Nat):Int).toNat*2) oO;refine gg8 ?_;refine uU (cZ (hE.t O) (fun b6=>?_));refine gg8 ?_;refine uX (qKr hE hk1 hk2) O ?_;rintro _ _⟨rfl,rfl⟩;simp only[uV,uW];refine gg8 ?_;refine uH ([cells b11 [.int .i32 0,.int .u32 0,.int .i64 (0:Nat),pv q,.map (some b9)] 132,cells b6 [.string ⟨⟨k⟩⟩,.int .i64 (w:Nat)] 105]) ?_;refine gg7 ?_;apply dH 7 O oK O;refine uC (qUy (k:=k) hE hat) O ?_;rintro _ _⟨rfl,rfl⟩;rw[hfn];simp only[uV,uW];refine uE ?_;refine gg15 ?_;refine uN 14 ([cells b11 [.int .i32 0,.int .u32 0,.int .i64 (0:Nat),pv q,.map (some b9)] 132,cells b6 [.string ⟨⟨k⟩⟩,.int .i64 (w:Nat)] 105]) ?_;refine gg8 ?_;apply dG 8 O oK
  ·exact uBf O
  ·rfl
  apply dG 9 O oK
  ·(apply aO rfl (hE.t rfl) rfl;(repeat(first |rfl|assumption|constructor));done)
  ·rfl
  apply fI 10 O oK O;refine uC (qUz (k:=k) (v:=w) hE hat oO) O ?_;rintro _ _⟨B2,q2,rfl,hq2,rfl⟩;simp only[uV,uW];refine uE ?_;apply dG 11 O oK
  ·exact bA O
  ·rfl
  apply dG 12 O oK
  ·exact uBf O
  ·rfl
  apply dG 13 O oK
  ·exact uBf O
  ·rfl
  apply iH O oK oK O;(first |(apply bL rfl rfl (hE.t rfl) rfl;(focus((repeat constructor);done));(focus rfl);(focus(exact bi rfl)))|(apply aS rfl rfl (hE.t rfl) rfl;(focus((repeat constructor);done));(focus rfl);(focus(first |omega |(simp only[bP,aN,av,di];omega)))))
  refine gg6 ?_;have htk:l.take (i+1)=l.take i++[(k,w)]:=by rw[ic,hk];rfl
  refine bS (ι:=NwG) (j:=⟨i+1,B++B2,q2⟩) ⟨by simp only;omega,by simp only;rw[htk,qIb];exact hq2⟩ (by simp only;omega) ⟨rfl,rfl,rfl,bf some (bW (by simp only;omega)),trivial⟩ uI
 obtain rfl:i=l.length:=by omega
 rw[qa]at hat;refine gg13 ?_;exact uZ O (.tmp O (.tmp O .nil)) ⟨b11,b9,B,q,O,hat,O⟩
end
end Go.Proofs.YtejcjelmpbkcbaaGreatDoor
namespace Sl
open Go Go.RowKit
variable {E:Env}{n:Nat}{L:Fr}{H H':List HP}{Q:Exit→Act→World→Prop}{ro:Option Nat}{ds:List Deferred}
def qWh {ι:Type}{p:HP}{ps:ι→List HP}{c:Code}(ht:Take p H H')(h:∀k,p k→∃i,dU (ps i) k) (hw:∀i,WI E ro ds c Q n L (ps i++H')):WI E ro ds c Q n L H:=fun a w g=>by
 obtain⟨h1,h2,d,e,hp,hr⟩:=ht.out g.hp.hp;obtain⟨i,hi⟩:=h _ hp;exact hw i a w ⟨g.f,g.hp.os,g.hp.tape,g.hp.output,g.hp.size,g.hp.old,by rw[e];exact lK hi hr d⟩
def y_fieldA {S:List HP}{d:Option Nat}{ty:TypeId}{pos:String}{af:Array Edge}{gd:Option (Nat×Bool)}{x:Operand}{t:TypeId}{k fo fs_:Nat}{fs:List (Nat×Nat)}{sz:Nat}{zs cs us:List Value}(h:ev L x=some (.agg ⟨cs⟩))(ht:E.tab t=some ⟨.struct fs,sz,zs⟩)(hk:fs[k]?=some (fo,fs_)){ft:TypeId}{k':TK}{sz':Nat}{zs':List Value}
  (hft:∀gs g,E.P.underlying t=some (.struct gs)→gs[k]?=some g→g.type=ft) (htf:E.tab ft=some ⟨k',sz',zs'⟩) (hk':k'.agg=true) (hv:(cs.drop fo).take sz'=us):
  Yl E n L S ⟨d,.field t x k,ty,pos,af,gd⟩ (.agg ⟨us⟩):=fun a w g _=>by
 obtain⟨gs,f,j,hu,hg,ho,hj,hs,h0⟩:=zV ht hk;have:=hft gs f hu hg;subst this
 have e:(⟨cs⟩:Array Value).extract fo (fo+sz')=⟨us⟩:=by
  rw[←hv];simp[List.extract_eq_drop_take]
 simp[execOp,Instr.field,underlying,program,Sem.run,hu,hg,g.ev h,asAgg,part,lZ htf,sF htf,hk',ho,e];exact hv
end Sl
namespace Go.Proofs.YtejcjelmpbkcbaaGreatDoor
open Go Go.RowKit Sl Eg Pm
set_option maxRecDepth 10000
variable {E:Env}
def ct_pAll (hE:Seat E){p:Option Nat}:Ct E 56 [.agg #[pv p]] [] (fun v Q=>∃b,v= .func (.func 92) #[] ⟨[uPt b]⟩∧Q=[cells b [pv p] 128]):=by
 refine bO (hE.fn Tryz.func56) O O O (fun R=>?_);simp only[dX,uV,uW];refine gg2 ?_;refine uU ?_;refine gW O (fun b1=>?_);refine gg10 ?_;exact uZ O (.tmp O .nil) ⟨_,O,O⟩
def ct_pAll1 (hE:Seat E){A:Ar}{T:Tre}{p:Option Nat}{b l:Nat}{J:Nat→HP}(h:At A T p)(hy:∀k,k<sz T→Cy E l (kvA ((io T).getD k ([],0))) [J k] (fun v Q=>v= .bool true∧Q=[J (k+1)])):
  Ct E 92 [.func (.yield l) #[] #[],uPt b] [J 0,cells b [pv p] 128,ar A] (fun v Q=>Q=[J (sz T),cells b [pv p] 128,ar A]):=by
 have hy':∀k,k<sz T→Cy E l (kvA ((io T).getD k ([],0))) [J (0+k)] (fun v Q=>v= .bool true∧Q=[J (0+k+1)]):=fun k hk=>by rw[jg];exact hy k hk
 refine bO (hE.fn Tryz.func92) O O O (fun R=>?_);simp only[dX,uV,uW];refine gg4 ?_;refine uX (qHf hE h hy') O ?_;rintro _ _⟨rfl,rfl⟩;simp only[uV,uW];rw[jg (sz T)];refine gg1 ?_;refine yM (vs:=[]) [J (sz T),cells b [pv p] 128,ar A] O ?_ O ?_
 ·(exact Rs.nil)
 exact uI
def jL (b:Nat)(A:List (Ky×Nat))(k:Nat):HP:=fun h=>∃i:Option Addr×Nat,dU [cells b [.slice i.1 k i.2] 34,sl i.1 i.2 105 2 k (nlC (nmI (A.take k)))] h
def qPq (hE:Seat E){A:Ar}{T:Tre}{b n mb:Nat}{p:Option Nat}(h:At A T p)(hs:sz T≤1000):Ct E 15 [uPt b] [cells b [.int .i32 0,.int .u32 0,.int .i64 (n:Nat),pv p,.map (some mb)] 132,ar A]
  (fun v Q=>∃g c,v= .slice g (io T).length c∧Q=[cells b [.int .i32 0,.int .u32 0,.int .i64 (n:Nat),pv p,.map (some mb)] 132,ar A,sl g c 105 2 (io T).length (nlC (nmI (io T)))]):=by
 have hil:=vV T;refine qLc (hE.fn Tryz.func15) O O O (fun R=>?_);simp only[dX,uV,uW];refine iP (fF ?_);refine dZ (aC O) O O ?_;refine jX (eX (iP (iP (fF ?_))));refine dZ (aB O) O O ?_;apply dZ
 ·(first |exact qBl rfl (hE.t rfl)|exact qBk rfl (hE.t rfl))
 ·rfl
 ·rfl
 refine jX (eX ?_);refine xN O ?_;refine qCt (eX (iP (fF ?_)));apply jW O O;refine cZ (hE.t O) (fun b3=>?_);refine jX (eX (iP (iP (fF ?_))));refine dZ (aB O) O O ?_;apply jW O O;refine uC (qAc hE) O ?_;rintro _ _⟨rfl,rfl⟩;simp only[uV,uW]
 have hft:∀gs g,E.P.underlying 130=some (.struct gs)→gs[1]?=some g→g.type=128:=fun gs g h1 h2=>by
  rw[hE.P,Tryz.underlying130]at h1;cases h1
  cases h2
  rfl
 apply dZ
 ·exact y_fieldA O (hE.t O) O hft (hE.t O) O O
 ·rfl
 ·rfl
 apply jW O O;refine uC (ct_pAll hE) O ?_;rintro _ _⟨b1,rfl,rfl⟩;simp only[uV,uW];refine jX (eX (sW ?_));refine qLe (H':=jL b3 (io T) 0::[cells b1 [pv p] 128,cells b [.int .i32 0,.int .u32 0,.int .i64 (n:Nat),pv p,.map (some mb)] 132,ar A,R]) (fun k hk=>?_) ?_
 ·refine cO (gU (t:=105) (sz:=2)) (cO (pW (ps:=[cells b3 [.slice none 0 0] 34,sl none 0 105 2 0 (nlC (nmI ((io T).take 0)))]) (p:=jL b3 (io T) 0) uK (fun _ h=>⟨(none,0),h⟩)) ?_) k hk;exact uI
 refine i_range (sz T) (fun k=>kvA ((io T).getD k ([],0))) (fun k=>[jL b3 (io T) k]) [cells b1 [pv p] 128,ar A] (fun k=>[(3,uPt b3),(4,.string ⟨⟨((io T).getD k ([],0)).1⟩⟩),(5,.int .i64 (((io T).getD k ([],0)).2:Nat))]) O (hE.f oK) (by decide) (fun _=>O) uK (fun l J' hy=>ct_pAll1 hE h hy) ?_ ?_ ?_
 ·intro k l B hk;refine iP (fF ?_);refine dZ (aC O) O O ?_;refine jX (eX (fF ?_));refine dZ (aC O) O O ?_;refine jX ?_;exact ai_aend ⟨O,O,O,trivial⟩ uI
 ·intro k l B hk;obtain⟨pp,hpp⟩:∃pp,(io T)[k]?=some pp:=⟨_,ag oO⟩;have hgd:(io T).getD k ([],0)=pp:=by rw[fe,hpp];rfl
  simp only[hgd];refine qWh (p:=jL b3 (io T) k) (ps:=fun i:Option Addr×Nat=>[cells b3 [.slice i.1 k i.2] 34,sl i.1 i.2 105 2 k (nlC (nmI ((io T).take k)))]) uK (fun _ h=>h) ?_;rintro⟨sp,sc⟩;simp only[uV,uW];refine sW (fF ?_);apply dZ
  ·(apply aO rfl (hE.t rfl) rfl;(repeat(first |rfl|assumption|constructor));done)
  ·rfl
  ·rfl
  refine dZ (aB O) O O ?_;refine dZ (aB O) O O ?_;apply dZ
  ·(first |exact jK (hE.t rfl) rfl rfl|exact qJr (hE.t rfl) rfl rfl)
  ·rfl
  ·rfl
  apply jW O O;refine aU (hE.t O) (hE.t O) O O O (fun b18=>?_);apply jW O O;apply bU (hE.t O) (hE.t O) O O O
  ·exact uK
  ·exact uK
  ·rfl
  ·rfl
  ·omega
  ·omega
  ·(unfold maxLen;omega)
  intro g19 c19 n19 x19 hn19 hx19;apply jW O O;(first |(apply bL rfl rfl (hE.t rfl) rfl;(focus((repeat constructor);done));(focus rfl);(focus(exact bi rfl)))|(apply aS rfl rfl (hE.t rfl) rfl;(focus((repeat constructor);done));(focus rfl);(focus(first |omega |(simp only[bP,aN,av,di];omega)))))
  refine jX (tY ?_);obtain rfl:n19=k+1:=hn19;obtain rfl:x19=nlC (nmI ((io T).take (k+1))):=by rw[hx19,nmI_take hpp];rfl
  exact ai_bend (cO (pW (ps:=[cells b3 [.slice (some ⟨g19,0,none⟩) (k+1) c19] 34,sl (some ⟨g19,0,none⟩) c19 105 2 (k+1) (nlC (nmI ((io T).take (k+1))))]) (p:=jL b3 (io T) (k+1)) uK (fun _ h=>⟨(some ⟨g19,0,none⟩,c19),h⟩)) uI)
 intro D;simp only[uV,uW];refine tY (eX ?_);refine qWh (p:=jL b3 (io T) (sz T)) (ps:=fun i:Option Addr×Nat=>[cells b3 [.slice i.1 (sz T) i.2] 34,sl i.1 i.2 105 2 (sz T) (nlC (nmI ((io T).take (sz T))))]) uK (fun _ h=>h) ?_;rintro⟨sp,sc⟩;simp only[uV,uW];rw[bz (by omega:(io T).length≤sz T),←hil];refine iP (fF ?_);apply dZ
 ·(apply aO rfl (hE.t rfl) rfl;(repeat(first |rfl|assumption|constructor));done)
 ·rfl
 ·rfl
 refine dZ (aC O) O O ?_;refine jX (eX (qWi ?_));apply ai_ret_m
 ·rfl
 ·exact uK
 ·(apply Rs.tmp rfl;exact Rs.nil)
 ·exact⟨sp,sc,O,O⟩
 exact uI
