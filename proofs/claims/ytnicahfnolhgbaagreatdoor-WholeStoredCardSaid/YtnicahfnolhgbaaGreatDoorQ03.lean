import Derived.Test.YtnicahfnolhgbaaGreatDoorQ02
import Derived.Deep.DeepCutAuto
set_option linter.all false
set_option maxHeartbeats 1000000
namespace Go.Proofs.YtnicahfnolhgbaaGreatDoor
section
open Go Go.RowKit Eg
set_option maxRecDepth 100000

def vG (t:List UInt8)(w:World)(ht:t.length<=dC):
  Calls Tryz.prog 138 #[.agg #[.int .i64 (List.length (t):Nat),.int .i64 (gQ (t):Nat),.int .i64 (kQ (t):Nat),.int .i64 (kR (t):Nat),.int .u64 (CS (t):Nat),.int .u64 (fI (t):Nat)]] w fun e w'=>e= .returned (.bool true)/\Below w.heap.size w w':=by
 by_cases h:gQ t=0
 ·rw[h,wH h,Wn h];exact qKk _ _ w ht (pI t) (fun h0=>by rw[dw h0,yF])
 exact qKl _ _ _ _ _ w ht (pI t) oO (yR h).1 (yR h).2

def qFj (n1 l1 a1 b1 v1 s1 n2 l2 a2 b2 v2 s2 hd tl:Nat)(w:World)(h:n1+n2<=dC)
  (h1:∀w,n1<=dC->Calls Tryz.prog 138 #[.agg #[.int .i64 n1,.int .i64 l1,.int .i64 a1,.int .i64 b1,.int .u64 v1,.int .u64 s1]] w fun e w'=>e= .returned (.bool true)/\Below w.heap.size w w')
  (h2:∀w,n2<=dC->Calls Tryz.prog 138 #[.agg #[.int .i64 n2,.int .i64 l2,.int .i64 a2,.int .i64 b2,.int .u64 v2,.int .u64 s2]] w fun e w'=>e= .returned (.bool true)/\Below w.heap.size w w')
  (q1:l1<=n1) (q2:l2<=n2) (q3:a1<=n1) (q4:b1<=n1) (q5:a2<=n2) (q6:b2<=n2) (q7:v1<Cg) (q8:s1<Cg) (q9:v2<Cg) (hY:s2<Cg)
  (hQ:hd=if l1=0 then n1+a2 else a1) (hR:tl=if l2=0 then n2+b1 else b2):
  Calls Tryz.prog 132 #[.agg #[.int .i64 n1,.int .i64 l1,.int .i64 a1,.int .i64 b1,.int .u64 v1,.int .u64 s1],.agg #[.int .i64 n2,.int .i64 l2,.int .i64 a2,.int .i64 b2,.int .u64 v2,.int .u64 s2]] w fun e w'=>
   e= .returned (.tuple #[.agg #[.int .i64 ((n1+n2:Nat):Int),.int .i64 ((l1+l2:Nat):Int),.int .i64 hd,.int .i64 tl,.int .u64 (Dc (CJ v1 s2) v2:Nat),.int .u64 (CJ s1 s2:Nat)],.nilIface])/\Below w.heap.size w w':=by
 have hx:=vZ n1 n2;have hZ:IntKind.i64.wrap ((l1:Int)+l2)=(l1:Int)+l2:=IntWalk.i64_in _ (by unfold dC at h;omega);have H1:=Lib.hid h1;have H2:=Lib.hid h2;have HX:=Lib.hid hx;have H:=Lib.hid h;have HHD:=Lib.hid hQ;have HTL:=Lib.hid hR;have hn:n1+n2<=1152921504606846976:=h;clear h1 h2 hx h hQ hR;go_enter Tryz.func132,Tryz.ntmps132
 go_wp2_with fail
 refine(H1.out _ (by unfold dC;omega)).mono ?_;rintro e w1⟨rfl,hH⟩;have c1:CQ w1 w.heap.size [.int .i64 n1,.int .i64 l1,.int .i64 a1,.int .i64 b1,.int .u64 v1,.int .u64 s1] 66:=(((CQ.new_at _ O _ _).alloc _).alloc _).below hH (by simp <;>omega);have c2:CQ w1 (w.heap.size+1) [.int .i64 n2,.int .i64 l2,.int .i64 a2,.int .i64 b2,.int .u64 v2,.int .u64 s2] 66:=((CQ.new_at _ BF _ _).alloc _).below hH (by simp <;>omega);have c3:CQ w1 (w.heap.size+1+1) [.int .i64 0,.int .i64 0,.int .i64 0,.int .i64 0,.int .u64 0,.int .u64 0] 66:=(CQ.new_at _ BF _ _).below hH BF;have hS:Below w.heap.size w w1:=Below.trans (by go_grown) (hH.mono (by simp <;>omega));clear hH;have hD:=c2.cell 0 O;have hE:=c2.cell 1 O;have hF:=c2.cell 2 O;have hJ:=c2.cell 3 O;have hK:=c2.cell 4 O;have hL:=c2.cell 5 O;go_wp2_with fail
 refine(H2.out _ (by unfold dC;omega)).mono ?_;rintro e w2⟨rfl,hI⟩;have ha:=c3.lt;have d1:=c1.below hI oO;have d2:=c2.below hI oO;have d3:=c3.below hI oO;have hb:=d3.lt;have hM:=hS.trans (hI.mono oO);clear hI c1 c2 c3 hS hD hE hF hJ hK hL;have hN:=d1.cell 0 O;have hO:=d1.cell 1 O;have hT:=d1.cell 2 O;have hP:=d1.cell 3 O;have hU:=d1.cell 4 O;have hV:=d1.cell 5 O;have hD:=d2.cell 0 O;have hE:=d2.cell 1 O;have hF:=d2.cell 2 O;have hJ:=d2.cell 3 O;have hK:=d2.cell 4 O;have hL:=d2.cell 5 O;go_wp2_with fail
 refine(HX.out _ H.out).mono ?_;rintro e w'⟨rfl,rfl⟩;go_wp2_with fail
 have n1':¬w2.heap.size=w.heap.size:=oO;have n2':¬w2.heap.size=w.heap.size+1:=oO;have n3':¬w.heap.size=w2.heap.size:=oO;have n4':¬w.heap.size+1=w2.heap.size:=oO
 go_region_held3 (fun w'=>(w'.cell? ⟨w.heap.size,1,none⟩=some (.int .i64 l1)/\w'.cell? ⟨w.heap.size,2,none⟩=some (.int .i64 a1)/\w'.cell? ⟨w.heap.size,4,none⟩=some (.int .u64 v1)/\w'.cell? ⟨w.heap.size,5,none⟩=some (.int .u64 s1))/\
   (w'.cell? ⟨w.heap.size+1,1,none⟩=some (.int .i64 l2)/\w'.cell? ⟨w.heap.size+1,3,none⟩=some (.int .i64 b2)/\w'.cell? ⟨w.heap.size+1,4,none⟩=some (.int .u64 v2)/\w'.cell? ⟨w.heap.size+1,5,none⟩=some (.int .u64 s2))/\w.heap.size+1+1<w'.heap.size) (first |(go_keep;done)|(go_keep;omega))
  (first |(go_at_call 154;refine(rJ _ _ _ _ _ q7 q8 q9 hY).mono ?_;rintro e w3⟨rfl,hA⟩;obtain⟨hB,hW⟩:=QR hA;have g1:=hB w.heap.size 1 (by simp at*;omega);have g2:=hB w.heap.size 2 (by simp at*;omega);have g3:=hB w.heap.size 4 (by simp at*;omega);have g4:=hB w.heap.size 5 (by simp at*;omega);have g5:=hB (w.heap.size+1) 1 (by simp at*;omega);have g6:=hB (w.heap.size+1) 3 (by simp at*;omega);have g7:=hB (w.heap.size+1) 4 (by simp at*;omega);have g8:=hB (w.heap.size+1) 5 (by simp at*;omega);have hc:w.heap.size+1+1<w3.heap.size:=mi (by simp at*;omega) hA.size))
 ·simp only[Exit.then];refine tH (R:=(fun wx=>CQ wx w3.heap.size [.int .i64 ((n1:Int)+n2),.int .i64 ((l1:Int)+l2),.int .i64 a1,.int .i64 b2,.int .u64 (Dc (CJ v1 s2) v2:Nat),.int .u64 (CJ s1 s2:Nat)] 66/\CQ wx w.heap.size [.int .i64 n1,.int .i64 l1,.int .i64 a1,.int .i64 b1,.int .u64 v1,.int .u64 s1] 66/\CQ wx (w.heap.size+1) [.int .i64 n2,.int .i64 l2,.int .i64 a2,.int .i64 b2,.int .u64 v2,.int .u64 s2] 66/\CQ wx (w.heap.size+1+1) [.int .i64 0,.int .i64 0,.int .i64 0,.int .i64 0,.int .u64 0,.int .u64 0] 66/\Below w.heap.size w wx)) _ ⟨CQ.new_at w3 O _ _,(d1.drew.below hA (by simp;omega)).alloc _,(d2.drew.below hA (by simp;omega)).alloc _,(d3.drew.below hA (by simp;omega)).alloc _,?_⟩ ?_
  ·refine Below.alloc ?_ oO _;exact(hM.drew).trans (hA.mono (by simp;omega))
  rintro wx⟨x1,x2,x3,x4,hC⟩;have hG:w.heap.size+1+1<w3.heap.size:=oO;clear d1 d2 d3 hM hN hO hT hP hU hV hD hE hF hJ hK hL hA hB hW g1 g2 g3 g4 g5 g6 g7 g8 n1' n2' n3' n4';generalize w3.heap.size=G at*;have hN:=x2.cell 0 O;have hO:=x2.cell 1 O;have hP:=x2.cell 3 O;have hD:=x3.cell 0 O;have hE:=x3.cell 1 O;have hF:=x3.cell 2 O;have j0:=x1.cell 0 O;have j1:=x1.cell 1 O;have j2:=x1.cell 2 O;have j3:=x1.cell 3 O;have j4:=x1.cell 4 O;have j5:=x1.cell 5 O;have f2:=x1.frozen 2;have f3:=x1.frozen 3;have r0:=x4.cell 0 O;have r1:=x4.cell 1 O;have r2:=x4.cell 2 O;have r3:=x4.cell 3 O;have r4:=x4.cell 4 O;have r5:=x4.cell 5 O;have t0:=x4.frozen 0;have t1:=x4.frozen 1;have t2:=x4.frozen 2;have t3:=x4.frozen 3;have t4:=x4.frozen 4;have t5:=x4.frozen 5;have y1:¬G=w.heap.size:=oO;have y2:¬G=w.heap.size+1:=oO;have y3:¬G=w.heap.size+1+1:=oO;have y4:¬w.heap.size=G:=oO;have y5:¬w.heap.size+1=G:=oO;have y6:¬w.heap.size+1+1=G:=oO;clear x1 x2 x3 x4;by_cases z1:l1=0
  ·obtain rfl:=z1;by_cases z2:l2=0
   ·obtain rfl:=z2;obtain rfl:=HHD.out.trans (if_pos rfl);obtain rfl:=HTL.out.trans (if_pos rfl);go_wp2_with fail
    refine bodyPost_ret (v:= .tuple #[.agg #[.int .i64 ((n1+n2:Nat):Int),.int .i64 ((0+0:Nat):Int),.int .i64 ((n1+a2:Nat):Int),.int .i64 ((n2+b1:Nat):Int),.int .u64 (Dc (CJ v1 s2) v2:Nat),.int .u64 (CJ s1 s2:Nat)],.nilIface]) (by simp[results,Tryz.results132,go_sem,r0,r1,r2,r3,r4,r5]) O ⟨by simp,?_⟩;repeat(refine Below.setCell ?_ (by simp;omega) _)
    exact hC
   have z2':((l2:Int)==0)=false:=by simp;omega
   obtain rfl:=HHD.out.trans (if_pos rfl);obtain rfl:=HTL.out.trans (if_neg z2);go_wp2_with fail
   refine bodyPost_ret (v:= .tuple #[.agg #[.int .i64 ((n1+n2:Nat):Int),.int .i64 ((0+l2:Nat):Int),.int .i64 ((n1+a2:Nat):Int),.int .i64 ((tl:Nat):Int),.int .u64 (Dc (CJ v1 s2) v2:Nat),.int .u64 (CJ s1 s2:Nat)],.nilIface]) (by simp[results,Tryz.results132,go_sem,r0,r1,r2,r3,r4,r5]) O ⟨by simp,?_⟩;repeat(refine Below.setCell ?_ (by simp;omega) _)
   exact hC
  have z1':((l1:Int)==0)=false:=by simp;omega
  by_cases z2:l2=0
  ·obtain rfl:=z2;obtain rfl:=HHD.out.trans (if_neg z1);obtain rfl:=HTL.out.trans (if_pos rfl);go_wp2_with fail
   refine bodyPost_ret (v:= .tuple #[.agg #[.int .i64 ((n1+n2:Nat):Int),.int .i64 ((l1+0:Nat):Int),.int .i64 ((hd:Nat):Int),.int .i64 ((n2+b1:Nat):Int),.int .u64 (Dc (CJ v1 s2) v2:Nat),.int .u64 (CJ s1 s2:Nat)],.nilIface]) (by simp[results,Tryz.results132,go_sem,r0,r1,r2,r3,r4,r5]) O ⟨by simp,?_⟩;repeat(refine Below.setCell ?_ (by simp;omega) _)
   exact hC
  have z2':((l2:Int)==0)=false:=by simp;omega
  obtain rfl:=HHD.out.trans (if_neg z1);obtain rfl:=HTL.out.trans (if_neg z2);go_wp2_with fail
  refine bodyPost_ret (v:= .tuple #[.agg #[.int .i64 ((n1+n2:Nat):Int),.int .i64 ((l1+l2:Nat):Int),.int .i64 ((hd:Nat):Int),.int .i64 ((tl:Nat):Int),.int .u64 (Dc (CJ v1 s2) v2:Nat),.int .u64 (CJ s1 s2:Nat)],.nilIface]) (by simp[results,Tryz.results132,go_sem,r0,r1,r2,r3,r4,r5]) O ⟨by simp,?_⟩;repeat(refine Below.setCell ?_ (by simp;omega) _)
  exact hC
 simp only[Exit.then];have hX:=hA.size;simp at hX;have q0:CQ w3 w2.heap.size [.int .i64 0,.int .i64 0,.int .i64 0,.int .i64 0,.int .u64 0,.int .u64 0] 66:=(CQ.new_at w2.drew O _ _).below hA BF;refine tH (R:=(fun wx=>CQ wx w2.heap.size [.int .i64 ((n1:Int)+n2),.int .i64 ((l1:Int)+l2),.int .i64 a1,.int .i64 b2,.int .u64 (Dc (CJ v1 s2) v2:Nat),.int .u64 (CJ s1 s2:Nat)] 66/\CQ wx w.heap.size [.int .i64 n1,.int .i64 l1,.int .i64 a1,.int .i64 b1,.int .u64 v1,.int .u64 s1] 66/\CQ wx (w.heap.size+1) [.int .i64 n2,.int .i64 l2,.int .i64 a2,.int .i64 b2,.int .u64 v2,.int .u64 s2] 66/\CQ wx (w.heap.size+1+1) [.int .i64 0,.int .i64 0,.int .i64 0,.int .i64 0,.int .u64 0,.int .u64 0] 66/\Below w.heap.size w wx)) _ ⟨?_,?_,?_,?_,?_⟩ ?_
 ·exact(((((q0.set_same 0 _).set_same 1 _).set_same 2 _).set_same 3 _).set_same 4 _).set_same 5 _
 ·have:=(d1.drew.alloc _).below hA (by simp <;>omega);repeat(refine CQ.set_other ?_ oO _ _)
  exact this
 ·have:=(d2.drew.alloc _).below hA (by simp <;>omega);repeat(refine CQ.set_other ?_ oO _ _)
  exact this
 ·have:=(d3.drew.alloc _).below hA (by simp <;>omega);repeat(refine CQ.set_other ?_ oO _ _)
  exact this
 ·repeat(refine Below.setCell ?_ (by simp;omega) _)
  refine Below.trans (Below.alloc hM.drew (by simp;omega) _) (hA.mono (by simp;omega))
 clear q0 hX;rintro wx⟨x1,x2,x3,x4,hC⟩;have hG:w.heap.size+1+1<w2.heap.size:=oO;clear d1 d2 d3 hM hN hO hT hP hU hV hD hE hF hJ hK hL hA hB hW g1 g2 g3 g4 g5 g6 g7 g8 n1' n2' n3' n4';generalize w2.heap.size=G at*;have hN:=x2.cell 0 O;have hO:=x2.cell 1 O;have hP:=x2.cell 3 O;have hD:=x3.cell 0 O;have hE:=x3.cell 1 O;have hF:=x3.cell 2 O;have j0:=x1.cell 0 O;have j1:=x1.cell 1 O;have j2:=x1.cell 2 O;have j3:=x1.cell 3 O;have j4:=x1.cell 4 O;have j5:=x1.cell 5 O;have f2:=x1.frozen 2;have f3:=x1.frozen 3;have r0:=x4.cell 0 O;have r1:=x4.cell 1 O;have r2:=x4.cell 2 O;have r3:=x4.cell 3 O;have r4:=x4.cell 4 O;have r5:=x4.cell 5 O;have t0:=x4.frozen 0;have t1:=x4.frozen 1;have t2:=x4.frozen 2;have t3:=x4.frozen 3;have t4:=x4.frozen 4;have t5:=x4.frozen 5;have y1:¬G=w.heap.size:=oO;have y2:¬G=w.heap.size+1:=oO;have y3:¬G=w.heap.size+1+1:=oO;have y4:¬w.heap.size=G:=oO;have y5:¬w.heap.size+1=G:=oO;have y6:¬w.heap.size+1+1=G:=oO;clear x1 x2 x3 x4;by_cases z1:l1=0
 ·obtain rfl:=z1;by_cases z2:l2=0
  ·obtain rfl:=z2;obtain rfl:=HHD.out.trans (if_pos rfl);obtain rfl:=HTL.out.trans (if_pos rfl);go_wp2_with fail
   refine bodyPost_ret (v:= .tuple #[.agg #[.int .i64 ((n1+n2:Nat):Int),.int .i64 ((0+0:Nat):Int),.int .i64 ((n1+a2:Nat):Int),.int .i64 ((n2+b1:Nat):Int),.int .u64 (Dc (CJ v1 s2) v2:Nat),.int .u64 (CJ s1 s2:Nat)],.nilIface]) (by simp[results,Tryz.results132,go_sem,r0,r1,r2,r3,r4,r5]) O ⟨by simp,?_⟩;repeat(refine Below.setCell ?_ (by simp;omega) _)
   exact hC
  have z2':((l2:Int)==0)=false:=by simp;omega
  obtain rfl:=HHD.out.trans (if_pos rfl);obtain rfl:=HTL.out.trans (if_neg z2);go_wp2_with fail
  refine bodyPost_ret (v:= .tuple #[.agg #[.int .i64 ((n1+n2:Nat):Int),.int .i64 ((0+l2:Nat):Int),.int .i64 ((n1+a2:Nat):Int),.int .i64 ((tl:Nat):Int),.int .u64 (Dc (CJ v1 s2) v2:Nat),.int .u64 (CJ s1 s2:Nat)],.nilIface]) (by simp[results,Tryz.results132,go_sem,r0,r1,r2,r3,r4,r5]) O ⟨by simp,?_⟩;repeat(refine Below.setCell ?_ (by simp;omega) _)
  exact hC
 have z1':((l1:Int)==0)=false:=by simp;omega
 by_cases z2:l2=0
 ·obtain rfl:=z2;obtain rfl:=HHD.out.trans (if_neg z1);obtain rfl:=HTL.out.trans (if_pos rfl);go_wp2_with fail
  refine bodyPost_ret (v:= .tuple #[.agg #[.int .i64 ((n1+n2:Nat):Int),.int .i64 ((l1+0:Nat):Int),.int .i64 ((hd:Nat):Int),.int .i64 ((n2+b1:Nat):Int),.int .u64 (Dc (CJ v1 s2) v2:Nat),.int .u64 (CJ s1 s2:Nat)],.nilIface]) (by simp[results,Tryz.results132,go_sem,r0,r1,r2,r3,r4,r5]) O ⟨by simp,?_⟩;repeat(refine Below.setCell ?_ (by simp;omega) _)
  exact hC
 have z2':((l2:Int)==0)=false:=by simp;omega
 obtain rfl:=HHD.out.trans (if_neg z1);obtain rfl:=HTL.out.trans (if_neg z2);go_wp2_with fail
 refine bodyPost_ret (v:= .tuple #[.agg #[.int .i64 ((n1+n2:Nat):Int),.int .i64 ((l1+l2:Nat):Int),.int .i64 ((hd:Nat):Int),.int .i64 ((tl:Nat):Int),.int .u64 (Dc (CJ v1 s2) v2:Nat),.int .u64 (CJ s1 s2:Nat)],.nilIface]) (by simp[results,Tryz.results132,go_sem,r0,r1,r2,r3,r4,r5]) O ⟨by simp,?_⟩;repeat(refine Below.setCell ?_ (by simp;omega) _)
 exact hC

def qQj (s t:List UInt8)(w:World)(h:s.length+t.length<=dC):
  Calls Tryz.prog 132 #[.agg #[.int .i64 (List.length (s):Nat),.int .i64 (gQ (s):Nat),.int .i64 (kQ (s):Nat),.int .i64 (kR (s):Nat),.int .u64 (CS (s):Nat),.int .u64 (fI (s):Nat)],.agg #[.int .i64 (List.length (t):Nat),.int .i64 (gQ (t):Nat),.int .i64 (kQ (t):Nat),.int .i64 (kR (t):Nat),.int .u64 (CS (t):Nat),.int .u64 (fI (t):Nat)]] w fun e w'=>e= .returned (.tuple #[.agg #[.int .i64 (List.length (s++t):Nat),.int .i64 (gQ (s++t):Nat),.int .i64 (kQ (s++t):Nat),.int .i64 (kR (s++t):Nat),.int .u64 (CS (s++t):Nat),.int .u64 (fI (s++t):Nat)],.nilIface])/\Below w.heap.size w w':=by
 rw[aa,qC,rM,lL];exact qFj _ _ _ _ _ _ _ _ _ _ _ _ _ _ w h (vG s) (vG t) (VB s) (VB t) (Xz s) (qSp s) (Xz t) (qSp t) (pI s) (mX s) (pI t) (mX t) (lF s t) (nE s t)
end
section
open Go Go.RowKit Eg
set_option maxRecDepth 100000

def qAw (t:List UInt8)(n l a b k N M hd tl:Nat)(w:World)(hn:1<=n)(hk:1<=k)(hC:n*k<=dC)(hN:N=n*k)(hM:M=l*k)
  (h1:∀w,n<=dC->Calls Tryz.prog 138 #[.agg #[.int .i64 n,.int .i64 l,.int .i64 a,.int .i64 b,.int .u64 (CS t:Nat),.int .u64 (fI t:Nat)]] w fun e w'=>e= .returned (.bool true)/\Below w.heap.size w w')
  (q1:l<=n)
  (hK:hd=if l=0 then N else a) (hL:tl=if l=0 then N else b):
  Calls Tryz.prog 104 #[.agg #[.int .i64 n,.int .i64 l,.int .i64 a,.int .i64 b,.int .u64 (CS t:Nat),.int .u64 (fI t:Nat)],.int .i64 k] w fun e w'=>
   e= .returned (.tuple #[.agg #[.int .i64 (N:Nat),.int .i64 (M:Nat),.int .i64 hd,.int .i64 tl,.int .u64 (CS (rep k t):Nat),.int .u64 (fI (rep k t):Nat)],.nilIface])/\Below w.heap.size w w':=by
 have hJ:n<=dC:=jv (vw n hk) hC;have hO:k<=dC:=jv (wh k hn) hC;have hW:l*k<=n*k:=kg k q1;have hD:k<9223372036854775808:=by unfold dC at hO;omega
 have hx:=qGz n k (ha:=hJ) (h0:=hn) (h:=hC);rw[<-hN]at hx;have hX:1<=N:=by rw[hN];exact Nat.mul_pos hn hk
 have hY:((N:Int)==0)=false:=by simp;omega
 have hZ:IntKind.i64.wrap ((l:Int)*k)=(M:Int):=by
  rw[<-nz,<-hM];exact IntWalk.i64_in _ (by unfold dC at hC;omega)
 have hb:decide ((k:Int)<0)=false:=by simp
 have H1:=Lib.hid h1;have HX:=Lib.hid hx;have HNM:=Lib.hid hJ;have HHD:=Lib.hid hK;have HTL:=Lib.hid hL;have HK:=Lib.hid hD;clear h1 hx hK hL hJ hO hC hW hM hN q1 hk hn hD hX;go_enter Tryz.func104,Tryz.ntmps104
 go_wp2_with fail
 refine(H1.out _ HNM.out).mono ?_;rintro e w2⟨rfl,hF⟩;have d1:CQ w2 w.heap.size [.int .i64 n,.int .i64 l,.int .i64 a,.int .i64 b,.int .u64 (CS t:Nat),.int .u64 (fI t:Nat)] 66:=((CQ.new_at _ O _ _).alloc _).below hF (by simp;omega);have d3:CQ w2 (w.heap.size+1) [.int .i64 0,.int .i64 0,.int .i64 0,.int .i64 0,.int .u64 0,.int .u64 0] 66:=(CQ.new_at _ BF _ _).below hF BF;have hH:Below w.heap.size w w2:=Below.trans (by go_grown) (hF.mono (by simp;omega));clear hF;have hc:=d3.lt;have hP:=d1.cell 0 O;have hI:=d1.cell 1 O;have hQ:=d1.cell 2 O;have hR:=d1.cell 3 O;have hS:=d1.cell 4 O;have hT:=d1.cell 5 O;go_wp2_with fail
 refine(HX.out _).mono ?_;rintro e w'⟨rfl,rfl⟩;go_wp2_with fail
 have n1':¬w2.heap.size=w.heap.size:=oO;have n2':¬w2.heap.size=w.heap.size+1:=oO;have n3':¬w.heap.size=w2.heap.size:=oO;have n4':¬w.heap.size+1=w2.heap.size:=oO
 go_region_held3 (fun w'=>(w'.cell? ⟨w.heap.size,1,none⟩=some (.int .i64 l)/\w'.cell? ⟨w.heap.size,2,none⟩=some (.int .i64 a)/\w'.cell? ⟨w.heap.size,3,none⟩=some (.int .i64 b)/\w'.cell? ⟨w.heap.size,4,none⟩=some (.int .u64 (CS t:Nat))/\w'.cell? ⟨w.heap.size,5,none⟩=some (.int .u64 (fI t:Nat)))/\w.heap.size+1<w'.heap.size) (first |(go_keep;done)|(go_keep;omega))
  (first |(go_at_call 139;refine(qIm _ _ _ HK.out).mono ?_;rintro e w3⟨rfl,hA⟩;obtain⟨hB,hU⟩:=QR hA;have g1:=hB w.heap.size 1 (by simp at*;omega);have g2:=hB w.heap.size 2 (by simp at*;omega);have g3:=hB w.heap.size 3 (by simp at*;omega);have g4:=hB w.heap.size 4 (by simp at*;omega);have g5:=hB w.heap.size 5 (by simp at*;omega);have he:w.heap.size+1<w3.heap.size:=mi (by simp at*;omega) hA.size))
 ·simp only[Exit.then];refine tH (R:=(fun wx=>CQ wx w3.heap.size [.int .i64 (N:Nat),.int .i64 (M:Nat),.int .i64 a,.int .i64 b,.int .u64 (CS (rep k t):Nat),.int .u64 (fI (rep k t):Nat)] 66/\CQ wx w.heap.size [.int .i64 n,.int .i64 l,.int .i64 a,.int .i64 b,.int .u64 (CS t:Nat),.int .u64 (fI t:Nat)] 66/\CQ wx (w.heap.size+1) [.int .i64 0,.int .i64 0,.int .i64 0,.int .i64 0,.int .u64 0,.int .u64 0] 66/\Below w.heap.size w wx)) _ ⟨CQ.new_at w3 O _ _,(d1.drew.below hA (by simp;omega)).alloc _,(d3.drew.below hA (by simp;omega)).alloc _,?_⟩ ?_
  ·refine Below.alloc ?_ oO _;exact(hH.drew).trans (hA.mono (by simp;omega))
  rintro wx⟨x1,x2,x4,hE⟩;have hG:w.heap.size+1<w3.heap.size:=oO;clear d1 d3 hH hP hI hQ hR hS hT hA hB hU g1 g2 g3 g4 g5 n1' n2' n3' n4';generalize w3.heap.size=G at*;have hI:=x2.cell 1 O;have j0:=x1.cell 0 O;have j1:=x1.cell 1 O;have j2:=x1.cell 2 O;have j3:=x1.cell 3 O;have j4:=x1.cell 4 O;have j5:=x1.cell 5 O;have f2:=x1.frozen 2;have f3:=x1.frozen 3;have r0:=x4.cell 0 O;have r1:=x4.cell 1 O;have r2:=x4.cell 2 O;have r3:=x4.cell 3 O;have r4:=x4.cell 4 O;have r5:=x4.cell 5 O;have t0:=x4.frozen 0;have t1:=x4.frozen 1;have t2:=x4.frozen 2;have t3:=x4.frozen 3;have t4:=x4.frozen 4;have t5:=x4.frozen 5;have y1:¬G=w.heap.size:=oO;have y3:¬G=w.heap.size+1:=oO;have y4:¬w.heap.size=G:=oO;have y6:¬w.heap.size+1=G:=oO;clear x1 x2 x4;by_cases z1:l=0
  ·obtain rfl:=z1;have E1:=Lib.hid (HHD.out.trans (if_pos O));have E2:=Lib.hid (HTL.out.trans (if_pos O));go_wp2_with fail
   have e1:=E1.out;have e2:=E2.out;refine bodyPost_ret (v:= .tuple #[.agg #[.int .i64 (N:Nat),.int .i64 (M:Nat),.int .i64 (hd:Nat),.int .i64 (tl:Nat),.int .u64 (CS (rep k t):Nat),.int .u64 (fI (rep k t):Nat)],.nilIface]) (by simp[results,Tryz.results104,go_sem,r0,r1,r2,r3,r4,r5,e1,e2]) O ⟨by simp,?_⟩;repeat(refine Below.setCell ?_ (by simp <;>omega) _)
   exact hE
  have z1':((l:Int)==0)=false:=by simp;omega
  have E1:=Lib.hid (HHD.out.trans (if_neg z1));have E2:=Lib.hid (HTL.out.trans (if_neg z1));go_wp2_with fail
  have e1:=E1.out;have e2:=E2.out;refine bodyPost_ret (v:= .tuple #[.agg #[.int .i64 (N:Nat),.int .i64 (M:Nat),.int .i64 (hd:Nat),.int .i64 (tl:Nat),.int .u64 (CS (rep k t):Nat),.int .u64 (fI (rep k t):Nat)],.nilIface]) (by simp[results,Tryz.results104,go_sem,r0,r1,r2,r3,r4,r5,e1,e2]) O ⟨by simp,?_⟩;repeat(refine Below.setCell ?_ (by simp <;>omega) _)
  exact hE
 simp only[Exit.then];have hV:=hA.size;simp at hV;have q0:CQ w3 w2.heap.size [.int .i64 0,.int .i64 0,.int .i64 0,.int .i64 0,.int .u64 0,.int .u64 0] 66:=(CQ.new_at w2.drew O _ _).below hA BF;refine tH (R:=(fun wx=>CQ wx w2.heap.size [.int .i64 (N:Nat),.int .i64 (M:Nat),.int .i64 a,.int .i64 b,.int .u64 (CS (rep k t):Nat),.int .u64 (fI (rep k t):Nat)] 66/\CQ wx w.heap.size [.int .i64 n,.int .i64 l,.int .i64 a,.int .i64 b,.int .u64 (CS t:Nat),.int .u64 (fI t:Nat)] 66/\CQ wx (w.heap.size+1) [.int .i64 0,.int .i64 0,.int .i64 0,.int .i64 0,.int .u64 0,.int .u64 0] 66/\Below w.heap.size w wx)) _ ⟨?_,?_,?_,?_⟩ ?_
 ·exact(((((q0.set_same 0 _).set_same 1 _).set_same 2 _).set_same 3 _).set_same 4 _).set_same 5 _
 ·have:=(d1.drew.alloc _).below hA (by simp <;>omega);repeat(refine CQ.set_other ?_ oO _ _)
  exact this
 ·have:=(d3.drew.alloc _).below hA (by simp <;>omega);repeat(refine CQ.set_other ?_ oO _ _)
  exact this
 ·repeat(refine Below.setCell ?_ (by simp <;>omega) _)
  refine Below.trans (Below.alloc hH.drew (by simp;omega) _) (hA.mono (by simp;omega))
 clear q0 hV;rintro wx⟨x1,x2,x4,hE⟩;have hG:w.heap.size+1<w2.heap.size:=oO;clear d1 d3 hH hP hI hQ hR hS hT hA hB hU g1 g2 g3 g4 g5 n1' n2' n3' n4';generalize w2.heap.size=G at*;have hI:=x2.cell 1 O;have j0:=x1.cell 0 O;have j1:=x1.cell 1 O;have j2:=x1.cell 2 O;have j3:=x1.cell 3 O;have j4:=x1.cell 4 O;have j5:=x1.cell 5 O;have f2:=x1.frozen 2;have f3:=x1.frozen 3;have r0:=x4.cell 0 O;have r1:=x4.cell 1 O;have r2:=x4.cell 2 O;have r3:=x4.cell 3 O;have r4:=x4.cell 4 O;have r5:=x4.cell 5 O;have t0:=x4.frozen 0;have t1:=x4.frozen 1;have t2:=x4.frozen 2;have t3:=x4.frozen 3;have t4:=x4.frozen 4;have t5:=x4.frozen 5;have y1:¬G=w.heap.size:=oO;have y3:¬G=w.heap.size+1:=oO;have y4:¬w.heap.size=G:=oO;have y6:¬w.heap.size+1=G:=oO;clear x1 x2 x4;by_cases z1:l=0
 ·obtain rfl:=z1;have E1:=Lib.hid (HHD.out.trans (if_pos O));have E2:=Lib.hid (HTL.out.trans (if_pos O));go_wp2_with fail
  have e1:=E1.out;have e2:=E2.out;refine bodyPost_ret (v:= .tuple #[.agg #[.int .i64 (N:Nat),.int .i64 (M:Nat),.int .i64 (hd:Nat),.int .i64 (tl:Nat),.int .u64 (CS (rep k t):Nat),.int .u64 (fI (rep k t):Nat)],.nilIface]) (by simp[results,Tryz.results104,go_sem,r0,r1,r2,r3,r4,r5,e1,e2]) O ⟨by simp,?_⟩;repeat(refine Below.setCell ?_ (by simp <;>omega) _)
  exact hE
 have z1':((l:Int)==0)=false:=by simp;omega
 have E1:=Lib.hid (HHD.out.trans (if_neg z1));have E2:=Lib.hid (HTL.out.trans (if_neg z1));go_wp2_with fail
 have e1:=E1.out;have e2:=E2.out;refine bodyPost_ret (v:= .tuple #[.agg #[.int .i64 (N:Nat),.int .i64 (M:Nat),.int .i64 (hd:Nat),.int .i64 (tl:Nat),.int .u64 (CS (rep k t):Nat),.int .u64 (fI (rep k t):Nat)],.nilIface]) (by simp[results,Tryz.results104,go_sem,r0,r1,r2,r3,r4,r5,e1,e2]) O ⟨by simp,?_⟩;repeat(refine Below.setCell ?_ (by simp <;>omega) _)
 exact hE

def qKj (t:List UInt8)(k:Nat)(w:World)(ht:1<=t.length)(hk:1<=k)(h:t.length*k<=dC):
  Calls Tryz.prog 104 #[.agg #[.int .i64 (List.length (t):Nat),.int .i64 (gQ (t):Nat),.int .i64 (kQ (t):Nat),.int .i64 (kR (t):Nat),.int .u64 (CS (t):Nat),.int .u64 (fI (t):Nat)],.int .i64 k] w fun e w'=>e= .returned (.tuple #[.agg #[.int .i64 (List.length (rep k t):Nat),.int .i64 (gQ (rep k t):Nat),.int .i64 (kQ (rep k t):Nat),.int .i64 (kR (rep k t):Nat),.int .u64 (CS (rep k t):Nat),.int .u64 (fI (rep k t):Nat)],.nilIface])/\Below w.heap.size w w':=by
 refine qAw t _ _ _ _ k _ _ _ _ w ht hk h (by rw[rep_length,oN]) (XE k t) (vG t) (VB t) ?_ ?_
 ·by_cases hl:gQ t=0
  ·rw[if_pos hl,wH (by rw[XE,hl,zi])]
  rw[if_neg hl,zBr hk hl]
 by_cases hl:gQ t=0
 ·rw[if_pos hl,Wn (by rw[XE,hl,zi])]
 rw[if_neg hl,zBt hk hl]
end
