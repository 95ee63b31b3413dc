import Derived.Test.YtejcjelmpbkcbaaGreatDoorQ50
import Derived.Test.YtejcjelmpbkcbaaGreatDoorQ67
set_option linter.all false
set_option maxHeartbeats 1000000
namespace Sl
open Go Go.RowKit
variable {E:Env}{n:Nat}{L:Fr}{H:List HP}{ty:TypeId}{pos:String}{af:Array Edge}{d:Option Nat}{gd:Option (Nat×Bool)}{K:Value->List HP->Prop}
def tZ {x:Operand}{t e:TypeId}{c by_ sz sz':Nat}{zs:List Value}{v0:Value}{kk:TK}(ht:E.tab t=some ⟨.slice e 1 by_,sz,zs⟩)(he:E.tab e=some ⟨kk,sz',[v0]⟩)
  (hx:ev L x=some (.int .i64 (c:Nat))) (hb:by_*c<=281474976710656) (hc:c<=maxLen)
  (hk:∀b,K (.slice (some ⟨b,0,none⟩) c c) (sl (some ⟨b,0,none⟩) c e 1 c (List.replicate c v0)::H)):Ld E n L H ⟨d,.makeSlice t x x,ty,pos,af,gd⟩ K:=fun Q next a w G hn=>by
 obtain⟨hu,j,hj,hs,hby⟩:=fB ht;obtain⟨i,z,hi,hi2,hiz,hzc,_⟩:=eU he;obtain rfl:i=j:=by rw[hi]at hj;simpa using hj
 subst hby
 have hz1:z.cells= #[v0]:=by
  apply ug.1;rw[hzc]
 have h63:(c:Int)<=9223372036854775807:=by have h:=hc;simp[maxLen]at h;omega
 have hr:=run_make (P:=E.P) w t e i z hu hi hiz .i64 .i64 (c:Int) (c:Int) (qd c) (zo _) (by rw[<-om];omega) h63
 have hrun:(execOp a.eval ⟨d,.makeSlice t x x,ty,pos,af,gd⟩).run E.P w= .ok (.value (.slice (some ⟨w.heap.size,0,none⟩) c c)) (w.alloc (.cells (madeCells z.cells (c*i.size)) e)):=by
  simp[execOp,G.f.ev hx,hr]
 unfold Oper.wp;rw[hrun,Oper.upon_value]
 have hM:(madeCells z.cells (c*i.size)).toList=List.replicate c v0:=by
  rw[hz1,hs,oI];apply kz;intro k;rcases ed k c with hk|hk
  ·rw[oo,if_pos hk];simp[madeCells,hk,Nat.mod_one]
  rw[fq (by simpa[size_madeCells]using hk),fq (by simpa using hk)]
 have hz:(madeCells z.cells (c*i.size)).size=c*1:=by rw[size_madeCells,hs]
 generalize madeCells z.cells (c*i.size)=M at*;refine hn _ _ _ (hk _) ?_;have:=G.hp.new (.cells M e)
 exact this.imp fun _=>fA fun _ h=>by
  have:=gP (us:=M.toList) (sz:=1) (by simpa using hz) hc _ h;rwa [hM]at this
end Sl
namespace Go.Proofs.YtejcjelmpbkcbaaGreatDoor
open Go Go.RowKit Sl Eg
set_option maxRecDepth 10000
section
end
section
variable {E:Env}{L:List Rl}
def qSx {V:List Nat}{k:Nat}{r:Rl}(h:∀x∈kids r,x∈V.take k):iO (V.take k) r=iO V r:=by
 have e:∀x∈kids r,numb (V.take k) x=numb V x:=fun x hx=>by
  have:=qBg (m:=V.drop k) (h x hx);rw[ig]at this;exact this.symm
 cases r with
 |letter b=>rfl
 |pair a b=>simp only[iO];rw[e a (by simp[kids]),e b (by simp[kids])]
 |power a t=>simp only[iO];rw[e a (by simp[kids])]
def qWg {V:List Nat}{k n:Nat}{r:Rl}(hV:V[k]?=some (n+1))(hr:L[n]?=some r):rusC ((gram L V).take (k+1))=rusC ((gram L V).take k)++rlC (iO V r):=by
 rw[di,vS hV hr,<-qYg];rfl
end
end Go.Proofs.YtejcjelmpbkcbaaGreatDoor
namespace Sl
open Go Go.RowKit
variable {E:Env}{n:Nat}{L:Fr}{H:List HP}{Q:Exit->Act->World->Prop}{fuel:Nat}{listed:Array Bool}{ops:List Oper}
def allS (S0:List HP):List (Nat×List HP)->Prop
 |[]=>True
 |(_,S)::r=>(∀k,dS S k->dS S0 k)/\allS S0 r
def qPe {S0:List HP}:∀{Ss:List (Nat×List HP)},allS S0 Ss->∀x∈Ss,∀k,dS x.2 k->dS S0 k
 |[],_,x,hx=>by simp at hx
 |(_,S)::r,h,x,hx=>by
  rcases jo.1 hx with rfl|hx
  ·exact h.1
  exact qPe h.2 x hx
def s_keep (S0:List HP)(i:Nat){Ss:List (Nat×List HP)}{d:Option Nat}{op:Op}{ty:TypeId}{pos:String}{af:Array Edge}{v:Value}(hi:ops[i]?=some ⟨d,op,ty,pos,af,none⟩)
  (hy:Yl E n L S0 ⟨d,op,ty,pos,af,none⟩ v) (hQ:Calm Q) (hf:qTt ops.toArray listed i=true) (hm:qAm ops.toArray i Ss=true) (hd:inB n d=true) (hS0:allS S0 Ss)
  (k:WPS E ops Ss Q fuel (listed.setIfInBounds i true) n (putL d v L) H):WPS E ops Ss Q (fuel+1) listed n L H:=fun a w g hS=>by
 simp only[qTt,ik]at hf;refine qEn (eH hi) (Region.noSelect_spec hf.1) (fun c a w h=>hQ c a w d v h) (T:=fun w=>Sat E.w0 w S0) fuel _ listed a w (wH hm) ?_ (Region.free_spec (eH hi) hf.2.1) (by simpa using hf.2.2) (.inl ⟨O,fun w hw=>hy a w g.f hw⟩) hS (k _ _ ⟨g.f.put d v hd,g.hp⟩ hS);intro m S h w hw;obtain⟨x,hx,e⟩:=dw.1 h;obtain⟨rfl,rfl⟩:=Prod.mk.inj e;exact hw.imp (qPe hS0 x hx)
end Sl
namespace Go.Proofs.YtejcjelmpbkcbaaGreatDoor
open Go Go.RowKit Sl Eg
set_option maxRecDepth 10000
