import Derived.Test.YtnicahfnolhgbaaGreatDoorQ9C
set_option linter.all false
set_option maxHeartbeats 1000000
namespace Sl
open Go Go.RowKit Eg
variable {E:Bp}{n:Nat}{L:Fr}{S:List HP}{d:Option Nat}{ty:TypeId}{pos:String}{af:Array Edge}{gd:Option (Nat×Bool)}
def NQ (a b:List UInt8):(⟨⟨a⟩⟩:ByteArray)++⟨⟨b⟩⟩=⟨⟨a++b⟩⟩:=by
 apply ByteArray.ext;rw[ByteArray.data_append];simp
def Mf {x y}{xt yt:TypeId}{a b}(hx:ev L x=some (BN a))(hy:ev L y=some (BN b))(h:a.length+b.length<=1000000000):
  Yl E n L S ⟨d,.binOp .add xt x y yt,ty,pos,af,gd⟩ (BN (a++b)):=fun o w g _=>by
 have h2:¬((((⟨⟨a⟩⟩:ByteArray).size+(⟨⟨b⟩⟩:ByteArray).size:Nat):Int)>IntKind.i64.max):=by
  rw[show(⟨⟨a⟩⟩:ByteArray).size=a.length from rfl,show(⟨⟨b⟩⟩:ByteArray).size=b.length from rfl,show IntKind.i64.max=9223372036854775807 from rfl];omega
 have e:(Op.stringOp .add ⟨⟨a⟩⟩ ⟨⟨b⟩⟩:Sem Value)=pure (BN (a++b)):=by
  simp only[Op.stringOp];rw[if_neg h2,NQ]
 simp[execOp,eqGuard,binOp_string_add,e,g.ev hx,g.ev hy,pure]
end Sl
namespace Go.Proofs.YtnicahfnolhgbaaGreatDoor
open Go Go.RowKit Sl Eg
set_option maxRecDepth 10000
variable {E:Bp}{Es:List Bj}{s most:Nat}
def mD:List UInt8:=[46,110,101,119]
def Km (x0:Option Fl)(ps:List (List UInt8)):Prop:=(x0=none/\ps=[])\/∃x,x0=some x/\x.data=DV ps
def qPa (hE:BP E){p a n0 n1 x0 x1 ps}(hn:FM n0)(hA:∀p∈ps,1<=p.length/\p.length<=1048576) (hx:Km x0 ps) (hl:(DV ps).length<=1000000000):
  Ct E 25 [uPt a,BN n0] [Dt a n0 n1 x0 x1 p] (fun v Q=>∃l ys q c,v= .tuple #[uPt l,.slice q ys.length c,.nilIface]/\ys.map (fun x:Py=>x.2.2)=ps/\Q=[Dt a n0 n1 x0 x1 p,cells l [uPt a,BN n0,BK ys.length,BK ((DV ps).length),.bool false] 139,sl q c 44 1 ys.length (Il ys),FK ys]):=by
 rcases hx with⟨rfl,rfl⟩|⟨x,rfl,hx⟩
 ·have hs:(⟨⟨n0⟩⟩:ByteArray).size=n0.length:=rfl;obtain⟨h1,h2⟩:=hn;refine bO (hE.fn Tryz.func25) O O O (fun R=>?_);simp only[dS,uV,uW];refine Dv ?_;refine dV 19 O (fun c1=>?_) (fun c1=>?_)
  ·exfalso;omega
  refine Bu ?_;refine bE O (fun c2=>?_) (fun c2=>?_)
  ·exfalso;omega
  refine Bi ?_;refine uU (gN O (fun hB=>?_));refine Bi ?_;refine BH (qTi hE ⟨h1,h2⟩) O ?_;refine CK ?_;refine fF (fU (t:=44) (sz:=1)) ?_;refine fF (fun k h=>qRp k h) ?_;refine Bc ?_;exact uZ O (.tmp O (.tmp O (.tmp O .nil))) ⟨hB,[],none,0,O,O,O⟩
 exact qOz hE hn hA hx hl
def Oi {nm}(h1:1<=nm.length)(h2:nm.length<=28):FM nm/\FM (nm++mD)/\nm≠nm++mD:=by
 refine⟨⟨h1,oO⟩,⟨by simp[mD],by simp[mD];omega⟩,fun e=>?_⟩;have:=au List.length e;simp[mD]at this
structure SV where
 l:Nat
 nb:Nat
 cb:Nat
 wb:Nat
 mb:Nat
 ct:Nat
 sz:Nat
def GD (ch:List UInt8->Bool):List UInt8->Option Value:=fun x=>if ch x=true then some (.bool true)else none
def qVr:GD (fun _=>false)=fun _=>none:=by funext x;simp[GD]
def GG (d a:Nat)(nm:List UInt8)(s:Nat)(f:List UInt8->Option Nat)(ch:List UInt8->Bool)(V:List Nat)(n:Nat):HP:=fun h=>∃i:SV,(i.sz=n/\i.ct<=n)/\dW [cells d [uPt a,.string ⟨⟨nm⟩⟩,uPt s,.pointer (some ⟨i.l,0,none⟩),.map (some i.nb),.map (some i.cb),.pointer (some ⟨i.wb,0,none⟩),.bool false] 98,cells i.wb [.map (some i.mb),.int .i64 (V.length:Nat)] 96,dY i.nb (Cf f),dY i.cb (GD ch),Bn i.mb .i64 (Dw V),cells i.l [uPt a,.string ⟨⟨nm⟩⟩,.int .i64 (i.ct:Nat),.int .i64 (i.sz:Nat),.bool false] 139] h
def qUf (n:Nat):(Ga n).length=n:=Tj n
