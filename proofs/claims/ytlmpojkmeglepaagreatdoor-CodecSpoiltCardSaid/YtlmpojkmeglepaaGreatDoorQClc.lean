import Derived.Test.YtlmpojkmeglepaaGreatDoorQ20
import Derived.Test.YtlmpojkmeglepaaGreatDoorQCla
import Derived.ChangeArms
import Derived.ChangeSlices
import Derived.Deep.Matrix
import Derived.SizedLaws
set_option linter.all false
set_option maxHeartbeats 1000000
namespace Go.Proofs.YtlmpojkmeglepaaGreatDoor
open Go Go.ChangeShapes Go.WideShapes Go.ChangeAt Go.WideMaps Go.WideElems Go.RowKit Go.ChangeMaps Sl Eg
def qGy (z:Int):UInt8:=UInt8.ofNat z.toNat
theorem qOc {z:Int}(h:(Lit.int .u8 z).wf=true):((qGy z).toNat:Int)=z:=by
 have hh:0≤z∧z<256:=by
  simp only[Lit.wf,Bool.and_eq_true,decide_eq_true_eq]at h
  have h1:(IntKind.u8.min:Int)=0:=by rfl
  have h2:(IntKind.u8.max:Int)=255:=by rfl
  omega
 unfold qGy
 rw[UInt8.toNat_ofNat']
 omega
theorem qJe {W:World}{a:Addr}{v:Value}(h:W.cell? a=some v):a=⟨a.block,a.off,none⟩:=by
 obtain⟨b,o,s⟩:=a
 cases s with
 |none=>rfl
 |some x=>
  unfold World.cell? at h
  split at h
  ·simp at h
  cases h
theorem old_of {W:World}{a:Option Addr}{len:Nat}{zs:List Int}(hl:len≤zs.length)(hw:∀z∈zs,(Lit.int .u8 z).wf=true) (hs:0<len→∃a',a=some a'∧∀i,i<zs.length→W.cell? (a'.add i)=some (.int .u8 (zs.getD i 0))):Old W a ((zs.take len).map qGy):=fun hb=>by
 have hlen:0<len:=by
  rcases Nat.eq_zero_or_pos len with h| h
  ·subst h;simp at hb
  exact h
 obtain⟨a',rfl,hc⟩:=hs hlen
 have h0:=hc 0 oO
 rw[show a'.add 0=a' by simp[Addr.add]]at h0
 have e:=qJe h0
 refine⟨a'.block,a'.off,by rw[←e],fun i v hv=>?_⟩
 have hi:i<len:=by
  have:=(List.getElem?_eq_some_iff.1 hv).1
  simp[byC]at this
  omega
 have hz:zs[i]?=some (zs[i]'oO):=List.getElem?_eq_getElem oO
 have hci:=hc i oO
 rw[e,Sl.addr_add]at hci
 rw[hci]
 simp only[byC,List.map_map,List.getElem?_map,List.getElem?_take,if_pos hi,hz,Option.map_some,Option.some.injEq,Function.comp]at hv
 rw[←hv,List.getD_eq_getElem?_getD,hz]
 simp only[Option.getD_some]
 rw[qOc (hw _ (List.getElem_mem _))]
theorem qLj:Tryz.prog.underlying 29=some (.slice 5):=by kernel_rfl
theorem qQb:Tryz.prog.underlying 5=some (.int .u8):=by kernel_rfl
theorem qOe:Tryz.prog.cellsOf 5=1:=by kernel_rfl
theorem calls_at {W:World}{f:FuncId}{args:List Value}(hB:Base W)(h:∀E:Env,Seat E→E.w0=W→Base E.w0→Ct E f args [] (fun v Q=>v= .bool true∧Q=[])):Calls Tryz.prog f ⟨args⟩ W (fun e W'=>e= .returned (.bool true)∧Below W.heap.size W W'):=by
 obtain⟨E,hE,rfl⟩:=env_of W
 have hs:Sat E.w0 E.w0 ([]++[fun _=>True]):=⟨O,O,O,Nat.le_refl _,fun _ _=>O,⟨lM E.w0 E.w0,fun _=>none,fun _=> .inr O,by funext b;simp[join],trivial,trivial⟩⟩
 have:=h E hE rfl hB (fun _=>True) E.w0 hs
 rw[hE.P]at this
 exact this.mono fun e W'⟨v,Qs,h1,⟨h2,_⟩,h3⟩=>⟨by rw[h1,h2],h3.os,h3.tape,h3.output,h3.size,h3.old⟩
end Go.Proofs.YtlmpojkmeglepaaGreatDoor
