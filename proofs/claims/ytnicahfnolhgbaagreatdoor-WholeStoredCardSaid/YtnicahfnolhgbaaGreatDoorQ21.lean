import Derived.Test.YtnicahfnolhgbaaGreatDoorQ03
import Derived.Deep.DeepMust
import Derived.Deep.RegionLaw
set_option linter.all false
set_option maxHeartbeats 1000000
namespace Go.Proofs.YtnicahfnolhgbaaGreatDoor
open Go Go.RowKit Eg
set_option maxRecDepth 100000
variable {w w':World}{s most bm:Nat}{E:List Bj}{lv:Value}

structure Gm (F:Nat->Prop)(w w':World):Prop where
 os:w'.os=w.os
 tape:w'.tape=w.tape
 output:w'.output=w.output
 size:w.heap.size<=w'.heap.size
 block:∀k,k<w.heap.size->¬F k->w'.heap[k]?=w.heap[k]?

def OG:(Tryz.prog.info? 132).map (fun i=>(i.zero,i.size,i.bytes))=some (some (.agg #[.int .i64 0,.int .u8 0,.int .i64 0,.int .i64 0,.int .i64 0,.int .i64 0,.int .i64 0,.int .i64 0,.int .i64 0,.int .u64 0,.int .u64 0,.int .i64 0,.bool false]),13,104):=by kernel_rfl
def MS:Tryz.prog.underlying 148=some (.slice 132):=by kernel_rfl

def Dg (s:Nat)(lv:Value)(bm k:Nat):Prop:=k=s\/k=bm\/lv.ownBlock=some k

def Fu (w:World)(s most:Nat)(lv:Value)(bm:Nat)(E':List Bj)(v:Value)(e:Ending)(w':World):Prop:=
 ∃lv',e= .returned v/\Bb w' s most E' lv' bm/\Gm (Dg s lv bm) w w'/\∀k,Dg s lv' bm k->Dg s lv bm k\/w.heap.size<=k

def qVi {w1 w2:World}{A B:Obj}{x:Bj}{g cap:Nat}(h:Bb w s most E lv bm)(hG:Wf (BO E++[x.r]))(hx:x.t=txt (BO E++[x.r]) (E.length+1))(hH:x.deep (E++[x]) (E.length+1))(hC:E.length<most)
  (hg:((w.alloc A).alloc B).drew.grownBy w1 lv.ownBlock) (ho:w1.ownsRow 0 132 13 (.slice (some ⟨g,0,none⟩) (E.length+1) cap) (E.length+1) (NB E++x.cells)) (ha:lv.ownBlock=some g\/w.heap.size<=g)
  (ht:CQ (w1.setCell ⟨s,1,none⟩ (.slice (some ⟨g,0,none⟩) (E.length+1) cap)) s [.int .i64 most,.slice (some ⟨g,0,none⟩) (E.length+1) cap,.map (some bm)] 150)
  (hI:w2.heap[bm]?=some (.map (JA (BO E++[x.r])) (BO E++[x.r]).length)) (hA:(w1.setCell ⟨s,1,none⟩ (.slice (some ⟨g,0,none⟩) (E.length+1) cap)).drew.grownBy w2 (some bm)) (hJ:bm≠s):
  Fu w s most lv bm (E++[x]) (.int .i64 ((E.length+1:Nat):Int)) (.returned (.int .i64 ((E.length+1:Nat):Int))) w2:=by
 have hK:g≠s:=by
  rintro rfl;rcases ho.2 with⟨h0,_⟩|⟨g',cap',cur',h0,_,hD,_⟩
  ·cases h0
  simp only[Value.slice.injEq,ry,Addr.mk.injEq,and_true]at h0;obtain⟨⟨rfl⟩,_⟩:=h0;have h1:=ht;unfold CQ at h1;simp[World.setCell,qj,hD]at h1
 have hE:=ho.kept (qDn w1 ⟨s,1,none⟩ (.slice (some ⟨g,0,none⟩) (E.length+1) cap)) (by right;simp[Value.ownBlock,hK])
 have hL:g≠bm:=by
  rintro rfl;rcases hE.2 with⟨h0,_⟩|⟨g',cap',cur',h0,_,hD,_⟩
  ·cases h0
  simp only[Value.slice.injEq,ry,Addr.mk.injEq,and_true]at h0;obtain⟨⟨rfl⟩,_⟩:=h0;have hP:g<w.heap.size:=(ic.1 h.ids).1;by_cases hl:lv.ownBlock=some g
  ·rcases h.row.2 with⟨h0,_⟩|⟨g',cap',cur',h0,_,hB,_⟩
   ·rw[h0]at hl;cases hl
   rw[h0]at hl;obtain rfl:g'=g:=by simpa[Value.ownBlock]using hl
   have:=h.ids;rw[hB]at this;cases this
  rcases ha with ha|ha
  ·exact hl ha
  omega
 have hM:=(show(w1.setCell ⟨s,1,none⟩ (.slice (some ⟨g,0,none⟩) (E.length+1) cap)).drew.ownsRow 0 132 13 _ _ _ from hE).kept hA (by right;simp[Value.ownBlock,hL]);refine⟨_,O,⟨ht.drew.grown hA (by simp[hJ.symm]),?_,?_,?_,?_,h.most_le,?_,h.deeps.snoc hH⟩,?_,?_⟩
 ·rw[qNm,aa];simpa[NB]using hM
 ·rw[dB];exact hI
 ·rw[dB];exact hG
 ·intro i y hy;rw[dB];by_cases hN:i<E.length
  ·rw[aj hN]at hy;rw[jX _ (by rw[bQ];omega)];exact h.texts i y hy
  have hO:i<(E++[x]).length:=(ae.1 hy).1;obtain rfl:i=E.length:=by simp at hO;omega
  rw[bi (ai _)]at hy;simp at hy;subst hy;exact hx
 ·rw[aa];simp;omega
 ·refine⟨hA.os.trans hg.os,hA.tape.trans hg.tape,hA.output.trans hg.output,?_,fun k hk hF=>?_⟩
  ·have h1:=hg.size;have h2:=hA.size;simp at h1 h2;omega
  have h1:k≠s:=fun e=>hF (.inl e)
  have h2:k≠bm:=fun e=>hF (.inr (.inl e))
  have h3:lv.ownBlock≠some k:=fun e=>hF (.inr (.inr e))
  have hs:=hg.size;simp at hs;rw[hA.block k (by simp;omega) (by simp[h2])];show(w1.setCell _ _).heap[k]?=_;rw[Below.heap_setCell _ _ _ _ h1,hg.block k (by simp;omega) (fun e=>h3 e.symm)];show((w.alloc _).alloc _).heap[k]?=_;rw[Below.heap_alloc _ _ _ (by simp;omega),Below.heap_alloc _ _ _ hk]
 rintro k(rfl|rfl|hk)
 ·exact .inl (.inl O)
 ·exact .inl (.inr (.inl O))
 obtain rfl:g=k:=by simpa[Value.ownBlock]using hk
 rcases ha with ha|ha
 ·exact .inl (.inr (.inr ha))
 exact .inr ha

def qNx (w:World)(x:Bj)(h:Bb w s most E lv bm)(hr:x.r∉BO E)(hJ:Wf (BO E++[x.r]))(hx:x.t=txt (BO E++[x.r]) (E.length+1))(hK:x.deep (E++[x]) (E.length+1))(hG:E.length<most):
  Calls Tryz.prog 105 #[.pointer (some ⟨s,0,none⟩),.agg #[.int .i64 (Rl.kind (x.r):Nat),.int .u8 (Rl.byte (x.r):Nat),.int .i64 (Rl.left (x.r):Nat),.int .i64 (Rl.right (x.r):Nat),.int .i64 (Rl.times (x.r):Nat),.int .i64 (List.length (x.t):Nat),.int .i64 (gQ (x.t):Nat),.int .i64 (kQ (x.t):Nat),.int .i64 (kR (x.t):Nat),.int .u64 (CS (x.t):Nat),.int .u64 (fI (x.t):Nat),.int .i64 x.d,.bool x.e]] w (Fu w s most lv bm (E++[x]) (.int .i64 ((E.length+1:Nat):Int))):=by
 have hm:most<=1048576:=h.most_le;obtain⟨i0,hi,hL,hM,hN⟩:=info_parts OG;have k1:=h.top.cell 1 O;have b0:=h.top.lt;have f1:=h.top.frozen 1;have n0:¬w.heap.size=s:=oO;have n1:¬w.heap.size+1=s:=oO;have HS:=Lib.hid h;have HR:=Lib.hid hr;have HOK:=Lib.hid hJ;have HX:=Lib.hid hx;have HDP:=Lib.hid hK;have hH:=Lib.hid h.row
 have hF:some s≠lv.ownBlock:=by
  intro e;rcases h.row.2 with⟨rfl,_⟩|⟨g,cap,cur,rfl,_,hg,_⟩
  ·cases e
  obtain rfl:s=g:=by simpa[Value.ownBlock]using e
  have:=h.top;unfold CQ at this;rw[hg]at this;simp at this
 have hI:some w.heap.size≠lv.ownBlock:=by
  intro e;have:=(h.row.lt _ e.symm).2;omega
 clear h hr hJ hx hK;go_enter Tryz.func105,Tryz.ntmps105
 go_wp2_with fail
 go_region_law
  (first |(refine step_append_lies _ ?_ (.tmp 10) (.tmp 12) 148 ?_ 0 132 i0 _ 13 104 MS hi hL hM hN (by rfl) (by decide) lv E.length (NB E) ?_ ?_ ⟨w.heap.size+1,0,none⟩ 1 1 x.cells ?_ (by rfl) ?_ ?_ (by decide) ?_ ?_ (av _) _ rfl ?_;rfl;rfl;go_must (rfl;(exact((hH.out.alloc _).alloc _).drew);rfl;(exact World.news_of_block (CQ.new_at (w.alloc _) (b:=w.heap.size+1) BF x.cells 132));(intro u hu;simp[Bj.cells]at hu;rcases hu with rfl|rfl|rfl|rfl|rfl|rfl|rfl|rfl|rfl|rfl|rfl|rfl|rfl<;>rfl);(unfold maxLen;omega);omega;intro g cap w1 hC hA hO hS;have y:=hA.cell_far ⟨s,1,none⟩ (by simp;omega) hF;have fz:=hA.frozen_far ⟨s,1,none⟩ (by simp;omega) hF)))
 all_goals
  have hT:s<w1.heap.size:=by have:=hA.size;simp at this;omega
  have hU:bm<w.heap.size:=(ic.1 HS.out.ids).1
  have hP:bm≠s:=by
   rintro rfl;have h1:=HS.out.ids;have h2:=HS.out.top;unfold CQ at h2;rw[h2]at h1;cases h1
  have hV:some bm≠lv.ownBlock:=by
   intro e;rcases HS.out.row.2 with⟨h0,_⟩|⟨g',cap',cur',h0,_,hW,_⟩
   ·rw[h0]at e;cases e
   rw[h0]at e;obtain rfl:bm=g':=by simpa[Value.ownBlock]using e
   have h1:=HS.out.ids;rw[hW]at h1;cases h1
  have hD:(w1.setCell ⟨s,1,none⟩ (.slice (some ⟨g,0,none⟩) (E.length+1) cap)).drew.heap[bm]?=some (.map (JA (BO E)) (BO E).length):=by
   show(w1.setCell _ _).heap[bm]?=_;rw[Below.heap_setCell _ _ _ _ hP,hA.block bm (by simp;omega) hV];show((w.alloc _).alloc _).heap[bm]?=_;rw[Below.heap_alloc _ _ _ (by simp;omega),Below.heap_alloc _ _ _ hU];exact HS.out.ids
  obtain⟨w2,hB,hE,hQ⟩:=qUh (BO E) x.r _ bm hD HR.out
  unfold Ip at hB
  rw[bQ]at hB
  have t1:CQ w1 s [.int .i64 most,lv,.map (some bm)] 150:=((HS.out.top.alloc _).alloc _).drew.grown hA hF
  have t2:CQ w1 w.heap.size x.cells 132:=((CQ.new_at w O x.cells _).alloc _).drew.grown hA hI
  have t3:=t1.set_same 1 (.slice (some ⟨g,0,none⟩) (E.length+1) cap)
  have t4:=t2.set_other (b':=s) oO 1 (.slice (some ⟨g,0,none⟩) (E.length+1) cap)
  simp only[Exit.then]
  refine tH (R:=fun wx=>CQ wx s [.int .i64 most,.slice (some ⟨g,0,none⟩) (E.length+1) cap,.map (some bm)] 150/\CQ wx w.heap.size x.cells 132/\(Instr.mapUpdate 147 (.map (some bm)) (.agg #[.int .i64 (Rl.kind (x.r):Nat),.int .u8 (Rl.byte (x.r):Nat),.int .i64 (Rl.left (x.r):Nat),.int .i64 (Rl.right (x.r):Nat),.int .i64 (Rl.times (x.r):Nat)]) (.int .i64 ((E.length:Int)+1))).run Tryz.prog wx.drew= .ok () w2) _ ⟨t3,t4,hB⟩ ?_
  rintro wx⟨u1,u2,hR⟩
  have j1:=u1.cell 1 O
  have j2:=u1.cell 2 O
  have r0:=u2.cell 0 O
  have r1:=u2.cell 1 O
  have r2:=u2.cell 2 O
  have r3:=u2.cell 3 O
  have r4:=u2.cell 4 O
  have HG:=Lib.hid hA
  have HG2:=Lib.hid hQ
  have HI2:=Lib.hid hE
  have HO:=Lib.hid hC
  have HA:=Lib.hid hO
  have T3:=Lib.hid t3
  clear t1 t2 t3 t4 hB hA hQ hE hC hD hO u1 u2 y fz hS k1 f1 hi hL hM hN
  go_wp2_with fail
  go_region
  all_goals go_wp2_with fail
  all_goals go_ret
  all_goals exact qVi HS.out HOK.out HX.out HDP.out hG HG.out HO.out (HA.out.imp id (fun e=>by simp at e;omega)) T3.out HI2.out HG2.out hP
end Go.Proofs.YtnicahfnolhgbaaGreatDoor
namespace Eg
def Wf.snoc {L r}(h:Wf L)(hr:r∉L)(hD:r.ok (L.length+1))(hC:L.length<fJ)(hB:len (L++[r]) (L.length+1)<=dC):Wf (L++[r]):=by
 have hA:∀(i:Nat)(q:Rl),(L++[r])[i]?=some q->(i<L.length/\L[i]?=some q)\/(i=L.length/\q=r):=by
  intro i q hq;by_cases hi:i<L.length
  ·rw[aj hi]at hq;exact .inl ⟨hi,hq⟩
  have hE:i<(L++[r]).length:=(ae.1 hq).1;have:i=L.length:=by simp at hE;omega
  subst this;rw[bi (ai _)]at hq;simp at hq;exact .inr ⟨O,hq.symm⟩
 refine⟨fun i q hq=>?_,fun i j q hi hj=>?_,fun i=>?_,by simp;omega⟩
 ·rcases hA i q hq with⟨_,h1⟩|⟨rfl,rfl⟩
  ·exact h.ok i q h1
  exact hD
 ·rcases hA i q hi with⟨_,h1⟩|⟨rfl,rfl⟩
  ·rcases hA j q hj with⟨_,h2⟩|⟨rfl,rfl⟩
   ·exact h.nodup i j q h1 h2
   exact absurd (ak h1) hr
  rcases hA j q hj with⟨_,h2⟩|⟨rfl,_⟩
  ·exact absurd (ak h2) hr
  rfl
 by_cases hi:i<=L.length
 ·rw[jB _ hi];exact h.short i
 by_cases hF:i=L.length+1
 ·subst hF;exact hB
 rw[Tm (by simp;omega)];exact av _
def vD (L:List Rl)(b:UInt8):txt (L++[.letter b]) (L.length+1)=[b]:=fP BF
def zI (L:List Rl){l r}(hl:1<=l)(hA:l<=L.length)(hr:1<=r)(hB:r<=L.length):txt (L++[.pair l r]) (L.length+1)=txt L l++txt L r:=by
 rw[iK (l:=l) (r:=r) BF ⟨hl,oO,hr,oO⟩,jX _ hA,jX _ hB]
def wN (L:List Rl){x k}(hx:1<=x)(hA:x<=L.length)(hk:2<=k):txt (L++[.power x k]) (L.length+1)=rep k (txt L x):=by
 rw[iY (x:=x) (k:=k) BF ⟨hx,oO,hk⟩,jX _ hA];rfl
def Wf.letter {L}(h:Wf L){b}(hr:Rl.letter b∉L)(hA:L.length<fJ):Wf (L++[.letter b]):=
 h.snoc hr trivial hA (by rw[len,vD];unfold dC;simp)
def Wf.pair {L}(h:Wf L){l r}(hr:Rl.pair l r∉L)(hA:L.length<fJ)(hl:1<=l)(hD:l<=L.length)(hC:1<=r)(hE:r<=L.length)(hB:len L l+len L r<=dC):Wf (L++[.pair l r]):=
 h.snoc hr ⟨hl,oO,hC,oO⟩ hA (by rw[len,zI L hl hD hC hE,aa];exact hB)
def Wf.power {L}(h:Wf L){x k}(hr:Rl.power x k∉L)(hA:L.length<fJ)(hx:1<=x)(hC:x<=L.length)(hk:2<=k)(hB:len L x*k<=dC):Wf (L++[.power x k]):=
 h.snoc hr ⟨hx,oO,hk⟩ hA (by rw[len,wN L hx hC hk,rep_length,oN];exact hB)
end Eg
namespace Go.Proofs.YtnicahfnolhgbaaGreatDoor
section
open Go Go.RowKit Eg
set_option maxRecDepth 100000
variable {w w':World}{s most bm:Nat}{E:List Bj}{lv:Value}

def Em (w:World)(s most:Nat)(lv:Value)(bm:Nat)(E:List Bj)(r:Rl)(e:Ending)(w':World):Prop:=
 ∃(lv':Value)(M:List Bj)(id:Nat),e= .returned (.tuple #[.int .i64 id,.nilIface])/\Bb w' s most (E++M) lv' bm/\M.length<=1/\1<=id/\(BO (E++M))[id-1]?=some r/\
  Gm (Dg s lv bm) w w'/\(∀k,Dg s lv' bm k->Dg s lv bm k\/w.heap.size<=k)/\(M=[]\/∃x:Bj,M=[x]/\x.r=r)

def Bb.apart (h:Bb w s most E lv bm){b c}{e:TypeId}(hb:CQ w b c e)(h1:e≠150)(h2:e≠132):¬Dg s lv bm b:=by
 unfold CQ at hb;rintro(rfl|rfl|hk)
 ·have:=h.top;unfold CQ at this;rw[hb]at this;simp at this;exact h1 this.2
 ·have:=h.ids;rw[hb]at this;cases this
 rcases h.row.2 with⟨h0,_⟩|⟨g,cap,cur,h0,_,hg,_⟩
 ·rw[h0]at hk;cases hk
 rw[h0]at hk;obtain rfl:g=b:=by simpa[Value.ownBlock]using hk
 rw[hb]at hg;simp at hg;exact h2 hg.2
def CQ.upd {F:Nat->Prop}{b c}{e:TypeId}(h:CQ w b c e)(hu:Gm F w w')(hF:¬F b):CQ w' b c e:=by
 have hA:=h.lt;unfold CQ at*;rw[hu.block b hA hF];exact h
def Gm.of_below {F:Nat->Prop}{w1}(hb:Below w.heap.size w w1)(hu:Gm F w1 w'):Gm F w w':=
 ⟨hu.os.trans hb.os,hu.tape.trans hb.tape,hu.output.trans hb.output,jv hb.size hu.size,fun k hk hF=>(hu.block k (mi hk hb.size) hF).trans (hb.block k hk)⟩
def Gm.refl (F:Nat->Prop)(w:World):Gm F w w:=⟨rfl,rfl,rfl,ai _,fun _ _ _=>rfl⟩

def XK {r:Rl}{w1:World}(h:Bb w s most E lv bm)(hb:Below w.heap.size w w1)(hr:EA (BO E) r≠0):Em w s most lv bm E r (.returned (.tuple #[.int .i64 (EA (BO E) r:Nat),.nilIface])) w1:=by
 have hm:r∈BO E:=Classical.byContradiction fun hn=>hr (mZ.2 hn)
 obtain⟨h1,h2⟩:=qYl hm;exact⟨lv,[],EA (BO E) r,O,by rw[ax];exact h.below hb,by simp,h1,by rw[ax];exact h2,Gm.of_below hb (Gm.refl _ _),fun k hk=> .inl hk,.inl rfl⟩
def XJ {x:Bj}{w1 w2:World}{e:Ending}(hb:Below w.heap.size w w1)(h:Fu w1 s most lv bm (E++[x]) (.int .i64 ((E.length+1:Nat):Int)) e w2):
  ∃lv',e= .returned (.int .i64 ((E.length+1:Nat):Int))/\Bb w2 s most (E++[x]) lv' bm/\Em w s most lv bm E x.r (.returned (.tuple #[.int .i64 ((E.length+1:Nat):Int),.nilIface])) w2:=by
 obtain⟨lv',rfl,hS,hU,hF⟩:=h;refine⟨lv',O,hS,lv',[x],E.length+1,O,hS,by simp,oO,?_,Gm.of_below hb hU,fun k hk=>?_,.inr ⟨x,rfl,rfl⟩⟩
 ·rw[dB,fu,bi (by rw[bQ];omega),bQ];simp[BO]
 rcases hF k hk with h1|h1
 ·exact .inl h1
 exact .inr (jv hb.size h1)

def RH {w1 w2 e E' v}(h:Fu w1 s most lv bm E' v e w2):Gm (Dg s lv bm) w1 w2:=by
 obtain⟨_,_,_,hU,_⟩:=h;exact hU

def ZX (w:World)(b:UInt8)(h:Bb w s most E lv bm)(hA:E.length<most):
  Calls Tryz.prog 90 #[.pointer (some ⟨s,0,none⟩),.int .u8 b.toNat] w (Em w s most lv bm E (.letter b)):=by
 have HS:=Lib.hid h;have hb:=b.toNat_lt;have hs:=h.top.lt;have hD:=fun W(hW:Bb W s most E lv bm)=>Wi W (.letter b) hW (.inr hA)
 have HFD:=Lib.hid hD;clear h hD;by_cases hz:EA (BO E) (.letter b)=0
 ·have HZ:=Lib.hid hz;go_enter Tryz.func90,Tryz.ntmps90
  go_wp2_with fail
  refine(HFD.out _ (HS.out.below (by go_grown))).mono ?_;rintro e w1⟨rfl,hB⟩;rw[HZ.out];have c1:CQ w1 w.heap.size [.int .i64 1,.int .u8 b.toNat,.int .i64 0,.int .i64 0,.int .i64 0] 111:=(CQ.new_at w O _ _).below hB BF;have hC:Below w.heap.size w w1:=Below.trans (by go_grown) (hB.mono BF);have hE:=HS.out.below hC;have k0:=c1.cell 0 O;have k1:=c1.cell 1 O;have k2:=c1.cell 2 O;have k3:=c1.cell 3 O;have k4:=c1.cell 4 O;have hF:=c1.lt;have HS1:=Lib.hid hE;have HW1:=Lib.hid hC;clear hB hE hC hz;go_wp2_with fail
  go_region_held3 (fun w'=>w'.cell? ⟨w.heap.size,0,none⟩=some (.int .i64 1)/\w'.cell? ⟨w.heap.size,1,none⟩=some (.int .u8 b.toNat)/\w'.cell? ⟨w.heap.size,2,none⟩=some (.int .i64 0)/\w'.cell? ⟨w.heap.size,3,none⟩=some (.int .i64 0)/\w'.cell? ⟨w.heap.size,4,none⟩=some (.int .i64 0)) (first |(go_keep;done)|(exact⟨c2.cell 0 rfl,c2.cell 1 rfl,c2.cell 2 rfl,c2.cell 3 rfl,c2.cell 4 rfl⟩)|(exact⟨c3.cell 0 rfl,c3.cell 1 rfl,c3.cell 2 rfl,c3.cell 3 rfl,c3.cell 4 rfl⟩))
   (first
    |(go_at_call 131;go_must (refine(qKi b _).mono ?_;rintro e w2⟨rfl,hG⟩;have c2:=c1.drew.below hG hF;have HW2:=Lib.hid (HW1.out.drew.trans (hG.mono (Ay hF)));have HS2:=Lib.hid (HS.out.below HW2.out)))
    |(go_at_call 105;go_must (refine(qNx _ ⟨.letter b,[b],0,true⟩ HS2.out (mZ.1 HZ.out) (HS.out.wf.letter (mZ.1 HZ.out) (by rw[bQ];exact mi hA HS.out.most_le)) (by rw[<-bQ];exact(vD _ _).symm) (qPd rfl rfl rfl) hA).mono ?_;intro e w3 hp;obtain⟨lv',rfl,hI,hH⟩:=XJ HW2.out hp;have c3:=c2.upd (RH hp) (HS2.out.apart c2 (by decide) (by decide)))))
  go_wp2_with fail
  go_ret2
  exact hH
 have hJ:(((EA (BO E) (.letter b):Nat):Int) !=0)=true:=by simp[hz]
 have HZ:=Lib.hid hz;clear hz;go_enter Tryz.func90,Tryz.ntmps90
 go_wp2_with fail
 refine(HFD.out _ (HS.out.below (by go_grown))).mono ?_;rintro e w1⟨rfl,hB⟩;have hC:Below w.heap.size w w1:=Below.trans (by go_grown) (hB.mono BF);have HW1:=Lib.hid hC;clear hB hC;go_wp2_with fail
 go_ret2
 exact XK HS.out HW1.out HZ.out
end
section
open Go Go.RowKit Eg
set_option maxRecDepth 100000
variable {w w':World}{s most bm:Nat}{E:List Bj}{lv:Value}

def pV (w:World)(i:Nat)(h:Bb w s most E lv bm)(hi:i<E.length):
  Calls Tryz.prog 47 #[.pointer (some ⟨s,0,none⟩),.int .i64 ((i+1:Nat):Int)] w fun e w'=>e= .returned (.bool true)/\w=w':=by
 have hA:=pU w ((i+1:Nat):Int) h;have hd:(decide ((0:Int)<=((i+1:Nat):Int))&&decide (((i+1:Nat):Int)<=(E.length:Int)))=true:=by simp;omega
 rwa [hd]at hA

def ZW {args:Array Value}(w:World)(x:Bj)(h:Bb w s most E lv bm)(hr:x.r∉BO E)(hB:Wf (BO E++[x.r]))(hx:x.t=txt (BO E++[x.r]) (E.length+1))(hC:x.deep (E++[x]) (E.length+1))(hA:E.length<most)
  (ha:args= #[.pointer (some ⟨s,0,none⟩),.agg #[.int .i64 (Rl.kind (x.r):Nat),.int .u8 (Rl.byte (x.r):Nat),.int .i64 (Rl.left (x.r):Nat),.int .i64 (Rl.right (x.r):Nat),.int .i64 (Rl.times (x.r):Nat),.int .i64 (List.length (x.t):Nat),.int .i64 (gQ (x.t):Nat),.int .i64 (kQ (x.t):Nat),.int .i64 (kR (x.t):Nat),.int .u64 (CS (x.t):Nat),.int .u64 (fI (x.t):Nat),.int .i64 x.d,.bool x.e]]):
  Calls Tryz.prog 105 args w (Fu w s most lv bm (E++[x]) (.int .i64 ((E.length+1:Nat):Int))):=by
 subst ha;exact qNx w x h hr hB hx hC hA

def Wj (w:World)(i j:Nat)(xl xr:Bj)(h:Bb w s most E lv bm)(hi:E[i]?=some xl)(hj:E[j]?=some xr)(hC:xl.t.length+xr.t.length<=dC)(hA:E.length<most):
  Calls Tryz.prog 91 #[.pointer (some ⟨s,0,none⟩),.int .i64 ((i+1:Nat):Int),.int .i64 ((j+1:Nat):Int)] w (Em w s most lv bm E (.pair (i+1) (j+1))):=by
 have hN:i<E.length:=(ae.1 hi).1;have hO:j<E.length:=(ae.1 hj).1;have hP:E.length<=1048576:=jv h.fits h.most_le;have HS:=Lib.hid h;have HI:=Lib.hid hi;have HJ:=Lib.hid hj
 have hI:0<=xl.d/\xl.d<=1048576/\0<=xr.d/\xr.d<=1048576:=by
  have a:=(h.deeps i xl hi).1;have b:=(h.deeps j xr hj).1;have c:=dep_le h.wf (i+1) (by rw[bQ];omega);have d:=dep_le h.wf (j+1) (by rw[bQ];omega);omega
 have HBD:=Lib.hid hI;clear hI;have HLEN:=Lib.hid hC;have hs:=h.top.lt;have hJ:=fun W(hW:Bb W s most E lv bm)=>Wi W (.pair (i+1) (j+1)) hW (.inr hA)
 have HFD:=Lib.hid hJ;have z1:(((i+1:Nat):Int)==0)=false:=by simp;omega
 have z2:(((j+1:Nat):Int)==0)=false:=by simp;omega
 clear h hJ hi hj hC;go_enter Tryz.func91,Tryz.ntmps91
 go_wp2_with fail
 refine(pV _ i HS.out hN).mono ?_;rintro e w'⟨rfl,rfl⟩;go_wp2_with fail
 refine(pV _ j HS.out hO).mono ?_;rintro e w'⟨rfl,rfl⟩;go_wp2_with fail
 refine(zH _ i xl HS.out HI.out).mono ?_;rintro e w1⟨rfl,hE⟩;have HS1:=Lib.hid (HS.out.below hE);have HW1:=Lib.hid hE;clear hE;go_wp2_with fail
 refine(zH _ j xr HS1.out HJ.out).mono ?_;rintro e w2⟨rfl,hF⟩;have HS2:=Lib.hid (HS1.out.below hF);have HW2:=Lib.hid (HW1.out.trans (hF.mono HW1.out.size));clear hF;go_wp2_with fail
 refine(vZ _ _ _ HLEN.out).mono ?_;rintro e w'⟨rfl,rfl⟩;go_wp2_with fail
 refine(HFD.out _ (HS2.out.below (by go_grown))).mono ?_;rintro e w3⟨rfl,hD⟩;have c1:CQ w3 w2.heap.size xl.cells 132:=(((CQ.new_at w2 O xl.cells _).alloc _).alloc _).below hD (by simp <;>omega);have c2:CQ w3 (w2.heap.size+1) xr.cells 132:=((CQ.new_at _ BF xr.cells _).alloc _).below hD (by simp <;>omega);have c3:CQ w3 (w2.heap.size+1+1) [.int .i64 2,.int .u8 0,.int .i64 ((i+1:Nat):Int),.int .i64 ((j+1:Nat):Int),.int .i64 0] 111:=(CQ.new_at _ BF _ _).below hD BF;have HW3:=Lib.hid (HW2.out.trans (Below.mono (Below.trans (b:=((w2.alloc (.cells xl.cells.toArray 132)).alloc (.cells xr.cells.toArray 132)).alloc (.cells #[.int .i64 2,.int .u8 0,.int .i64 ((i+1:Nat):Int),.int .i64 ((j+1:Nat):Int),.int .i64 0] 111)) (by go_grown) (hD.mono (by simp;omega))) HW2.out.size));have HS3:=Lib.hid (HS.out.below HW3.out);have hQ:w.heap.size<=w2.heap.size:=HW2.out.size;clear hD;by_cases hz:EA (BO E) (.pair (i+1) (j+1))=0
 ·have HZ:=Lib.hid hz;rw[HZ.out];clear hz;have k5:=c1.cell 5 O;have k6:=c1.cell 6 O;have k7:=c1.cell 7 O;have k8:=c1.cell 8 O;have k9:=c1.cell 9 O;have hR:=c1.cell 10 O;have m5:=c2.cell 5 O;have m6:=c2.cell 6 O;have m7:=c2.cell 7 O;have m8:=c2.cell 8 O;have m9:=c2.cell 9 O;have hS:=c2.cell 10 O;go_wp2_with fail
  refine(qQj _ _ _ HLEN.out).mono ?_;rintro e w4⟨rfl,hB⟩;have d1:=c1.below hB c1.lt;have d2:=c2.below hB c2.lt;have d3:=c3.below hB c3.lt;have HW4:=Lib.hid (HW3.out.trans (hB.mono HW3.out.size));have HS4:=Lib.hid (HS3.out.below hB);clear hB k5 k6 k7 k8 k9 hR m5 m6 m7 m8 m9 hS c1 c2 c3;have hU:=d1.cell 11 O;have hV:=d1.cell 12 O;have hX:=d2.cell 11 O;have hY:=d2.cell 12 O;have r0:=d3.cell 0 O;have r1:=d3.cell 1 O;have r2:=d3.cell 2 O;have r3:=d3.cell 3 O;have r4:=d3.cell 4 O;have hZ:=d3.lt;have ha:=d1.lt;have hb:=d2.lt;have hG:=HS.out.texts i xl HI.out;have hH:=HS.out.texts j xr HJ.out;have hK:Wf (BO E++[.pair (i+1) (j+1)]):=HS.out.wf.pair (mZ.1 HZ.out) (by rw[bQ];exact mi hA HS.out.most_le) oO (by rw[bQ];omega) oO (by rw[bQ];omega) (by unfold len;rw[<-hG,<-hH];exact HLEN.out)
  have hL:xl.t++xr.t=txt (BO E++[.pair (i+1) (j+1)]) (E.length+1):=by
   rw[hG,hH,<-bQ,zI _ oO (by rw[bQ];omega) oO (by rw[bQ];omega)]
  have HWF:=Lib.hid hK;have HTX:=Lib.hid hL;clear hG hH hK hL;go_wp2_with fail
  all_goals
   refine(ZW _ ⟨.pair (i+1) (j+1),xl.t++xr.t,_,_⟩ (HS4.out.below (by go_grown)) (mZ.1 HZ.out) HWF.out HTX.out ?_ hA (by simp only[aa,zb];rfl)).mono ?_
   ·refine qXp HS.out.deeps O HI.out HJ.out ?_ ?_
    ·have HB:=HBD.out
     show wrap64 (1+_)=1+max xl.d xr.d
     rw[vH _ oO]
     omega
    have HB:=HBD.out
    first
    |(rw[show xl.e=false from Bool.eq_false_iff.2 (by assumption)];rfl)
    |(rw[show xr.e=false from Bool.eq_false_iff.2 (by assumption),Au];rfl)
    |(have hw:wrap64 (xl.d-xr.d)< -1:=by assumption
      rw[vH _ oO]at hw
      rw[oM (show ¬xr.d<=xl.d+1 by omega),Au,Au])
    |(have h1:xl.e=true:=by assumption
      have h2:xr.e=true:=by assumption
      have hw: -1<=wrap64 (xl.d-xr.d):=by assumption
      rw[vH _ oO]at hw
      show decide (wrap64 (xl.d-xr.d)<=1)=_
      rw[vH _ oO,h1,h2,oI (show xr.d<=xl.d+1 by omega)]
      simp only[Bool.true_and,Bool.and_true]
      exact decide_eq_decide.2 oO)
   intro e w5 hp
   obtain⟨lv',rfl,hT,hM⟩:=XJ (HW4.out.trans (Below.alloc (Below.refl _ _) HW4.out.size _)) hp
   have HP5:=Lib.hid hM
   clear hp hT hM
   go_wp2_with fail
   go_ret2
   exact HP5.out
 have hc:(((EA (BO E) (.pair (i+1) (j+1)):Nat):Int) !=0)=true:=by simp[hz]
 have HZ:=Lib.hid hz;clear hz;go_wp2_with fail
 go_ret2
 exact XK HS.out HW3.out HZ.out
end
section
open Go Go.RowKit Eg
set_option maxRecDepth 100000
variable {w w':World}{s most bm:Nat}{E:List Bj}{lv:Value}

def Zr (w:World)(i k:Nat)(xl:Bj)(h:Bb w s most E lv bm)(hi:E[i]?=some xl)(hk:2<=k)(hB:xl.t.length*k<=dC)(hA:E.length<most):
  Calls Tryz.prog 65 #[.pointer (some ⟨s,0,none⟩),.int .i64 ((i+1:Nat):Int),.int .i64 k] w (Em w s most lv bm E (.power (i+1) k)):=by
 have hN:i<E.length:=(ae.1 hi).1;have hO:E.length<=1048576:=jv h.fits h.most_le;have hF:=h.texts i xl hi
 have hH:0<=xl.d/\xl.d<=1048576:=by
  have a:=(h.deeps i xl hi).1;have c:=dep_le h.wf (i+1) (by rw[bQ];exact(ae.1 hi).1);have d:=h.wf.room;have e:fJ=1048576:=rfl;have f:=(ae.1 hi).1;rw[bQ]at d;omega
 have HBD:=Lib.hid hH;have HID:=Lib.hid hi;clear hH;have hC:1<=xl.t.length:=by rw[hF];exact h.wf.pos (i+1) oO (by rw[bQ];omega)
 have hP:k<=dC:=jv (wh k hC) hB;have hI:xl.t.length<=dC:=jv (vw _ oO) hB;have HTI:=Lib.hid hF;have HPOS:=Lib.hid hC;have HLE:=Lib.hid hI;have HS:=Lib.hid h;have HI:=Lib.hid hi;have HLEN:=Lib.hid hB;have hs:=h.top.lt;have hJ:=fun W(hW:Bb W s most E lv bm)=>Wi W (.power (i+1) k) hW (.inr hA)
 have HFD:=Lib.hid hJ;have z1:(((i+1:Nat):Int)==0)=false:=by simp;omega
 have z2:((k:Int)==0)=false:=by simp;omega
 have z3:((k:Int)==1)=false:=by simp;omega
 have z4:decide ((k:Int)<0)=false:=by simp
 clear h hJ hi hB hF hC hP hI;go_enter Tryz.func65,Tryz.ntmps65
 go_wp2_with fail
 refine(pV _ i HS.out hN).mono ?_;rintro e w'⟨rfl,rfl⟩;go_wp2_with fail
 refine(zH _ i xl HS.out HI.out).mono ?_;rintro e w2⟨rfl,hG⟩;have HS2:=Lib.hid (HS.out.below hG);have HW2:=Lib.hid hG;clear hG;go_wp2_with fail
 refine(qGz _ k _ HLE.out HPOS.out HLEN.out).mono ?_;rintro e w'⟨rfl,rfl⟩;go_wp2_with fail
 refine(HFD.out _ (HS2.out.below (by go_grown))).mono ?_;rintro e w3⟨rfl,hE⟩;have c1:CQ w3 w2.heap.size xl.cells 132:=((CQ.new_at w2 O xl.cells _).alloc _).below hE (by simp <;>omega);have c3:CQ w3 (w2.heap.size+1) [.int .i64 3,.int .u8 0,.int .i64 ((i+1:Nat):Int),.int .i64 0,.int .i64 k] 111:=(CQ.new_at _ BF _ _).below hE BF;have HW3:=Lib.hid (HW2.out.trans (Below.mono (Below.trans (b:=(w2.alloc (.cells xl.cells.toArray 132)).alloc (.cells #[.int .i64 3,.int .u8 0,.int .i64 ((i+1:Nat):Int),.int .i64 0,.int .i64 k] 111)) (by go_grown) (hE.mono (by simp;omega))) HW2.out.size));have HS3:=Lib.hid (HS.out.below HW3.out);have hQ:w.heap.size<=w2.heap.size:=HW2.out.size;clear hE;by_cases hz:EA (BO E) (.power (i+1) k)=0
 ·have HZ:=Lib.hid hz;rw[HZ.out];clear hz;have k5:=c1.cell 5 O;have k6:=c1.cell 6 O;have k7:=c1.cell 7 O;have k8:=c1.cell 8 O;have k9:=c1.cell 9 O;have hR:=c1.cell 10 O;go_wp2_with fail
  refine(qKj _ k _ HPOS.out oO HLEN.out).mono ?_;rintro e w4⟨rfl,hD⟩;have d1:=c1.below hD c1.lt;have d3:=c3.below hD c3.lt;have HW4:=Lib.hid (HW3.out.trans (hD.mono HW3.out.size));have HS4:=Lib.hid (HS3.out.below hD);clear hD k5 k6 k7 k8 k9 hR c1 c3;have hT:=d1.cell 11 O;have hU:=d1.cell 12 O;have r0:=d3.cell 0 O;have r1:=d3.cell 1 O;have r2:=d3.cell 2 O;have r3:=d3.cell 3 O;have r4:=d3.cell 4 O;have hV:=d3.lt;have hX:=d1.lt;have hK:Wf (BO E++[.power (i+1) k]):=HS.out.wf.power (mZ.1 HZ.out) (by rw[bQ];exact mi hA HS.out.most_le) oO (by rw[bQ];omega) hk (by unfold len;rw[<-HTI.out];exact HLEN.out)
  have hL:rep k xl.t=txt (BO E++[.power (i+1) k]) (E.length+1):=by
   rw[HTI.out,<-bQ,wN _ oO (by rw[bQ];omega) hk]
  have HWF:=Lib.hid hK;have HTX:=Lib.hid hL;clear hK hL;go_wp2_with fail
  all_goals
   refine(ZW _ ⟨.power (i+1) k,rep k xl.t,_,_⟩ (HS4.out.below (by go_grown)) (mZ.1 HZ.out) HWF.out HTX.out ?_ hA (by rfl)).mono ?_
   ·refine qTw HS.out.deeps O hk HID.out ?_ O
    have HB:=HBD.out
    show wrap64 (1+_)=1+xl.d
    rw[vH _ oO]
   intro e w5 hp
   obtain⟨lv',rfl,hS,hM⟩:=XJ (HW4.out.trans (Below.alloc (Below.refl _ _) HW4.out.size _)) hp
   have HP5:=Lib.hid hM
   clear hp hS hM
   go_wp2_with fail
   go_ret2
   exact HP5.out
 have hY:(((EA (BO E) (.power (i+1) k):Nat):Int) !=0)=true:=by simp[hz]
 have HZ:=Lib.hid hz;clear hz;go_wp2_with fail
 go_ret2
 exact XK HS.out HW3.out HZ.out
end
end Go.Proofs.YtnicahfnolhgbaaGreatDoor
namespace Sl
open Go Go.RowKit Go.Proofs.YtnicahfnolhgbaaGreatDoor
variable {w0 w w':World}{H:List HP}
def IY (F:Nat->Prop)(w:World):HP:=fun h=>∀k,F k->h k=w.heap[k]?/\w.heap[k]?≠none
def CR.swap {p'}{F F':Nat->Prop}(s:CR w0 w (IY F w::H))(hu:Gm F w w')(hA:∀k,F' k->F k\/w.heap.size<=k) (hB:∀h,(∀k,F' k->h k=w'.heap[k]?)->p' h):CR w0 w' (p'::H):=by
 obtain⟨h1,h2,d,e,hp,hq⟩:=s.hp;have hE:=s.size
 have hN:∀k,F k->w0.heap.size<=k/\h2 k=none:=by
  intro k hk;obtain⟨x,y⟩:=hp k hk;have hx:h1 k≠none:=by rw[x];exact y
  have hC:h2 k=none:=(d k).resolve_left hx;refine⟨?_,hC⟩;have:=congrFun e k;unfold mW at this;split at this
  ·exact absurd (kS.1 this.symm).1 hx
  omega
 refine⟨hu.os.trans s.os,hu.tape.trans s.tape,hu.output.trans s.output,jv s.size hu.size,fun k hk=>(hu.block k (mi hk s.size) (fun hF=>by have:=(hN k hF).1;omega)).trans (s.old k hk),?_⟩;refine⟨fun k=>if(h2 k).isSome then none else mW w0 w' k,h2,?_,?_,hB _ (fun k hk=>?_),hq⟩
 ·intro k;cases x:h2 k with
  |none=>exact .inr rfl
  |some o=>exact .inl (by simp[x])
 ·funext k;cases x:h2 k with
  |none=>simp[join,x]
  |some o=>
   simp only[join,x,zx,if_true,Av]
   have:=congrFun e k
   rw[kZ d x]at this
   rw[<-this]
   unfold mW at this ⊢
   split
   ·rfl
   rename_i hk
   rw[if_neg hk]at this
   exact hu.block k (ic.1 this).1 (fun hF=>by rw[(hN k hF).2]at x;cases x)
 have hD:h2 k=none/\w0.heap.size<=k:=by
  rcases hA k hk with h| h
  ·exact⟨(hN k h).2,(hN k h).1⟩
  refine⟨?_,oO⟩;cases x:h2 k with
  |none=>rfl
  |some o=>
   have:=congrFun e k
   rw[kZ d x]at this
   unfold mW at this
   rw[if_neg oO]at this
   have:=(ic.1 this).1
   omega
 simp only[hD.1];unfold mW;rw[if_neg BF,if_neg oO]
def CR.as {p}(s:CR w0 w (p::H)){φ:(Nat->Prop)->World->Prop}(hp:∀h,p h->∃F w1,φ F w1/\∀k,F k->h k=w1.heap[k]?/\w1.heap[k]?≠none) (hφ:∀F w1,φ F w1->(∀k,F k->w.heap[k]?=w1.heap[k]?)->φ F w):∃F,φ F w/\CR w0 w (IY F w::H):=by
 obtain⟨h1,h2,d,e,hh,hq⟩:=s.hp;obtain⟨F,w1,h3,h4⟩:=hp h1 hh
 have hk:∀k,F k->h1 k=w.heap[k]?/\w.heap[k]?=w1.heap[k]?:=by
  intro k hF;obtain⟨x,y⟩:=h4 k hF;have:=congrFun e k;cases hh1:h1 k with
  |none=>rw[hh1]at x;exact absurd x.symm y
  |some o=>
   rw[tJ hh1]at this
   unfold mW at this
   split at this
   ·cases this
   exact⟨this.symm,by rw[this,<-x,hh1]⟩
 exact⟨F,hφ F w1 h3 (fun k hF=>(hk k hF).2),s.os,s.tape,s.output,s.size,s.old,⟨h1,h2,d,e,fun k hF=>⟨(hk k hF).1,by rw[(hk k hF).2];exact(h4 k hF).2⟩,hq⟩⟩
end Sl
namespace Go.Proofs.YtnicahfnolhgbaaGreatDoor
open Go Go.RowKit Sl Eg
variable {E:Bp}{w w':World}{s most bm:Nat}{Es:List Bj}{lv:Value}
def Bb.here (h:Bb w s most Es lv bm):∀k,Dg s lv bm k->w.heap[k]?≠none:=by
 rintro k(rfl|rfl|hk)
 ·have:=h.top;unfold CQ at this;rw[this];simp
 ·rw[h.ids];simp
 have:=(h.row.lt k hk).2;intro hn;rw[Array.getElem?_eq_none_iff]at hn;omega
def Bb.move (h:Bb w s most Es lv bm)(hk:∀k,Dg s lv bm k->w'.heap[k]?=w.heap[k]?):Bb w' s most Es lv bm:=by
 refine⟨?_,⟨h.row.1,?_⟩,by rw[hk bm (.inr (.inl rfl))];exact h.ids,h.wf,h.texts,h.most_le,h.fits,h.deeps⟩
 ·have:=h.top;unfold CQ at this ⊢;rw[hk s (.inl rfl)];exact this
 rcases h.row.2 with h0|⟨g,cap,cur,h0,hb,hg,r⟩
 ·exact .inl h0
 exact .inr ⟨g,cap,cur,h0,hb,by rw[hk g (.inr (.inr (by rw[h0];rfl)))];exact hg,r⟩
def bR (s most:Nat)(Es:List Bj):HP:=fun h=>∃w lv bm,Bb w s most Es lv bm/\∀k,Dg s lv bm k->h k=w.heap[k]?
def zD {w0 H}(hs:CR w0 w (bR s most Es::H)):∃lv bm,Bb w s most Es lv bm/\CR w0 w (IY (Dg s lv bm) w::H):=by
 obtain⟨F,⟨lv,bm,rfl,h⟩,hA⟩:=hs.as (φ:=fun F w=>∃lv bm,F=Dg s lv bm/\Bb w s most Es lv bm) (fun h⟨w1,lv,bm,h1,h2⟩=>⟨Dg s lv bm,w1,⟨lv,bm,rfl,h1⟩,fun k hk=>⟨h2 k hk,h1.here k hk⟩⟩)
  (fun F w1⟨lv,bm,hF,h1⟩hk=>⟨lv,bm,hF,h1.move (by rw[<-hF];exact hk)⟩)
 exact⟨lv,bm,h,hA⟩
def qH {w0 H Es' lv'}(hs:CR w0 w (IY (Dg s lv bm) w::H))(h:Bb w' s most Es' lv' bm)(hu:Gm (Dg s lv bm) w w')(hF:∀k,Dg s lv' bm k->Dg s lv bm k\/w.heap.size<=k):CR w0 w' (bR s most Es'::H):=
 hs.swap hu hF (fun _ hh=>⟨w',lv',bm,h,hh⟩)
def jH {f args v}(hE:BP E)(h:∀w lv bm,Bb w s most Es lv bm->Calls Tryz.prog f ⟨args⟩ w (fun e w'=>e= .returned v/\Below w.heap.size w w')):
  Ct E f args [bR s most Es] (fun u Q=>u=v/\Q=[bR s most Es]):=fun R w hs=>by
 obtain⟨lv,bm,hS,_⟩:=zD hs;rw[hE.P];exact(h w lv bm hS).mono fun e w'⟨h1,h2⟩=>⟨v,_,h1,⟨O,O⟩,hs.grow h2⟩
def sS {f args r}(hE:BP E)(h:∀w lv bm,Bb w s most Es lv bm->Calls Tryz.prog f ⟨args⟩ w (Em w s most lv bm Es r)):
  Ct E f args [bR s most Es] (fun u Q=>∃(M:List Bj)(id:Nat),u= .tuple #[BL id,.nilIface]/\M.length<=1/\1<=id/\(BO (Es++M))[id-1]?=some r/\Q=[bR s most (Es++M)]):=fun R w hs=>by
 obtain⟨lv,bm,hS,hA⟩:=zD hs;rw[hE.P];exact(h w lv bm hS).mono fun e w'⟨lv',M,id,h1,h2,h3,h4,h5,h6,h7,_⟩=>⟨_,_,h1,⟨M,id,O,h3,h4,h5,O⟩,qH hA h2 h6 h7⟩
def NG (s most:Nat)(Es:List Bj)(r:Rl)(u:Value)(Q:List HP):Prop:=∃(M:List Bj)(id:Nat),u= .tuple #[.int .i64 id,.nilIface]/\1<=id/\(BO (Es++M))[id-1]?=some r/\(M=[]\/∃x:Bj,M=[x]/\x.r=r)/\Q=[bR s most (Es++M)]
def rH {f args r}(hE:BP E)(h:∀w lv bm,Bb w s most Es lv bm->Calls Tryz.prog f ⟨args⟩ w (Em w s most lv bm Es r)):Ct E f args [bR s most Es] (NG s most Es r):=fun R w hs=>by
 obtain⟨lv,bm,hS,hA⟩:=zD hs;rw[hE.P];exact(h w lv bm hS).mono fun e w'⟨lv',M,id,h1,h2,h3,h4,h5,h6,h7,h8⟩=>⟨_,_,h1,⟨M,id,O,h4,h5,h8,O⟩,qH hA h2 h6 h7⟩
def Zw {w w'}(h:w=w'):Below w.heap.size w w':=by subst h;exact Below.refl _ _

def Rf (hE:BP E):Ct E 34 [uPt s] [bR s most Es] (fun u Q=>u= BK Es.length/\Q=[bR s most Es]):=
 jH hE fun w _ _ h=>(zAs w h).mono fun _ _⟨h1,h2⟩=>⟨h1,Zw h2⟩
def kF (hE:BP E){i x}(hi:Es[i]?=some x):Ct E 38 [uPt s,BL ((i+1:Nat):Int)] [bR s most Es] (fun u Q=>u= .tuple #[.agg #[BK (Rl.kind (x.r)),.int .u8 (Rl.byte (x.r):Nat),BK (Rl.left (x.r)),BK (Rl.right (x.r)),BK (Rl.times (x.r))],.nilIface]/\Q=[bR s most Es]):=
 jH hE fun w _ _ h=>qVa w i x h hi
def qM (hE:BP E){i x}(hi:Es[i]?=some x):Ct E 21 [uPt s,BL ((i+1:Nat):Int)] [bR s most Es] (fun u Q=>u= .tuple #[.agg #[BK (List.length (x.t)),BK (gQ (x.t)),BK (kQ (x.t)),BK (kR (x.t)),.int .u64 (CS (x.t):Nat),.int .u64 (fI (x.t):Nat)],.nilIface]/\Q=[bR s most Es]):=
 jH hE fun w _ _ h=>qNz w i x h hi
def qGl (hE:BP E):Ct E 21 [uPt s,BL 0] [bR s most Es] (fun u Q=>u= .tuple #[.agg #[BL 0,BL 0,BL 0,BL 0,.int .u64 0,.int .u64 1],.nilIface]/\Q=[bR s most Es]):=
 jH hE fun w _ _ h=>qJz w h
def qLo (hE:BP E)(b:UInt8)(hA:Es.length<most):Ct E 90 [uPt s,.int .u8 b.toNat] [bR s most Es]
  (fun u Q=>∃(M:List Bj)(id:Nat),u= .tuple #[.int .i64 id,.nilIface]/\M.length<=1/\1<=id/\(BO (Es++M))[id-1]?=some (.letter b)/\Q=[bR s most (Es++M)]):=
 sS hE fun w _ _ h=>ZX w b h hA
def qXa (hE:BP E){i j:Nat}{xl xr:Bj}(hi:Es[i]?=some xl)(hj:Es[j]?=some xr)(hB:xl.t.length+xr.t.length<=dC)(hA:Es.length<most):Ct E 91 [uPt s,.int .i64 ((i+1:Nat):Int),.int .i64 ((j+1:Nat):Int)] [bR s most Es]
  (fun u Q=>∃(M:List Bj)(id:Nat),u= .tuple #[.int .i64 id,.nilIface]/\M.length<=1/\1<=id/\(BO (Es++M))[id-1]?=some (.pair (i+1) (j+1))/\Q=[bR s most (Es++M)]):=
 sS hE fun w _ _ h=>Wj w i j xl xr h hi hj hB hA
def Xc (hE:BP E){i k:Nat}{xl:Bj}(hi:Es[i]?=some xl)(hk:2<=k)(hB:xl.t.length*k<=dC)(hA:Es.length<most):Ct E 65 [uPt s,.int .i64 ((i+1:Nat):Int),.int .i64 k] [bR s most Es]
  (fun u Q=>∃(M:List Bj)(id:Nat),u= .tuple #[.int .i64 id,.nilIface]/\M.length<=1/\1<=id/\(BO (Es++M))[id-1]?=some (.power (i+1) k)/\Q=[bR s most (Es++M)]):=
 sS hE fun w _ _ h=>Zr w i k xl h hi hk hB hA
def qTn (hE:BP E)(b:UInt8)(hA:Es.length<most):Ct E 90 [uPt s,.int .u8 b.toNat] [bR s most Es] (NG s most Es (.letter b)):=
 rH hE fun w _ _ h=>ZX w b h hA
def KA (hE:BP E){i j:Nat}{xl xr:Bj}(hi:Es[i]?=some xl)(hj:Es[j]?=some xr)(hB:xl.t.length+xr.t.length<=dC)(hA:Es.length<most):Ct E 91 [uPt s,.int .i64 ((i+1:Nat):Int),.int .i64 ((j+1:Nat):Int)] [bR s most Es] (NG s most Es (.pair (i+1) (j+1))):=
 rH hE fun w _ _ h=>Wj w i j xl xr h hi hj hB hA
def qXc (hE:BP E){i k:Nat}{xl:Bj}(hi:Es[i]?=some xl)(hk:2<=k)(hB:xl.t.length*k<=dC)(hA:Es.length<most):Ct E 65 [uPt s,.int .i64 ((i+1:Nat):Int),.int .i64 k] [bR s most Es] (NG s most Es (.power (i+1) k)):=
 rH hE fun w _ _ h=>Zr w i k xl h hi hk hB hA
def dR {h}(hs:bR s most Es h):Wf (BO Es)/\(∀(i:Nat)(x:Bj),Es[i]?=some x->x.t=txt (BO Es) (i+1))/\most<=fJ/\Es.length<=most:=by
 obtain⟨w,lv,bm,h,_⟩:=hs;exact⟨h.wf,h.texts,h.most_le,h.fits⟩
