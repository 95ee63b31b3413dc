import Derived.Test.YtlmpojkmeglepaaGreatDoorQ72
set_option linter.all false
set_option maxHeartbeats 1000000
namespace Go.Proofs.YtlmpojkmeglepaaGreatDoor
open Go Go.RowKit Sl Eg
def te (L:List Rl)(K:Nat):List Nat→Bool×Bool
 |[]=>(false,true)
 |x::r=>if(te L K r).2=true then(if Eg.key L x=K then(!(te L K r).1,true)else((te L K r).1,false))else te L K r
theorem te_one (L:List Rl)(K x:Nat):te L K [x]=(decide (Eg.key L x=K),decide (Eg.key L x=K)):=by
 by_cases h:Eg.key L x=K<;>simp[te,h]
theorem qLy (L:List Rl)(K:Nat)(B:List Nat):∀A:List Nat,te L K (A++B)=if(te L K B).2=true then((te L K A).1^^(te L K B).1,(te L K A).2)else te L K B
 |[]=>by
  simp only[List.nil_append,te,Bool.false_xor]
  split
  ·rename_i h;rw[←h]
  rfl
 |x::A=>by
  have ih:=qLy L K B A
  simp only[List.cons_append,te]
  rw[ih]
  by_cases h:(te L K B).2=true
  ·rw[if_pos h]
   simp only
   by_cases hA:(te L K A).2=true
   ·rw[if_pos hA,if_pos hA,if_pos h]
    by_cases e:Eg.key L x=K
    ·rw[if_pos e,if_pos e];simp
    rw[if_neg e,if_neg e]
   rw[if_neg hA,if_neg hA,if_pos h]
  rw[if_neg h,if_neg h,if_neg h]
theorem te_rep (L:List Rl)(K:Nat)(A:List Nat):∀t,1≤t→te L K (List.replicate t A).flatten=if(te L K A).2=true then(if t%2=0 then false else(te L K A).1,true)else te L K A
 |0,h=>by omega
 |1,_=>by
  simp only[List.replicate_succ,List.replicate_zero,List.flatten_cons,List.flatten_nil,List.append_nil]
  split
  ·rename_i h;rw[if_neg oO,←h]
  rfl
 |t+2,_=>by
  have ih:=te_rep L K A (t+1) oO
  rw[List.replicate_succ,List.flatten_cons,qLy,ih]
  by_cases h:(te L K A).2=true
  ·rw[if_pos h,if_pos h]
   simp only[if_true,h]
   have e:(t+2)%2=t%2:=oO
   rcases Nat.mod_two_eq_zero_or_one t with h0|h1
   ·rw[if_neg oO,if_pos oO];simp
   rw[if_pos oO,if_neg oO];simp
  rw[if_neg h,if_neg h,if_neg h]
theorem qMa {L:List Rl}{K:Nat}:∀{A:List Nat},(te L K A).2=true→∀x∈A,Eg.key L x=K
 |[],_,x,hx=>by simp at hx
 |a::A,h,x,hx=>by
  simp only[te]at h
  by_cases hA:(te L K A).2=true
  ·rw[if_pos hA]at h
   by_cases e:Eg.key L a=K
   ·rcases List.mem_cons.1 hx with rfl|hx
    ·exact e
    exact qMa hA x hx
   rw[if_neg e]at h;cases h
  rw[if_neg hA]at h;exact absurd h hA
theorem qQe {L:List Rl}{c:Nat}{X X':List Nat}(h:Pg L c X X'):∀{u:Nat},X.getLast?=some u→X'.getLast?=some u∨∃z,eQ c (Eg.key L z) (Eg.key L u):=by
 induction h with
 |nil=>intro u hu;simp at hu
 | @one x r o h1 h2 ih=>
  intro u hu
  rcases rE x r with⟨rfl,e⟩|⟨b,e1,e2⟩
  ·rw[e]at hu
   cases hu
   cases h2
   exact .inl O
  rw[e2]at hu
  cases hu
  rcases ih e1 with h| h
  ·exact .inl (nC x h)
  exact .inr h
 | @two x y j r o h1 h2 h3 ih=>
  intro u hu
  rcases rE y r with⟨rfl,e⟩|⟨b,e1,e2⟩
  ·rw[List.getLast?_cons_cons,e]at hu
   cases hu
   exact .inr ⟨x,h1⟩
  rw[List.getLast?_cons_cons,e2]at hu
  cases hu
  rcases ih e1 with h| h
  ·exact .inl (nC _ h)
  exact .inr h
def nA:Rl→Nat
 | .pair _ b=>b
 | .power y _=>y
 | .letter _=>0
theorem qHe {α:Type}{l:List α}{a:α}(h:l.getLast?=some a):∀t,1≤t→(List.replicate t l).flatten.getLast?=some a
 |0,h=>by omega
 |1,_=>by simpa using h
 |t+2,_=>by
  rw[List.replicate_succ,List.flatten_cons,List.getLast?_append,qHe h (t+1) oO]
  rfl
theorem vJ {L:List Rl}(hw:Wf L){l A a:Nat}{m:Nat}(hA:A≤L.length)(hm:l≤m)(h:(expd L m A).getLast?=some a)(ha:1≤a∧a≤L.length):(expd L l A).getLast?=(expd L l a).getLast?∧(lvl L a≤(l:Nat)→(expd L l A).getLast?=some a):=by
 obtain⟨C,e⟩:=List.getLast?_eq_some_iff.1 h
 have e1:expd L l A=fF L l C++expd L l a:=by
  rw[←fE (x:=A) (l:=l),←jK hw hm (by simpa using hA),fE,e,fQ,fE]
 have hne:expd L l a≠[]:=fun e=>by have:=(nJ hw (l:=l) a ha.1 ha.2).1;rw[e]at this;simp at this
 obtain⟨b,hb⟩:∃b,(expd L l a).getLast?=some b:=⟨_,List.getLast?_eq_some_getLast hne⟩
 have e2:(expd L l A).getLast?=(expd L l a).getLast?:=by rw[e1,List.getLast?_append,hb];rfl
 exact⟨e2,fun hl=>by rw[e2,dZ ha.1 hl];rfl⟩
theorem vI {L:List Rl}(hw:Wf L){l A a:Nat}{m:Nat}(hA:A≤L.length)(hm:l≤m)(h:(expd L m A).head?=some a)(ha:1≤a∧a≤L.length):(expd L l A).head?=(expd L l a).head?∧(lvl L a≤(l:Nat)→(expd L l A).head?=some a):=by
 obtain⟨C,e⟩:∃C,expd L m A=a::C:=by
  cases e:expd L m A with
  |nil=>rw[e]at h;cases h
  |cons z D=>rw[e]at h;cases h;exact⟨D,rfl⟩
 have e1:expd L l A=expd L l a++fF L l C:=by
  rw[←fE (x:=A) (l:=l),←jK hw hm (by simpa using hA),fE,e]
  have:a::C=[a]++C:=rfl
  rw[this,fQ,fE]
 have hne:expd L l a≠[]:=fun e=>by have:=(nJ hw (l:=l) a ha.1 ha.2).1;rw[e]at this;simp at this
 have e2:(expd L l A).head?=(expd L l a).head?:=by rw[e1,qKz hne]
 exact⟨e2,fun hl=>by rw[e2,dZ ha.1 hl];rfl⟩
theorem qGr {L:List Rl}(hw:Wf L){n:Nat}{r:Rl}(hr:L[n]?=some r){h:Nat}(hl:lvl L (n+1)=(h:Nat))(h0:1≤h):(expd L (h-1) (n+1)).getLast?=some (nA r)∧(expd L (h-1) (n+1)).head?=some r.left∧1≤nA r∧nA r≤L.length∧1≤r.left∧r.left≤L.length∧0≤lvl L (nA r)∧lvl L (nA r)<(h:Nat)∧0≤lvl L r.left∧lvl L r.left<(h:Nat):=by
 have hk:=hw.ok n r hr
 have hn:=(List.getElem?_eq_some_iff.1 hr).1
 cases r with
 |letter b=>have:=(fT hr).2;omega
 |pair a b=>
  obtain⟨h1,h2,h3,h4⟩:=hk
  obtain⟨g1,g2,g3,g4,_⟩:=kE hw (x:=n+1) oO hr oO
  have gp:=(jA hr (hw.ok _ _ hr)).2
  rw[hl]at gp
  split at gp
  ·rename_i hc
   simp only[nA,Rl.left]
   have ea:=(vJ hw (A:=b) (a:=b) (m:=h-1) (l:=h-1) oO (Nat.le_refl _) (by rw[dZ h3 oO];rfl) ⟨h3,oO⟩).2 oO
   have eb:=(vI hw (A:=a) (a:=a) (m:=h-1) (l:=h-1) oO (Nat.le_refl _) (by rw[dZ h1 oO];rfl) ⟨h1,oO⟩).2 oO
   rw[fZ hw hr oO]
   refine⟨by rw[List.getLast?_append,ea];rfl,?_,h3,oO,h1,oO,hc.2.2,oO,hc.2.1,oO⟩
   rw[dZ h1 oO]
   rfl
  omega
 |power y t=>
  obtain⟨h1,h2,h3⟩:=hk
  obtain⟨g1,g2⟩:=lW hw (x:=n+1) oO hr oO
  have gp:=(jE hr (hw.ok _ _ hr)).2
  rw[hl]at gp
  split at gp
  ·rename_i hc
   simp only[nA,Rl.left]
   rw[gF hw hr oO,dZ h1 oO]
   refine⟨qHe O t oO,?_,h1,oO,h1,oO,hc.1,oO,hc.1,oO⟩
   obtain⟨t,rfl⟩:∃s,t=s+1:=⟨t-1,oO⟩
   rw[List.replicate_succ,List.flatten_cons]
   rfl
  omega
end Go.Proofs.YtlmpojkmeglepaaGreatDoor
namespace Sl
open Go Go.RowKit
variable {E:Env}{n:Nat}{L:Fr}{S:List HP}{ty:TypeId}{pos:String}{af:Array Edge}{d:Option Nat}{gd:Option (Nat×Bool)}
theorem y_shl {x y:Operand}{xt yt:TypeId}{i j:Nat}(hx:ev L x=some (.int .u64 (i:Nat)))(hy:ev L y=some (.int .i64 (j:Nat)))(hj:j≤64)(hb:i*2^j<18446744073709551616):
  Yl E n L S ⟨d,.binOp .shl xt x y yt,ty,pos,af,gd⟩ (.int .u64 ((i*2^j:Nat):Int)):=fun a w g _=>by
 have e:IntKind.u64.wrap ((i:Int)*2^min ((j:Nat):Int).toNat IntKind.u64.bits)=((i*2^j:Nat):Int):=by
  rw[Int.toNat_natCast,show min j IntKind.u64.bits=j from Nat.min_eq_left hj]
  have e2:(i:Int)*2^j=((i*2^j:Nat):Int):=by rw[Int.natCast_mul,Int.natCast_pow];rfl
  rw[e2,IntKind.wrap_u64]
  omega
 have h:=shift_shl_any .u64 .i64 (i:Int) ((j:Nat):Int) (Int.natCast_nonneg j)
 rw[e]at h
 simp[execOp,eqGuard,binOp,g.ev hx,g.ev hy,h]
 have e2:(i:Int)*2^j=((i*2^j:Nat):Int):=by rw[Int.natCast_mul,Int.natCast_pow];rfl
 rw[e2,IntKind.wrap_u64]
 omega
theorem y_or64 {x y:Operand}{xt yt:TypeId}{i j:Nat}(hx:ev L x=some (.int .u64 (i:Nat)))(hy:ev L y=some (.int .u64 (j:Nat)))(hi:i<18446744073709551616)(hj:j<18446744073709551616):
  Yl E n L S ⟨d,.binOp .or xt x y yt,ty,pos,af,gd⟩ (.int .u64 ((i|||j:Nat):Int)):=fun a w g _=>by
 have h:=bits_or_u64_nat i j hi hj
 simp[execOp,eqGuard,binOp,Op.intBits,g.ev hx,g.ev hy]
 exact h
set_option maxRecDepth 100000 in
theorem and_127:∀m:Fin 256,IntKind.u8.wrap (((BitVec.ofInt IntKind.u8.bits (m.val:Int)&&&BitVec.ofInt IntKind.u8.bits 127).toNat:Nat):Int)=((m.val%128:Nat):Int):=by decide
theorem y_and127 {x y:Operand}{xt yt:TypeId}{i:Nat}(hi:i<256)(hx:ev L x=some (.int .u8 (i:Nat)))(hy:ev L y=some (.int .u8 127)):
  Yl E n L S ⟨d,.binOp .and xt x y yt,ty,pos,af,gd⟩ (.int .u8 ((i%128:Nat):Int)):=fun a w g q=>by
 have:=y_and (xt:=xt) (yt:=yt) (ty:=ty) (pos:=pos) (af:=af) (d:=d) (gd:=gd) (S:=S) hx hy a w g q
 have e:=and_127 ⟨i,hi⟩
 simp only at e
 rw[e]at this
 exact this
end Sl
namespace Go.Proofs.YtlmpojkmeglepaaGreatDoor
open Go Go.RowKit Sl Eg
set_option maxRecDepth 10000
section
variable {E:Env}
theorem or_sum {a d j:Nat}(h:a<2^j):a|||d*2^j=a+d*2^j:=by
 rw[Nat.or_comm,Nat.mul_comm,←Nat.two_pow_add_eq_or_of_lt h,Nat.add_comm]
theorem byC_head {Bs:List UInt8}{i:Nat}{b:UInt8}(h:Bs[i]?=some b)(o:Nat)(ho:o=i):(byC Bs)[o]?=some (.int .u8 (b.toNat:Nat)):=by subst ho;unfold byC;rw[List.getElem?_map,h];rfl
end
section
variable {E:Env}
def vwA (a:Option Addr)(c k:Nat):Option Addr:=if c=k then a else a.map (·.add (k*1))
theorem qKk (Bs:List UInt8)(k:Nat):byC (Bs.drop k)=(byC Bs).drop k:=by unfold byC;rw[List.map_drop]
theorem qF {w0:World}{a:Option Addr}{Bs:List UInt8}{q:HP}{c k:Nat}(h:Rdb w0 a (byC Bs) q)(hc:Bs.length≤c):Rdb w0 (vwA a c k) (byC (Bs.drop k)) q:=fun hne=>by
 have hk:k<Bs.length:=by
  apply Classical.byContradiction
  intro hn
  rw[List.drop_eq_nil_of_le oO]at hne
  exact hne O
 obtain⟨g,o,rfl,hr⟩:=h (qKl (by intro e;rw[e]at hk;simp at hk))
 unfold vwA
 rw[if_neg oO]
 refine⟨g,o+k,by simp[Addr.add],fun u hu i v hv=>?_⟩
 rw[qKk,List.getElem?_drop]at hv
 have:=hr u hu (k+i) v hv
 rw[Nat.add_assoc]
 exact this
end
end Go.Proofs.YtlmpojkmeglepaaGreatDoor
namespace Sl
open Go Go.RowKit
variable {E:Env}{n:Nat}{L:Fr}{S H H':List HP}{ty:TypeId}{pos:String}{af:Array Edge}{d:Option Nat}{gd:Option (Nat×Bool)}{K:Value→List HP→Prop}{Q:Exit→Act→World→Prop}
theorem qQg {x y:Operand}{t e:TypeId}{b o c dl dc k cc N m g go by_ sz sz':Nat}{xs us zs zs':List Value}{kk:TK}{q:HP}{H'':List HP}(ht:E.tab t=some ⟨.slice e 1 by_,sz,zs⟩)(he:E.tab e=some ⟨kk,sz',zs'⟩)
  (hx:ev L x=some (.slice (some ⟨b,o,none⟩) dl dc)) (hy:ev L y=some (.slice (some ⟨g,go,none⟩) k cc)) (hq:∀z,q z→RdAt E.w0 g go us z) (hm:Take q H H') (hm2:Take (sl (some ⟨b,0,none⟩) c e 1 N xs) H' H'') (hp:iK us=true) (hl:us.length=m) (hmm:m=Nat.min k dl) (hN:o+m≤N)
  (hk:K (.int .i64 (m:Nat)) (q::sl (some ⟨b,0,none⟩) c e 1 N (bX xs o us)::H'')):Ld E n L H ⟨d,.call {callee:= .builtin .copy,args:= #[x,y],argTypes:= #[t,t]},ty,pos,af,gd⟩ K:=fun Q next a w G hn=>by
 obtain⟨hu,j,hj,hs,hby⟩:=fI ht
 obtain⟨i,z,hi,hi2,hiz,hzc,_⟩:=fG he
 obtain rfl:i=j:=by rw[hi]at hj;simpa using hj
 have s1:=G.hp.take hm
 have s2:Sat E.w0 w (sl (some ⟨b,0,none⟩) c e i.size N xs::q::H''):=by rw[hs];exact(s1.imp fun _ h=>gZ (fU (fun _=>hm2.out) h))
 have hnews:∀j u,us[j]?=some u→w.cell? ((⟨g,go,none⟩:Addr).add j)=some u:=fun j u hu=>by rw[addr_add];exact qAn hq s1 hu
 obtain⟨w',hr,ho⟩:=yM hu hi ty (dc:=dc) (cc:=cc) s2 hmm (by rw[hs,Nat.mul_one];exact hl) hnews hp (by rw[hs,Nat.mul_one,Nat.mul_one];exact hN)
 rw[hs]at ho
 have hrun:(execOp a.eval ⟨d,.call {callee:= .builtin .copy,args:= #[x,y],argTypes:= #[t,t]},ty,pos,af,gd⟩).run E.P w= .ok (.value (.int .i64 (m:Nat))) w':=by
  simp[execOp,resolve,invoke,builtin,G.f.ev hx,G.f.ev hy,hr]
 unfold Oper.wp
 rw[hrun,Oper.upon_value]
 exact hn _ _ _ hk (ho.imp fun _ h=>gZ h)
theorem ld_makeU {x:Operand}{t e:TypeId}{c es by_ sz sz':Nat}{zs zs':List Value}{kk:TK}(ht:E.tab t=some ⟨.slice e es by_,sz,zs⟩)(he:E.tab e=some ⟨kk,sz',zs'⟩)
  (hx:ev L x=some (.int .u64 (c:Nat))) (hb:by_*c≤281474976710656) (hc:c≤maxLen)
  (hk:∀b us,us.length=c*es→K (.slice (some ⟨b,0,none⟩) c c) (sl (some ⟨b,0,none⟩) c e es c us::H)):Ld E n L H ⟨d,.makeSlice t x x,ty,pos,af,gd⟩ K:=fun Q next a w G hn=>by
 obtain⟨hu,j,hj,hs,hby⟩:=fI ht
 obtain⟨i,z,hi,hi2,hiz,hzc,_⟩:=fG he
 obtain rfl:i=j:=by rw[hi]at hj;simpa using hj
 subst hs hby
 have h63:(c:Int)≤9223372036854775807:=by have h:=hc;simp[maxLen]at h;omega
 have hr:=run_make (P:=E.P) w t e i z hu hi hiz .u64 .u64 (c:Int) (c:Int) (Int.natCast_nonneg c) (Int.le_refl _) (by rw[←Int.natCast_mul];omega) h63
 have hrun:(execOp a.eval ⟨d,.makeSlice t x x,ty,pos,af,gd⟩).run E.P w= .ok (.value (.slice (some ⟨w.heap.size,0,none⟩) c c)) (w.alloc (.cells (madeCells z.cells (c*i.size)) e)):=by
  simp[execOp,G.f.ev hx,hr]
 unfold Oper.wp
 rw[hrun,Oper.upon_value]
 have hz:=size_madeCells z.cells (c*i.size)
 generalize madeCells z.cells (c*i.size)=M at*
 refine hn _ _ _ (hk _ M.toList (by simpa using hz)) ?_
 have:=G.hp.new (.cells M e)
 exact this.imp fun _=>gI fun _ h=>eO (by simpa using hz) hc _ h
end Sl
namespace Go.Proofs.YtlmpojkmeglepaaGreatDoor
open Go Go.RowKit Sl Eg
set_option maxRecDepth 10000
section
variable {E:Env}
theorem qOj (bs:List UInt8):iK (byC bs)=true:=by
 induction bs with
 |nil=>rfl
 |cons b bs ih=>exact ih
end
section
variable {E:Env}
def nmI (A:List (List UInt8×Nat)):List (List UInt8×Int):=A.map fun p=>(p.1,(p.2:Int))
def Prv (A:List (List UInt8×Nat))(k:Nat)(prev:List UInt8):Prop:=(k=0∧prev=[])∨∃p,1≤k∧A[k-1]?=some p∧prev=p.1
end
end Go.Proofs.YtlmpojkmeglepaaGreatDoor
