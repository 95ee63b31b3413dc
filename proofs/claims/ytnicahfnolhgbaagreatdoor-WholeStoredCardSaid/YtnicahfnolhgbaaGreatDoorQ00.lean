import Derived.Deep.AppendLies
import Derived.KernelRfl
import Derived.Lib.AppendZeros
import Derived.Lib.AppendZerosOnto
set_option linter.all false
set_option maxHeartbeats 1000000
def O {α:Sort _}{a:α}:a=a:=rfl
def oO {p}(h:p:=by omega):p:=h
def oK {p}(h:p:=by kernel_rfl):p:=h
def aa:=@List.length_append
def ae:=@List.getElem?_eq_some_iff
def ag:=@List.getElem?_eq_getElem
def ah:=@List.append_assoc
def ai:=@Nat.le_refl
def aj:=@List.getElem?_append_left
def ak:=@List.mem_of_getElem?
def au:=@congrArg
def av:=@Nat.zero_le
def ax:=@List.append_nil
def ay:=@List.mem_append
def az:=@List.length_cons
def bf:=@List.length_singleton
def bg:=@List.mem_singleton
def bi:=@List.getElem?_append_right
def bn:=@List.getElem?_map
def bq:=@List.eq_nil_or_concat
def bu:=@List.concat_eq_append
def bz:=@Nat.le_of_ble_eq_true
def cu:=@List.mem_append_left
def dh:=@List.take_append_drop
def di:=@List.mem_cons
def dw:=@List.eq_nil_of_length_eq_zero
def dz:=@List.replicate_succ
def ed:=@List.take_add_one
def fe:=@List.take_of_length_le
def fu:=@Nat.add_sub_cancel
def fw:=@Nat.lt_or_ge
def ic:=@Array.getElem?_eq_some_iff
def ig:=@List.length_take
def ik:=@Bool.and_eq_true
def iw:=@List.length_nil
def jg:=@List.mem_map
def jh:=@Nat.zero_add
def jo:=@Nat.eq_zero_or_pos
def jq:=@List.cons_append
def jr:=@List.length_map
def jv:=@Nat.le_trans
def jw:=@List.nil_append
def jy:=@List.mem_append_right
def kg:=@Nat.mul_le_mul_right
def ko:=@List.flatten_cons
def ku:=@List.getElem?_eq_none
def kv:=@List.map_append
def kw:=@List.not_mem_nil
def kz:=@List.map_cons
def lg:=@List.mem_cons_of_mem
def lh:=@List.getD_eq_getElem?_getD
def lm:=@Nat.min_eq_left
def lu:=@List.getElem?_range
def lw:=@List.length_drop
def ma:=@List.drop_of_length_le
def mf:=@List.getElem?_of_mem
def mg:=@Nat.eq_of_beq_eq_true
def mh:=@List.ext_getElem?
def mi:=@Nat.lt_of_lt_of_le
def mo:=@Array.length_toList
def mq:=@List.mem_of_mem_take
def mr:=@List.drop_eq_getElem_cons
def ng:=@List.nodup_append
def ni:=@List.getElem?_take
def nk:=@List.mem_cons_self
def nu:=@List.take_length
def ny:=@Int.toNat_natCast
def nz:=@Int.natCast_mul
def oC:=@List.mem_range
def oD:=@List.take_succ_cons
def oF:=@Array.getElem?_setIfInBounds_ne
def oG:=@List.replicate_succ'
def oH:=@Option.some.inj
def oI:=@decide_eq_true
def oJ:=@List.take_zero
def oL:=@List.getElem?_eq_none_iff
def oM:=@decide_eq_false
def oN:=@Nat.mul_comm
def oP:=@Int.natCast_nonneg
def oQ:=@List.replicate_append_replicate
def oU:=@List.drop_zero
def oV:=@Nat.mul_one
def oW:=@List.take_append_of_le_length
def oZ:=@List.length_eq_one_iff
def og:=@List.drop_succ_cons
def oh:=@Nat.succ.inj
def ol:=@Nat.pow_le_pow_right
def om:=@List.getElem?_drop
def oo:=@List.nodup_iff_pairwise_ne
def oq:=@List.mem_of_getLast?
def ou:=@Bool.false_eq_true
def ow:=@List.mem_filter
def oz:=@Option.map_eq_some_iff
def pm:=@List.length_pos_iff
def pu:=@Nat.mul_le_mul_left
def pz:=@List.drop_append_of_le_length
def qa:=@Nat.add_assoc
def qb:=@Int.natCast_pow
def qc:=@Nat.add_mul
def qd:=@Nat.add_sub_cancel_left
def qf:=@List.mem_of_mem_drop
def qg:=@List.map_nil
def qh:=@Array.getElem?_eq_none
def qi:=@List.map_congr_left
def qj:=@Array.getElem?_modify
def ql:=@List.mem_replicate
def qm:=@Nat.mod_eq_of_lt
def qo:=@List.map_take
def qp:=@List.map_drop
def qw:=@List.filterMap_cons_some
def qx:=@List.map_map
def qy:=@List.getLast?_eq_some_getLast
def qz:=@List.flatMap_cons
def rf:=@List.getLast?_cons_cons
def ry:=@Option.some.injEq
def rz:=@List.getElem?_cons_succ
def si:=@List.length_eq_zero_iff
def sj:=@List.foldl_cons
def tq:=@Nat.mod_lt
def tu:=@List.flatten_append
def uf:=@Nat.sub_self
def ug:=@Nat.testBit_lt_two_pow
def uh:=@Array.getElem_setIfInBounds
def uj:=@List.drop_length
def uk:=@Nat.shiftLeft_eq
def ul:=@Nat.xor_lt_two_pow
def um:=@List.length_filter_le
def uo:=@List.pairwise_iff_getElem
def uq:=@List.nodup_cons
def ut:=@Option.map_some
def uu:=@Bool.eq_iff_iff
def uw:=@List.pairwise_append
def uy:=@List.foldl_append
def uz:=@Nat.lt_trichotomy
def vg:=@Nat.mul_assoc
def vk:=@Array.setIfInBounds_comm
def vo:=@Option.isSome_iff_exists
def vv:=@Nat.and_two_pow_sub_one_eq_mod
def vw:=@Nat.le_mul_of_pos_right
def vz:=@Int.mul_le_mul_of_nonneg_left
def wh:=@Nat.le_mul_of_pos_left
def wm:=@Bool.or_eq_true
def wo:=@List.length_replicate
def wu:=@List.pairwise_map
def ww:=@List.head?_append
def wy:=@Array.getElem?_append_left
def wz:=@Nat.mod_two_eq_zero_or_one
def xc:=@List.drop_drop
def xe:=@List.take_left
def xf:=@Array.toList_inj
def xg:=@Option.getD_some
def xh:=@Nat.add_zero
def xk:=@Int.natCast_ediv
def xm:=@Nat.le_antisymm
def xn:=@Nat.mul_mod_mod
def xq:=@List.take_left'
def xu:=@Nat.sub_add_cancel
def xw:=@List.filter_cons_of_neg
def xx:=@List.filter_cons_of_pos
def xy:=@List.getElem?_replicate
def xz:=@List.set_eq_take_append_cons_drop
def yc:=@Bool.not_eq_true'
def yf:=@List.size_toArray
def yg:=@List.drop_eq_nil_of_le
def yh:=@Array.all_eq_true_iff_forall_mem
def yj:=@Array.getElem?_toList
def ym:=@List.count_cons_of_ne
def yn:=@Nat.testBit_shiftLeft
def yo:=@List.append_inj'
def yu:=@Int.le_refl
def yw:=@List.getLast?_append
def yx:=@Nat.pow_add
def yz:=@Nat.div_lt_of_lt_mul
def za:=@List.cons.injEq
def zb:=@Int.natCast_add
def ze:=@Array.toList_modify
def zf:=@List.takeWhile_cons
def zg:=@List.length_reverse
def zh:=@Nat.pow_succ
def zi:=@Nat.zero_mul
def zk:=@Nat.two_pow_add_eq_or_of_lt
def zl:=@Nat.mul_le_mul
def zm:=@Option.toList_some
def zo:=@Nat.blt_eq
def zq:=@List.foldl_nil
def zt:=@Array.toList_setIfInBounds
def zu:=@Int.tmod_eq_emod_of_nonneg
def zw:=@List.perm_ext_iff_of_nodup
def zx:=@Option.isSome_some
def zy:=@List.mapM_cons
def zz:=@List.getElem?_zip_eq_some
def AA:=@Array.mapM_eq_mapM_toList
def AB:=@Nat.one_mul
def AC:=@Array.toList_push
def AJ:=@Int.emod_eq_of_lt
def AL:=@List.mem_of_head?
def AO:=@List.filterMap_cons_none
def AP:=@List.length_erase_of_mem
def AQ:=@List.Pairwise.imp_of_mem
def AR:=@List.getElem_mem
def AU:=@Int.natCast_emod
def AV:=@List.all_eq_true
def AX:=@Array.toList_map
def AY:=@Int.eq_ofNat_of_zero_le
def AZ:=@Option.bind_some
def Aa:=@List.eraseIdx_cons_succ
def Ab:=@List.getElem?_cons_zero
def Ac:=@List.length_pos_of_mem
def Ad:=@List.pairwise_lt_range
def Ae:=@Nat.ne_of_beq_eq_false
def Af:=@List.head?_drop
def Ag:=@Nat.mod_mul_mod
def Ah:=@Nat.le_div_iff_mul_le
def Ai:=@List.modify_zero_cons
def Aj:=@List.modify_succ_cons
def Ak:=@List.eraseIdx_sublist
def Al:=@List.getElem?_toArray
def Am:=@List.drop_take
def Ao:=@List.take_take
def Ap:=@Nat.mul_add
def Aq:=@List.drop_left
def Ar:=@Nat.le_succ
def Au:=@Bool.and_false
def Av:=@Option.none_or
def Aw:=@Nat.add_comm
def Ay:=@Nat.le_of_lt
def Az:=@Nat.lt_trans
def BA:=@Nat.mul_succ
theorem BC {p:Prop}(h:p:=by repeat first |exact trivial|refine⟨rfl,?_⟩):p:=h
theorem BD {p:Prop}(h:p:=by simp only;omega):p:=h
theorem BF {p:Prop}(h:p:=by simp):p:=h
theorem BG {α:Type _}{l:List α}{i:Nat}(h:i<l.length:=by omega):∃x,l[i]?=some x:=⟨_,List.getElem?_eq_getElem h⟩
namespace Go.Proofs.YtnicahfnolhgbaaGreatDoor
open Go

def qBq {P:Program}(w:World)(t tn ty:TypeId)(Di:Nat)(e:TypeId)(i:TypeInfo)(z:Value)(kn:IntKind)(size bytes:Nat)(ht:P.underlying t=some (.slice e))(hL:P.underlying tn=some (.int kn))(hi:P.info? e=some i)(hz:i.zero=some z)
  (hF:i.size=size) (hY:i.bytes=bytes) (hT:z.cells.size=size) (hd:0<size) (h1:∀u∈z.cells.toList,u.oneCell'=true)
  (v:Value) (n:Nat) (xs:List Value) (hA:w.ownsRow Di e size v n xs) (k:Nat) (h0:0<k) (hU:n+k<=maxLen) (hD:(n+k)*bytes<=140737488355328) (hG:Di<=w.heap.size):
  ∃g cap w',(Builtin.append_ #[t,tn] ty #[v,.int .i64 k]).run P w= .ok (.slice (some ⟨g,0,none⟩) (n+k) cap) w'/\
   w'.ownsRow Di e size (.slice (some ⟨g,0,none⟩) (n+k) cap) (n+k) (xs++(Builtin.zeroCells z.cells k).toList)/\w.grownBy w' v.ownBlock/\(v.ownBlock=some g\/g=w.heap.size)/\g<w'.heap.size:=by
 subst hF;subst hY;have hM:n+k<=9223372036854775807:=by simp only[maxLen]at hU;omega
 have hV:(Builtin.zeroCells z.cells k).toList.length=k*i.size:=by simp[size_zeroCells,hT]
 have hC:(xs++(Builtin.zeroCells z.cells k).toList).length=(n+k)*i.size:=by rw[aa,hA.1,hV,qc]
 have hW:k*i.bytes<=281474976710656:=by
  have:=kg i.bytes (show k<=n+k by omega);omega
 have grown:∀(old:Nat),∀(row:Option Nat),
   (w.drew.alloc (.cells (xs.toArray++Builtin.zeroCells z.cells k++Builtin.zeroCells z.cells (grownCap w (n+k) old e-(n+k))) e)).ownsRow Di e i.size
    (.slice (some ⟨w.heap.size,0,none⟩) (n+k) (grownCap w (n+k) old e)) (n+k) (xs++(Builtin.zeroCells z.cells k).toList)/\
   w.grownBy (w.drew.alloc (.cells (xs.toArray++Builtin.zeroCells z.cells k++Builtin.zeroCells z.cells (grownCap w (n+k) old e-(n+k))) e)) row:=by
  intro old row;have hZ:=grownCap_ge w (n+k) old e;have hN:grownCap w (n+k) old e<=maxLen:=grownCap_le_maxLen w (n+k) old e hU;refine⟨⟨hC,.inr ⟨w.heap.size,_,_,O,hG,heap_alloc_new w.drew _,hZ,hN,?_,?_⟩⟩,⟨O,O,O,by simp,fun j hj _=>heap_alloc_old w.drew _ j hj⟩⟩
  ·simp only[Array.size_append,yf,size_zeroCells,hT,hA.1,<-qc];congr 1;omega
  simp only[Array.toList_append,ah];rw[<-ah,<-hC];exact xe
 rcases hA.2 with⟨rfl,rfl⟩|⟨g,cap,cur,rfl,ha,hg,he,hN,hb,hH⟩
 ·have hx:xs=[]:=dw (by simpa using hA.1);subst hx;have hr:=Lib.run_append_nil_zeros (P:=P) w t tn ty e i z .i64 kn ht hL hi hz k h0 oO oO hW;have hE:=grown 0 (Value.ownBlock (.slice none 0 0));simp only[jh,jw,Array.empty_append]at hE ⊢;exact⟨_,_,_,hr,hE.1,hE.2,.inr O,by simp⟩
 have hO:g<w.heap.size:=(ic.1 hg).1;by_cases hB:n+k<=cap
 ·have hI:n*i.size+(Builtin.zeroCells z.cells k).toList.length<=cur.size:=by rw[hV,hb,<-qc];exact kg _ hB
  have hP:∀u∈(Builtin.zeroCells z.cells k).toList,u.oneCell'=true:=by
   intro u hu;simp only[Builtin.zeroCells,AX,jg]at hu;obtain⟨j,_,rfl⟩:=hu;have hj:j%z.cells.size<z.cells.size:=tq _ oO;rw[getElem!_pos z.cells _ hj];exact h1 _ (by simp)
  have hX:=run_storeCells_at P g (n*i.size) e (Builtin.zeroCells z.cells k).toList 0 cur w hg (by simpa using hI) hP;simp only[xh]at hX;refine⟨g,cap,w.setRow g (cur.toList.take (n*i.size)++(Builtin.zeroCells z.cells k).toList++cur.toList.drop (n*i.size+(Builtin.zeroCells z.cells k).toList.length)).toArray,?_,⟨hC,.inr ⟨g,cap,_,O,ha,setRow_heap w g cur _ e _ hg,hB,hN,?_,?_⟩⟩,⟨O,O,O,by simp,fun j _ hj=>setRow_other w g j _ (fun e=>hj (by simp[Value.ownBlock,e]))⟩,.inl rfl,by simpa using hO⟩
  ·have hw:IntKind.i64.wrap (k:Int)=k:=by rw[IntKind.wrap_i64];omega
   have hQ:¬((k:Int)<0):=oO;have hR:¬(281474976710656<(k:Int)*(i.bytes:Int)):=(by rw[<-nz];omega);have hc:¬(k*i.size=0):=Nat.mul_ne_zero oO oO;simp[Builtin.append_,run_underlying ht,run_underlying hL,sizeOf,typeInfo,zeroValue,hi,hz,asInt,asIntOf,hw,hQ,hc,hR,hB,Addr.add_lit,hX]
  ·have hJ:=hI;rw[mo]at hJ;simp only[yf,aa,ig,lw,mo];omega
  rw[hH,<-hC];exact xe
 have hK:∀j u,xs[j]?=some u->w.cell? ((⟨g,0,none⟩:Addr).add j)=some u:=hA.cells (g:=g) O
 have hS:(Builtin.firstCells i.size n (.slice (some ⟨g,0,none⟩) n cap)).run P w.drew= .ok xs.toArray w.drew:=
  run_firstCells_some (P:=P) w.drew i.size n ⟨g,0,none⟩ n cap xs hA.1 hK
 have hr:=Lib.run_append_grow_zeros (P:=P) w t tn ty e i z .i64 kn ht hL hi hz (some ⟨g,0,none⟩) n cap xs hS k h0 oO oO oO hW (growslice_fits oO hD);have hE:=grown cap (Value.ownBlock (.slice (some ⟨g,0,none⟩) n cap));exact⟨_,_,_,hr,hE.1,hE.2,.inr O,by simp⟩
