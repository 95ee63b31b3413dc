import Derived.Deep.AppendLies
import Derived.KernelRfl
import Derived.Lib.AppendZeros
import Derived.Lib.AppendZerosOnto
set_option linter.all false
set_option maxHeartbeats 1000000
def O {α:Sort _}{a:α}:a=a:=rfl
def oO {p:Prop}(h:p:=by omega):p:=h
def oK {p:Prop}(h:p:=by kernel_rfl):p:=h
def ae:=@List.length_append
def ag:=@List.getElem?_eq_some_iff
def ah:=@List.getElem?_eq_getElem
def ai:=@List.append_assoc
def aj:=@Nat.le_refl
def ak:=@List.mem_of_getElem?
def au:=@Nat.zero_le
def av:=@List.append_nil
def ax:=@List.getElem?_append_left
def ay:=@List.length_singleton
def az:=@List.mem_singleton
def bf:=@List.length_cons
def bg:=@congrArg
def bi:=@List.mem_append
def bn:=@Nat.le_of_ble_eq_true
def bq:=@List.getElem?_append_right
def bu:=@List.getElem?_map
def bv:=@List.eq_nil_or_concat
def bz:=@List.concat_eq_append
def cu:=@List.replicate_succ
def cz:=@List.eq_nil_of_length_eq_zero
def dh:=@List.take_of_length_le
def di:=@List.take_add_one
def dw:=@List.mem_map
def dz:=@List.length_nil
def ed:=@Nat.lt_or_ge
def fe:=@Nat.add_sub_cancel
def fq:=@List.getElem?_eq_none
def fu:=@Nat.eq_zero_or_pos
def fw:=@List.length_take
def gz:=@Array.getElem?_eq_some_iff
def ic:=@List.length_map
def ig:=@List.take_append_drop
def ik:=@Bool.and_eq_true
def iq:=@List.mem_append_left
def iw:=@Nat.le_trans
def jg:=@List.getD_eq_getElem?_getD
def jh:=@List.map_append
def jo:=@List.mem_cons
def jq:=@List.cons_append
def jr:=@List.map_cons
def jv:=@List.getElem?_of_mem
def jw:=@Nat.mul_le_mul_right
def jy:=@List.nil_append
def kg:=@Nat.zero_add
def ko:=@List.flatten_cons
def ku:=@List.drop_of_length_le
def kv:=@Nat.min_eq_left
def kw:=@List.getElem?_take
def kz:=@List.ext_getElem?
def lc:=@Nat.lt_of_lt_of_le
def lg:=@List.drop_eq_getElem_cons
def lh:=@List.getElem?_set_ne
def lm:=@List.mem_of_mem_take
def lq:=@decide_eq_true
def lu:=@List.getElem?_range
def lw:=@List.take_length
def ma:=@decide_eq_false
def mf:=@Array.length_toList
def mg:=@Option.some.inj
def mh:=@List.mem_range
def mi:=@Nat.eq_of_beq_eq_true
def mo:=@List.mem_append_right
def mq:=@List.take_succ_cons
def mr:=@Array.getElem?_setIfInBounds_ne
def ng:=@List.replicate_succ'
def ni:=@List.length_drop
def nk:=@Int.toNat_natCast
def nu:=@List.nodup_append
def ny:=@List.length_set
def nz:=@List.map_map
def oC:=@List.getElem?_set_self
def oD:=@List.length_eq_one_iff
def oF:=@List.replicate_append_replicate
def oG:=@List.nodup_iff_pairwise_ne
def oH:=@List.take_append_of_le_length
def oI:=@Nat.mul_one
def oJ:=@List.mem_cons_of_mem
def oL:=@Bool.false_eq_true
def oM:=@List.mem_cons_self
def oN:=@List.take_zero
def oP:=@List.set_eq_take_append_cons_drop
def oQ:=@List.drop_succ_cons
def oU:=@Nat.succ.inj
def oV:=@List.mem_of_getLast?
def oW:=@List.map_nil
def oZ:=@List.map_congr_left
def og:=@List.drop_append_of_le_length
def oh:=@List.drop_zero
def ol:=@Nat.add_assoc
def om:=@Int.natCast_mul
def oo:=@List.getElem?_replicate
def oq:=@Nat.pow_le_pow_right
def ou:=@Nat.add_sub_cancel_left
def ow:=@List.mem_of_mem_drop
def oz:=@Array.getElem?_eq_none
def pm:=@Nat.mul_comm
def pu:=@Nat.mul_le_mul_left
def pz:=@Nat.add_mul
def qa:=@List.length_replicate
def qb:=@List.getElem?_drop
def qc:=@List.mem_replicate
def qd:=@Int.natCast_nonneg
def qf:=@List.map_take
def qg:=@Nat.sub_self
def qh:=@List.getLast?_eq_some_getLast
def qi:=@List.length_eq_zero_iff
def qj:=@Option.some.injEq
def ql:=@List.getLast?_cons_cons
def qm:=@Bool.eq_iff_iff
def qo:=@List.length_pos_iff
def qp:=@Nat.testBit_lt_two_pow
def qw:=@Array.getElem_setIfInBounds
def qx:=@List.map_drop
def qy:=@List.perm_ext_iff_of_nodup
def qz:=@Nat.mod_lt
def rf:=@List.pairwise_iff_getElem
def rq:=@List.getElem?_eq_none_iff
def ru:=@Option.map_some
def ry:=@Nat.add_zero
def rz:=@List.flatMap_cons
def si:=@Nat.lt_trichotomy
def sj:=@List.foldl_append
def tq:=@List.pairwise_append
def tu:=@Array.setIfInBounds_comm
def uf:=@Option.isSome_iff_exists
def ug:=@Array.toList_inj
def uh:=@Option.getD_some
def uj:=@List.count_eq_zero_of_not_mem
def uk:=@Int.mul_le_mul_of_nonneg_left
def ul:=@Int.natCast_pow
def um:=@Nat.mul_assoc
def uo:=@List.length_filter_le
def uq:=@Array.getElem?_modify
def ut:=@List.head?_append
def uu:=@List.contains_eq_mem
def uw:=@Array.getElem?_append_left
def uy:=@Option.ne_none_iff_exists'
def uz:=@Array.mem_toList_iff
def vg:=@Nat.mod_two_eq_zero_or_one
def vk:=@Nat.mod_eq_of_lt
def vo:=@Int.natCast_ediv
def vv:=@Nat.shiftLeft_eq
def vw:=@List.getElem?_zip_eq_some
def vz:=@Nat.mul_mod_mod
def wh:=@List.foldl_cons
def wm:=@List.nodup_cons
def wo:=@List.append_cancel_left
def wu:=@List.count_append
def ww:=@List.pairwise_map
def wy:=@Bool.not_eq_true'
def wz:=@Nat.le_mul_of_pos_left
def xc:=@Array.all_eq_true_iff_forall_mem
def xe:=@List.size_toArray
def xf:=@List.count_cons_of_ne
def xg:=@Array.getElem?_toList
def xh:=@Nat.testBit_shiftLeft
def xk:=@List.not_mem_nil
def xm:=@Nat.and_two_pow_sub_one_eq_mod
def xn:=@List.drop_length
def xq:=@List.append_inj'
def xu:=@List.getLast?_append
def xw:=@Int.natCast_add
def xx:=@Nat.le_antisymm
def xy:=@List.cons.injEq
def xz:=@List.takeWhile_cons
def yc:=@List.length_reverse
def yf:=@List.flatMap_append
def yg:=@Array.toList_modify
def yh:=@List.flatten_append
def yj:=@List.map_set
def ym:=@Nat.pow_succ
def yn:=@Nat.zero_mul
def yo:=@Option.isSome_some
def yu:=@Nat.blt_eq
def yw:=@Nat.mul_le_mul
def yx:=@List.foldl_nil
def yz:=@Option.toList_some
def za:=@Int.tmod_eq_emod_of_nonneg
def zb:=@List.mapM_cons
def ze:=@Array.mem_of_find?_eq_some
def zf:=@List.take_left
def zg:=@Nat.xor_lt_two_pow
def zh:=@Array.toList_setIfInBounds
def zi:=@List.drop_drop
def zk:=@Array.mapM_eq_mapM_toList
def zl:=@List.getElem?_inj
def zm:=@List.mem_of_head?
def zn:=@Array.toList_push
def zo:=@Int.le_refl
def zq:=@Int.emod_eq_of_lt
def zt:=@List.length_erase_of_mem
def zu:=@Option.bind_some
def zw:=@Array.toList_map
def zx:=@Nat.le_mul_of_pos_right
def zy:=@Int.eq_ofNat_of_zero_le
def zz:=@Nat.succ_pos
def AA:=@Nat.le_of_lt
def AB:=@Nat.ne_of_beq_eq_false
def AC:=@List.length_pos_of_mem
def AJ:=@Option.map_eq_some_iff
def AL:=@Nat.mod_mul_mod
def AO:=@Nat.not_lt_zero
def AP:=@List.take_left'
def AQ:=@List.modify_zero_cons
def AR:=@List.modify_succ_cons
def AU:=@Nat.one_mul
def AV:=@Option.none_or
def AX:=@Bool.and_false
def AY:=@List.drop_take
def AZ:=@Bool.or_false
def Aa:=@Bool.false_or
def Ab:=@Nat.lt_trans
namespace Go.Proofs.YtejcjelmpbkcbaaGreatDoor
open Go

def qAt {P:Program}(w:World)(t tn ty:TypeId)(base:Nat)(e:TypeId)(i:TypeInfo)(z:Value)(kn:IntKind)(size bytes:Nat)(ht:P.underlying t=some (.slice e))(htn:P.underlying tn=some (.int kn))(hi:P.info? e=some i)(hz:i.zero=some z)
  (hsize:i.size=size) (hby:i.bytes=bytes) (hzs:z.cells.size=size) (hsz:0<size) (h1:∀u∈z.cells.toList,u.oneCell'=true)
  (v:Value) (n:Nat) (xs:List Value) (hown:w.ownsRow base e size v n xs) (k:Nat) (h0:0<k) (h63:n+k≤maxLen) (hbytes:(n+k)*bytes≤140737488355328) (hbase:base≤w.heap.size):
  ∃g cap w',(Builtin.append_ #[t,tn] ty #[v,.int .i64 k]).run P w= .ok (.slice (some ⟨g,0,none⟩) (n+k) cap) w'∧
   w'.ownsRow base e size (.slice (some ⟨g,0,none⟩) (n+k) cap) (n+k) (xs++(Builtin.zeroCells z.cells k).toList)∧w.grownBy w' v.ownBlock∧(v.ownBlock=some g∨g=w.heap.size)∧g<w'.heap.size:=by
 subst hsize;subst hby;have hsmall:n+k≤9223372036854775807:=by simp only[maxLen]at h63;omega
 have hzl:(Builtin.zeroCells z.cells k).toList.length=k*i.size:=by simp[size_zeroCells,hzs]
 have hlen:(xs++(Builtin.zeroCells z.cells k).toList).length=(n+k)*i.size:=by rw[ae,hown.1,hzl,pz]
 have hkb:k*i.bytes≤281474976710656:=by
  have:=jw i.bytes (show k≤n+k by omega);omega
 have grown:∀(old:Nat),∀(row:Option Nat),
   (w.drew.alloc (.cells (xs.toArray++Builtin.zeroCells z.cells k++Builtin.zeroCells z.cells (grownCap w (n+k) old e-(n+k))) e)).ownsRow base e i.size
    (.slice (some ⟨w.heap.size,0,none⟩) (n+k) (grownCap w (n+k) old e)) (n+k) (xs++(Builtin.zeroCells z.cells k).toList)∧
   w.grownBy (w.drew.alloc (.cells (xs.toArray++Builtin.zeroCells z.cells k++Builtin.zeroCells z.cells (grownCap w (n+k) old e-(n+k))) e)) row:=by
  intro old row;have hge:=grownCap_ge w (n+k) old e;have hcm:grownCap w (n+k) old e≤maxLen:=grownCap_le_maxLen w (n+k) old e h63;refine⟨⟨hlen,.inr ⟨w.heap.size,_,_,O,hbase,heap_alloc_new w.drew _,hge,hcm,?_,?_⟩⟩,⟨O,O,O,by simp,fun j hj _=>heap_alloc_old w.drew _ j hj⟩⟩
  ·simp only[Array.size_append,xe,size_zeroCells,hzs,hown.1,←pz];congr 1;omega
  simp only[Array.toList_append,ai];rw[←ai,←hlen];exact zf
 rcases hown.2 with⟨rfl,rfl⟩|⟨g,cap,cur,rfl,hbg,hg,hnc,hcm,hcs,htake⟩
 ·have hx:xs=[]:=cz (by simpa using hown.1);subst hx;have hr:=Lib.run_append_nil_zeros (P:=P) w t tn ty e i z .i64 kn ht htn hi hz k h0 oO oO hkb;have hgr:=grown 0 (Value.ownBlock (.slice none 0 0));simp only[kg,jy,Array.empty_append]at hgr ⊢;exact⟨_,_,_,hr,hgr.1,hgr.2,.inr O,by simp⟩
 have hglt:g<w.heap.size:=(gz.1 hg).1;by_cases hroom:n+k≤cap
 ·have hfit:n*i.size+(Builtin.zeroCells z.cells k).toList.length≤cur.size:=by rw[hzl,hcs,←pz];exact jw _ hroom
  have hone:∀u∈(Builtin.zeroCells z.cells k).toList,u.oneCell'=true:=by
   intro u hu;simp only[Builtin.zeroCells,zw,dw]at hu;obtain⟨j,_,rfl⟩:=hu;have hj:j%z.cells.size<z.cells.size:=qz _ oO;rw[getElem!_pos z.cells _ hj];exact h1 _ (by simp)
  have hst:=run_storeCells_at P g (n*i.size) e (Builtin.zeroCells z.cells k).toList 0 cur w hg (by simpa using hfit) hone;simp only[ry]at hst;refine⟨g,cap,w.setRow g (cur.toList.take (n*i.size)++(Builtin.zeroCells z.cells k).toList++cur.toList.drop (n*i.size+(Builtin.zeroCells z.cells k).toList.length)).toArray,?_,⟨hlen,.inr ⟨g,cap,_,O,hbg,setRow_heap w g cur _ e _ hg,hroom,hcm,?_,?_⟩⟩,⟨O,O,O,by simp,fun j _ hj=>setRow_other w g j _ (fun e=>hj (by simp[Value.ownBlock,e]))⟩,.inl rfl,by simpa using hglt⟩
  ·have hw:IntKind.i64.wrap (k:Int)=k:=by rw[IntKind.wrap_i64];omega
   have hneg:¬((k:Int)<0):=oO;have h48i:¬(281474976710656<(k:Int)*(i.bytes:Int)):=(by rw[←om];omega);have hns:¬(k*i.size=0):=Nat.mul_ne_zero oO oO;simp[Builtin.append_,run_underlying ht,run_underlying htn,sizeOf,typeInfo,zeroValue,hi,hz,asInt,asIntOf,hw,hneg,hns,h48i,hroom,Addr.add_lit,hst]
  ·have hfit2:=hfit;rw[mf]at hfit2;simp only[xe,ae,fw,ni,mf];omega
  rw[htake,←hlen];exact zf
 have holds:∀j u,xs[j]?=some u→w.cell? ((⟨g,0,none⟩:Addr).add j)=some u:=hown.cells (g:=g) O
 have hold:(Builtin.firstCells i.size n (.slice (some ⟨g,0,none⟩) n cap)).run P w.drew= .ok xs.toArray w.drew:=
  run_firstCells_some (P:=P) w.drew i.size n ⟨g,0,none⟩ n cap xs hown.1 holds
 have hr:=Lib.run_append_grow_zeros (P:=P) w t tn ty e i z .i64 kn ht htn hi hz (some ⟨g,0,none⟩) n cap xs hold k h0 oO oO oO hkb (growslice_fits oO hbytes);have hgr:=grown cap (Value.ownBlock (.slice (some ⟨g,0,none⟩) n cap));exact⟨_,_,_,hr,hgr.1,hgr.2,.inr O,by simp⟩
