import Derived.Deep.AppendLies
import Derived.KernelRfl
import Derived.Lib.AppendZeros
import Derived.Lib.AppendZerosOnto
set_option linter.all false
set_option maxHeartbeats 1000000
def O {α:Sort _}{a:α}:a=a:=rfl
def oO {p:Prop}(h:p:=by omega):p:=h
def oK {p:Prop}(h:p:=by kernel_rfl):p:=h
def aa:=@List.length_append
def ae:=@List.getElem?_eq_some_iff
def ag:=@List.getElem?_eq_getElem
def ah:=@List.append_assoc
def ai:=@Nat.le_refl
def aj:=@List.append_nil
def ak:=@List.mem_of_getElem?
def au:=@List.getElem?_append_left
def av:=@Nat.zero_le
def ax:=@List.length_cons
def ay:=@List.getElem?_append_right
def az:=@List.eq_nil_of_length_eq_zero
def bf:=@List.mem_singleton
def bg:=@congrArg
def bi:=@List.getElem?_map
def bn:=@List.replicate_succ
def bq:=@List.length_singleton
def bu:=@List.mem_append
def bz:=@Nat.le_of_ble_eq_true
def cu:=@Nat.add_sub_cancel
def cz:=@List.eq_nil_or_concat
def dh:=@List.concat_eq_append
def di:=@List.take_of_length_le
def dw:=@Nat.lt_or_ge
def dz:=@List.take_append_drop
def ed:=@List.take_add_one
def fe:=@Nat.eq_zero_or_pos
def fq:=@List.getElem?_eq_none
def fu:=@List.nil_append
def fw:=@List.length_nil
def gz:=@List.length_map
def ic:=@Bool.and_eq_true
def ig:=@List.length_take
def ik:=@List.cons_append
def iq:=@List.getD_eq_getElem?_getD
def iw:=@List.length_drop
def jg:=@List.mem_map
def jh:=@Array.getElem?_eq_some_iff
def jo:=@List.flatten_cons
def jq:=@List.map_cons
def jr:=@List.mem_append_left
def jv:=@Nat.le_trans
def jw:=@Nat.mul_le_mul_right
def jy:=@List.getElem?_of_mem
def kg:=@List.map_append
def ko:=@Nat.zero_add
def ku:=@List.mem_cons
def kv:=@List.drop_of_length_le
def kw:=@List.drop_eq_getElem_cons
def kz:=@Nat.min_eq_left
def lc:=@List.getElem?_range
def lg:=@List.mem_of_mem_take
def lh:=@Nat.lt_of_lt_of_le
def lm:=@List.ext_getElem?
def lq:=@Nat.eq_of_beq_eq_true
def lu:=@List.take_succ_cons
def lw:=@List.map_map
def ma:=@List.replicate_succ'
def mf:=@Int.toNat_natCast
def mg:=@List.getLast?_cons_cons
def mh:=@Nat.mul_le_mul_left
def mi:=@Array.length_toList
def mo:=@decide_eq_false
def mq:=@List.length_eq_one_iff
def mr:=@decide_eq_true
def ng:=@List.getElem?_take
def ni:=@List.replicate_append_replicate
def nk:=@List.mem_append_right
def nu:=@Nat.mul_comm
def ny:=@Int.natCast_mul
def nz:=@List.take_zero
def oC:=@Nat.mul_one
def oD:=@List.take_append_of_le_length
def oF:=@Int.natCast_nonneg
def oG:=@List.map_nil
def oH:=@Option.some.inj
def oI:=@List.drop_succ_cons
def oJ:=@Nat.succ.inj
def oL:=@Nat.add_sub_cancel_left
def oM:=@List.getElem?_drop
def oN:=@List.drop_zero
def oP:=@List.mem_of_getLast?
def oQ:=@Nat.sub_self
def oU:=@List.take_length
def oV:=@List.getLast?_eq_some_getLast
def oW:=@List.drop_append_of_le_length
def oZ:=@Option.map_some
def og:=@List.mem_replicate
def oh:=@List.mem_of_mem_drop
def ol:=@Nat.pow_le_pow_right
def om:=@Nat.add_mul
def oo:=@List.drop_length
def oq:=@Nat.add_assoc
def ou:=@Array.getElem?_eq_none
def ow:=@List.map_congr_left
def oz:=@Array.getElem?_setIfInBounds_ne
def pm:=@Bool.false_eq_true
def pu:=@List.map_drop
def pz:=@Option.isSome_iff_exists
def qa:=@List.mem_cons_of_mem
def qb:=@List.getLast?_append
def qc:=@Option.some.injEq
def qd:=@List.flatMap_cons
def qf:=@Int.natCast_pow
def qg:=@List.cons.injEq
def qh:=@List.length_pos_iff
def qi:=@Nat.testBit_lt_two_pow
def qj:=@List.map_take
def ql:=@Nat.mod_eq_of_lt
def qm:=@List.mem_cons_self
def qo:=@Nat.mod_two_eq_zero_or_one
def qp:=@List.mem_range
def qw:=@List.reverse_cons
def qx:=@List.foldl_append
def qy:=@List.nodup_append
def qz:=@Array.setIfInBounds_comm
def rf:=@Nat.mod_lt
def rq:=@Nat.mul_assoc
def ru:=@List.getElem?_replicate
def ry:=@Int.mul_le_mul_of_nonneg_left
def rz:=@List.drop_eq_nil_of_le
def si:=@Bool.eq_iff_iff
def sj:=@List.length_replicate
def tq:=@Array.getElem?_modify
def tu:=@List.head?_append
def uf:=@List.drop_drop
def ug:=@List.pairwise_append
def uh:=@Array.getElem?_append_left
def uj:=@Int.natCast_ediv
def uk:=@Nat.add_zero
def ul:=@Nat.shiftLeft_eq
def um:=@Option.getD_some
def uo:=@List.not_mem_nil
def uq:=@List.pairwise_iff_getElem
def ut:=@List.getElem?_zip_eq_some
def uu:=@List.getElem?_eq_none_iff
def uw:=@List.length_reverse
def uy:=@List.foldl_cons
def uz:=@Nat.mul_mod_mod
def vg:=@Int.le_refl
def vk:=@List.append_cancel_left
def vo:=@Nat.lt_trichotomy
def vv:=@Bool.not_eq_true'
def vw:=@Nat.le_mul_of_pos_left
def vz:=@Nat.zero_mul
def wh:=@List.size_toArray
def wm:=@List.take_left
def wo:=@Option.map_eq_some_iff
def wu:=@Array.all_eq_true_iff_forall_mem
def ww:=@Nat.testBit_shiftLeft
def wy:=@List.count_cons_of_ne
def wz:=@List.set_append_right
def xc:=@List.append_inj'
def xe:=@Array.toList_inj
def xf:=@Nat.and_two_pow_sub_one_eq_mod
def xg:=@Nat.le_antisymm
def xh:=@Int.natCast_add
def xk:=@Int.le_max_left
def xm:=@List.flatten_append
def xn:=@List.takeWhile_cons
def xq:=@Array.getElem_setIfInBounds
def xu:=@Nat.pow_succ
def xw:=@Option.isSome_some
def xx:=@Nat.mul_le_mul
def xy:=@Nat.xor_lt_two_pow
def xz:=@List.foldl_nil
def yc:=@Nat.blt_eq
def yf:=@List.map_replicate
def yg:=@Int.tmod_eq_emod_of_nonneg
def yh:=@List.mapM_cons
def yj:=@List.getLast?_eq_some_iff
def ym:=@Array.mapM_eq_mapM_toList
def yn:=@List.mem_of_head?
def yo:=@Int.emod_eq_of_lt
def yu:=@Nat.le_mul_of_pos_right
def yw:=@Array.toList_map
def yx:=@Int.eq_ofNat_of_zero_le
def yz:=@List.map_fst_zip
def za:=@List.map_snd_zip
def zb:=@List.getElem_mem
def ze:=@Int.le_max_right
def zf:=@Option.bind_some
def zg:=@Nat.ne_of_beq_eq_false
def zh:=@List.head?_drop
def zi:=@Nat.mod_mul_mod
def zk:=@Array.getElem?_toList
def zl:=@Bool.and_false
def zm:=@Option.none_or
def zn:=@Nat.pow_add
def zo:=@Nat.mul_add
def zq:=@Nat.one_mul
def zt:=@List.drop_take
def zu:=@Nat.le_of_lt
def zw:=@Nat.add_comm
def zx:=@Nat.lt_trans
namespace Go.Proofs.YtlmpojkmeglepaaGreatDoor
open Go

def qAu {P:Program}(w:World)(t tn ty:TypeId)(base:Nat)(e:TypeId)(i:TypeInfo)(z:Value)(kn:IntKind)(size bytes:Nat)(ht:P.underlying t=some (.slice e))(htn:P.underlying tn=some (.int kn))(hi:P.info? e=some i)(hz:i.zero=some z)
  (hsize:i.size=size) (hby:i.bytes=bytes) (hzs:z.cells.size=size) (hsz:0<size) (h1:∀u∈z.cells.toList,u.oneCell'=true)
  (v:Value) (n:Nat) (xs:List Value) (hown:w.ownsRow base e size v n xs) (k:Nat) (h0:0<k) (h63:n+k≤maxLen) (hbytes:(n+k)*bytes≤140737488355328) (hbase:base≤w.heap.size):
  ∃g cap w',(Builtin.append_ #[t,tn] ty #[v,.int .i64 k]).run P w= .ok (.slice (some ⟨g,0,none⟩) (n+k) cap) w'∧
   w'.ownsRow base e size (.slice (some ⟨g,0,none⟩) (n+k) cap) (n+k) (xs++(Builtin.zeroCells z.cells k).toList)∧w.grownBy w' v.ownBlock∧(v.ownBlock=some g∨g=w.heap.size)∧g<w'.heap.size:=by
 subst hsize;subst hby;have hsmall:n+k≤9223372036854775807:=by simp only[maxLen]at h63;omega
 have hzl:(Builtin.zeroCells z.cells k).toList.length=k*i.size:=by simp[size_zeroCells,hzs]
 have hlen:(xs++(Builtin.zeroCells z.cells k).toList).length=(n+k)*i.size:=by rw[aa,hown.1,hzl,om]
 have hkb:k*i.bytes≤281474976710656:=by
  have:=jw i.bytes (show k≤n+k by omega);omega
 have grown:∀(old:Nat),∀(row:Option Nat),
   (w.drew.alloc (.cells (xs.toArray++Builtin.zeroCells z.cells k++Builtin.zeroCells z.cells (grownCap w (n+k) old e-(n+k))) e)).ownsRow base e i.size
    (.slice (some ⟨w.heap.size,0,none⟩) (n+k) (grownCap w (n+k) old e)) (n+k) (xs++(Builtin.zeroCells z.cells k).toList)∧
   w.grownBy (w.drew.alloc (.cells (xs.toArray++Builtin.zeroCells z.cells k++Builtin.zeroCells z.cells (grownCap w (n+k) old e-(n+k))) e)) row:=by
  intro old row;have hge:=grownCap_ge w (n+k) old e;have hcm:grownCap w (n+k) old e≤maxLen:=grownCap_le_maxLen w (n+k) old e h63;refine⟨⟨hlen,.inr ⟨w.heap.size,_,_,O,hbase,heap_alloc_new w.drew _,hge,hcm,?_,?_⟩⟩,⟨O,O,O,by simp,fun j hj _=>heap_alloc_old w.drew _ j hj⟩⟩
  ·simp only[Array.size_append,wh,size_zeroCells,hzs,hown.1,←om];congr 1;omega
  simp only[Array.toList_append,ah];rw[←ah,←hlen];exact wm
 rcases hown.2 with⟨rfl,rfl⟩|⟨g,cap,cur,rfl,hbg,hg,hnc,hcm,hcs,htake⟩
 ·have hx:xs=[]:=az (by simpa using hown.1);subst hx;have hr:=Lib.run_append_nil_zeros (P:=P) w t tn ty e i z .i64 kn ht htn hi hz k h0 oO oO hkb;have hgr:=grown 0 (Value.ownBlock (.slice none 0 0));simp only[ko,fu,Array.empty_append]at hgr ⊢;exact⟨_,_,_,hr,hgr.1,hgr.2,.inr O,by simp⟩
 have hglt:g<w.heap.size:=(jh.1 hg).1;by_cases hroom:n+k≤cap
 ·have hfit:n*i.size+(Builtin.zeroCells z.cells k).toList.length≤cur.size:=by rw[hzl,hcs,←om];exact jw _ hroom
  have hone:∀u∈(Builtin.zeroCells z.cells k).toList,u.oneCell'=true:=by
   intro u hu;simp only[Builtin.zeroCells,yw,jg]at hu;obtain⟨j,_,rfl⟩:=hu;have hj:j%z.cells.size<z.cells.size:=rf _ oO;rw[getElem!_pos z.cells _ hj];exact h1 _ (by simp)
  have hst:=run_storeCells_at P g (n*i.size) e (Builtin.zeroCells z.cells k).toList 0 cur w hg (by simpa using hfit) hone;simp only[uk]at hst;refine⟨g,cap,w.setRow g (cur.toList.take (n*i.size)++(Builtin.zeroCells z.cells k).toList++cur.toList.drop (n*i.size+(Builtin.zeroCells z.cells k).toList.length)).toArray,?_,⟨hlen,.inr ⟨g,cap,_,O,hbg,setRow_heap w g cur _ e _ hg,hroom,hcm,?_,?_⟩⟩,⟨O,O,O,by simp,fun j _ hj=>setRow_other w g j _ (fun e=>hj (by simp[Value.ownBlock,e]))⟩,.inl rfl,by simpa using hglt⟩
  ·have hw:IntKind.i64.wrap (k:Int)=k:=by rw[IntKind.wrap_i64];omega
   have hneg:¬((k:Int)<0):=oO;have h48i:¬(281474976710656<(k:Int)*(i.bytes:Int)):=(by rw[←ny];omega);have hns:¬(k*i.size=0):=Nat.mul_ne_zero oO oO;simp[Builtin.append_,run_underlying ht,run_underlying htn,sizeOf,typeInfo,zeroValue,hi,hz,asInt,asIntOf,hw,hneg,hns,h48i,hroom,Addr.add_lit,hst]
  ·have hfit2:=hfit;rw[mi]at hfit2;simp only[wh,aa,ig,iw,mi];omega
  rw[htake,←hlen];exact wm
 have holds:∀j u,xs[j]?=some u→w.cell? ((⟨g,0,none⟩:Addr).add j)=some u:=hown.cells (g:=g) O
 have hold:(Builtin.firstCells i.size n (.slice (some ⟨g,0,none⟩) n cap)).run P w.drew= .ok xs.toArray w.drew:=
  run_firstCells_some (P:=P) w.drew i.size n ⟨g,0,none⟩ n cap xs hown.1 holds
 have hr:=Lib.run_append_grow_zeros (P:=P) w t tn ty e i z .i64 kn ht htn hi hz (some ⟨g,0,none⟩) n cap xs hold k h0 oO oO oO hkb (growslice_fits oO hbytes);have hgr:=grown cap (Value.ownBlock (.slice (some ⟨g,0,none⟩) n cap));exact⟨_,_,_,hr,hgr.1,hgr.2,.inr O,by simp⟩
