import Derived.Deep.AppendLies
import Derived.KernelRfl
import Derived.Lib.AppendZeros
import Derived.Lib.AppendZerosOnto
set_option linter.all false
set_option maxHeartbeats 1000000
def O {α:Sort _}{a:α}:a=a:=rfl
def oO {p:Prop}(h:p:=by omega):p:=h
def oK {p:Prop}(h:p:=by kernel_rfl):p:=h
def aa:=@List.length_append
def ae:=@List.getElem?_eq_some_iff
def ag:=@List.getElem?_eq_getElem
def ah:=@List.append_assoc
def ai:=@Nat.le_refl
def aj:=@List.append_nil
def ak:=@List.getElem?_append_left
def au:=@Nat.zero_le
def av:=@List.length_cons
def ax:=@List.getElem?_append_right
def ay:=@List.mem_of_getElem?
def az:=@List.length_singleton
def bf:=@congrArg
def bg:=@List.mem_singleton
def bi:=@Nat.le_of_ble_eq_true
def bn:=@List.mem_append
def bq:=@List.getElem?_map
def bu:=@List.eq_nil_or_concat
def bv:=@List.concat_eq_append
def bz:=@List.take_of_length_le
def cu:=@List.replicate_succ
def cz:=@Array.getElem?_eq_some_iff
def dh:=@List.eq_nil_of_length_eq_zero
def di:=@List.length_nil
def dw:=@Nat.add_sub_cancel
def dz:=@Bool.and_eq_true
def ed:=@Nat.lt_or_ge
def fe:=@List.getD_eq_getElem?_getD
def fq:=@List.mem_map
def fu:=@List.mem_append_left
def fw:=@List.map_append
def ic:=@List.take_add_one
def ig:=@List.getElem?_eq_none
def ik:=@List.cons_append
def iq:=@List.mem_cons
def iw:=@List.take_append_drop
def jg:=@Nat.zero_add
def jh:=@Nat.le_trans
def jo:=@List.map_cons
def jq:=@List.nil_append
def jr:=@Nat.eq_zero_or_pos
def jv:=@List.length_take
def jw:=@Nat.mul_le_mul_right
def jy:=@List.drop_of_length_le
def kg:=@List.getElem?_of_mem
def ko:=@List.flatten_cons
def ku:=@List.length_map
def kv:=@Nat.lt_of_lt_of_le
def kw:=@Nat.min_eq_left
def kz:=@List.drop_eq_getElem_cons
def lc:=@List.mem_of_mem_take
def lg:=@List.replicate_succ'
def lh:=@Nat.eq_of_beq_eq_true
def lm:=@Option.some.inj
def lq:=@Array.length_toList
def lu:=@List.take_succ_cons
def lw:=@List.length_drop
def ma:=@decide_eq_true
def mf:=@List.getElem?_take
def mg:=@List.mem_append_right
def mh:=@List.getElem?_range
def mi:=@List.map_map
def mo:=@Array.getElem?_setIfInBounds_ne
def mq:=@List.replicate_append_replicate
def ng:=@List.length_replicate
def ni:=@decide_eq_false
def nk:=@List.take_zero
def nu:=@List.ext_getElem?
def ny:=@List.take_append_of_le_length
def nz:=@List.length_eq_one_iff
def oC:=@List.mem_cons_self
def oD:=@List.map_congr_left
def oF:=@List.drop_succ_cons
def oG:=@Int.toNat_natCast
def oH:=@List.nodup_append
def oI:=@Nat.succ.inj
def oJ:=@Bool.false_eq_true
def oL:=@List.mem_of_getLast?
def oM:=@Array.getElem?_eq_none
def oN:=@List.map_nil
def oP:=@List.drop_append_of_le_length
def oQ:=@List.mem_range
def oU:=@List.drop_zero
def oV:=@Nat.add_assoc
def oW:=@Nat.sub_self
def oZ:=@Nat.pow_le_pow_right
def og:=@List.mem_cons_of_mem
def oh:=@Nat.add_sub_cancel_left
def ol:=@List.mem_of_mem_drop
def oo:=@List.foldl_append
def oq:=@Array.getElem?_append_left
def ou:=@Nat.add_mul
def oz:=@Int.natCast_mul
def pm:=@Nat.mod_lt
def pz:=@List.getElem?_drop
def qa:=@List.take_length
def qb:=@List.mem_replicate
def qc:=@Option.bind_some
def qd:=@Array.setIfInBounds_comm
def qf:=@Nat.mul_comm
def qg:=@List.map_take
def qh:=@Nat.mul_one
def qi:=@List.getLast?_eq_some_getLast
def qj:=@List.pairwise_append
def ql:=@Nat.lt_trichotomy
def qm:=@Option.some.injEq
def qo:=@List.getLast?_cons_cons
def qp:=@Nat.mul_le_mul_left
def qw:=@List.length_pos_iff
def qx:=@Nat.testBit_lt_two_pow
def qy:=@List.map_drop
def qz:=@Int.natCast_nonneg
def rf:=@Nat.mod_two_eq_zero_or_one
def rq:=@List.pairwise_iff_getElem
def ry:=@Bool.eq_iff_iff
def rz:=@Option.isSome_iff_exists
def si:=@Int.mul_le_mul_of_nonneg_left
def sj:=@List.foldl_cons
def tq:=@Int.natCast_pow
def tu:=@Nat.mul_assoc
def uf:=@Array.getElem?_modify
def ug:=@List.head?_append
def uh:=@List.perm_ext_iff_of_nodup
def uj:=@List.nodup_iff_pairwise_ne
def uk:=@Option.getD_some
def ul:=@Nat.mod_eq_of_lt
def um:=@Nat.add_zero
def uo:=@Int.natCast_ediv
def uq:=@Nat.shiftLeft_eq
def ut:=@Nat.mul_mod_mod
def uu:=@List.flatMap_cons
def uw:=@Bool.not_eq_true'
def uy:=@Nat.le_mul_of_pos_left
def uz:=@Array.all_eq_true_iff_forall_mem
def vg:=@List.size_toArray
def vk:=@List.count_cons_of_ne
def vo:=@Array.getElem?_toList
def vv:=@Nat.testBit_shiftLeft
def vw:=@List.not_mem_nil
def vz:=@Nat.blt_eq
def wh:=@Nat.and_two_pow_sub_one_eq_mod
def wm:=@Int.natCast_emod
def wo:=@List.drop_length
def wu:=@List.append_inj'
def ww:=@List.getLast?_append
def wy:=@List.range_succ
def wz:=@Int.natCast_add
def xc:=@Nat.le_antisymm
def xe:=@Option.map_some
def xf:=@List.cons.injEq
def xg:=@List.takeWhile_cons
def xh:=@List.length_reverse
def xk:=@Array.toList_modify
def xm:=@List.flatten_append
def xn:=@Nat.pow_succ
def xq:=@Nat.zero_mul
def xu:=@Array.getElem_setIfInBounds
def xw:=@Option.isSome_some
def xx:=@Nat.mul_le_mul
def xy:=@List.foldl_nil
def xz:=@Int.tmod_eq_emod_of_nonneg
def yc:=@List.mapM_cons
def yf:=@List.take_left
def yg:=@Nat.xor_lt_two_pow
def yh:=@List.pairwise_cons
def yj:=@List.drop_drop
def ym:=@List.getElem?_zip_eq_some
def yn:=@Array.mapM_eq_mapM_toList
def yo:=@List.getElem?_eq_none_iff
def yu:=@List.mem_of_head?
def yw:=@Array.toList_push
def yx:=@Int.emod_eq_of_lt
def yz:=@Array.toList_inj
def za:=@Array.toList_map
def zb:=@Nat.le_mul_of_pos_right
def ze:=@List.length_eq_zero_iff
def zf:=@List.getElem?_cons_succ
def zg:=@Nat.lt_of_not_le
def zh:=@Int.eq_ofNat_of_zero_le
def zi:=@Nat.ne_of_beq_eq_false
def zk:=@Nat.mod_mul_mod
def zl:=@List.nodup_cons
def zm:=@List.modify_zero_cons
def zn:=@List.modify_succ_cons
def zo:=@Nat.one_mul
def zq:=@Option.none_or
def zt:=@Bool.and_false
def zu:=@Int.le_refl
def zw:=@List.drop_take
def zx:=@Nat.le_of_lt
def zy:=@Nat.lt_trans
namespace Go.Proofs.YtejcjelmpbkcbaaGreatDoor
open Go

def qAs {P:Program}(w:World)(t tn ty:TypeId)(base:Nat)(e:TypeId)(i:TypeInfo)(z:Value)(kn:IntKind)(size bytes:Nat)(ht:P.underlying t=some (.slice e))(htn:P.underlying tn=some (.int kn))(hi:P.info? e=some i)(hz:i.zero=some z)
  (hsize:i.size=size) (hby:i.bytes=bytes) (hzs:z.cells.size=size) (hsz:0<size) (h1:∀u∈z.cells.toList,u.oneCell'=true)
  (v:Value) (n:Nat) (xs:List Value) (hown:w.ownsRow base e size v n xs) (k:Nat) (h0:0<k) (h63:n+k≤maxLen) (hbytes:(n+k)*bytes≤140737488355328) (hbase:base≤w.heap.size):
  ∃g cap w',(Builtin.append_ #[t,tn] ty #[v,.int .i64 k]).run P w= .ok (.slice (some ⟨g,0,none⟩) (n+k) cap) w'∧
   w'.ownsRow base e size (.slice (some ⟨g,0,none⟩) (n+k) cap) (n+k) (xs++(Builtin.zeroCells z.cells k).toList)∧w.grownBy w' v.ownBlock∧(v.ownBlock=some g∨g=w.heap.size)∧g<w'.heap.size:=by
 subst hsize;subst hby;have hsmall:n+k≤9223372036854775807:=by simp only[maxLen]at h63;omega
 have hzl:(Builtin.zeroCells z.cells k).toList.length=k*i.size:=by simp[size_zeroCells,hzs]
 have hlen:(xs++(Builtin.zeroCells z.cells k).toList).length=(n+k)*i.size:=by rw[aa,hown.1,hzl,ou]
 have hkb:k*i.bytes≤281474976710656:=by
  have:=jw i.bytes (show k≤n+k by omega);omega
 have grown:∀(old:Nat),∀(row:Option Nat),
   (w.drew.alloc (.cells (xs.toArray++Builtin.zeroCells z.cells k++Builtin.zeroCells z.cells (grownCap w (n+k) old e-(n+k))) e)).ownsRow base e i.size
    (.slice (some ⟨w.heap.size,0,none⟩) (n+k) (grownCap w (n+k) old e)) (n+k) (xs++(Builtin.zeroCells z.cells k).toList)∧
   w.grownBy (w.drew.alloc (.cells (xs.toArray++Builtin.zeroCells z.cells k++Builtin.zeroCells z.cells (grownCap w (n+k) old e-(n+k))) e)) row:=by
  intro old row;have hge:=grownCap_ge w (n+k) old e;have hcm:grownCap w (n+k) old e≤maxLen:=grownCap_le_maxLen w (n+k) old e h63;refine⟨⟨hlen,.inr ⟨w.heap.size,_,_,O,hbase,heap_alloc_new w.drew _,hge,hcm,?_,?_⟩⟩,⟨O,O,O,by simp,fun j hj _=>heap_alloc_old w.drew _ j hj⟩⟩
  ·simp only[Array.size_append,vg,size_zeroCells,hzs,hown.1,←ou];congr 1;omega
  simp only[Array.toList_append,ah];rw[←ah,←hlen];exact yf
 rcases hown.2 with⟨rfl,rfl⟩|⟨g,cap,cur,rfl,hbg,hg,hnc,hcm,hcs,htake⟩
 ·have hx:xs=[]:=dh (by simpa using hown.1);subst hx;have hr:=Lib.run_append_nil_zeros (P:=P) w t tn ty e i z .i64 kn ht htn hi hz k h0 oO oO hkb;have hgr:=grown 0 (Value.ownBlock (.slice none 0 0));simp only[jg,jq,Array.empty_append]at hgr ⊢;exact⟨_,_,_,hr,hgr.1,hgr.2,.inr O,by simp⟩
 have hglt:g<w.heap.size:=(cz.1 hg).1;by_cases hroom:n+k≤cap
 ·have hfit:n*i.size+(Builtin.zeroCells z.cells k).toList.length≤cur.size:=by rw[hzl,hcs,←ou];exact jw _ hroom
  have hone:∀u∈(Builtin.zeroCells z.cells k).toList,u.oneCell'=true:=by
   intro u hu;simp only[Builtin.zeroCells,za,fq]at hu;obtain⟨j,_,rfl⟩:=hu;have hj:j%z.cells.size<z.cells.size:=pm _ oO;rw[getElem!_pos z.cells _ hj];exact h1 _ (by simp)
  have hst:=run_storeCells_at P g (n*i.size) e (Builtin.zeroCells z.cells k).toList 0 cur w hg (by simpa using hfit) hone;simp only[um]at hst;refine⟨g,cap,w.setRow g (cur.toList.take (n*i.size)++(Builtin.zeroCells z.cells k).toList++cur.toList.drop (n*i.size+(Builtin.zeroCells z.cells k).toList.length)).toArray,?_,⟨hlen,.inr ⟨g,cap,_,O,hbg,setRow_heap w g cur _ e _ hg,hroom,hcm,?_,?_⟩⟩,⟨O,O,O,by simp,fun j _ hj=>setRow_other w g j _ (fun e=>hj (by simp[Value.ownBlock,e]))⟩,.inl rfl,by simpa using hglt⟩
  ·have hw:IntKind.i64.wrap (k:Int)=k:=by rw[IntKind.wrap_i64];omega
   have hneg:¬((k:Int)<0):=oO;have h48i:¬(281474976710656<(k:Int)*(i.bytes:Int)):=(by rw[←oz];omega);have hns:¬(k*i.size=0):=Nat.mul_ne_zero oO oO;simp[Builtin.append_,run_underlying ht,run_underlying htn,sizeOf,typeInfo,zeroValue,hi,hz,asInt,asIntOf,hw,hneg,hns,h48i,hroom,Addr.add_lit,hst]
  ·have hfit2:=hfit;rw[lq]at hfit2;simp only[vg,aa,jv,lw,lq];omega
  rw[htake,←hlen];exact yf
 have holds:∀j u,xs[j]?=some u→w.cell? ((⟨g,0,none⟩:Addr).add j)=some u:=hown.cells (g:=g) O
 have hold:(Builtin.firstCells i.size n (.slice (some ⟨g,0,none⟩) n cap)).run P w.drew= .ok xs.toArray w.drew:=
  run_firstCells_some (P:=P) w.drew i.size n ⟨g,0,none⟩ n cap xs hown.1 holds
 have hr:=Lib.run_append_grow_zeros (P:=P) w t tn ty e i z .i64 kn ht htn hi hz (some ⟨g,0,none⟩) n cap xs hold k h0 oO oO oO hkb (growslice_fits oO hbytes);have hgr:=grown cap (Value.ownBlock (.slice (some ⟨g,0,none⟩) n cap));exact⟨_,_,_,hr,hgr.1,hgr.2,.inr O,by simp⟩
