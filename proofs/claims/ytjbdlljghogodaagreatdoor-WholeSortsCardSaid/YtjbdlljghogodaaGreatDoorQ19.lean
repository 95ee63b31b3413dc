import Derived.Test.YtjbdlljghogodaaGreatDoorQ18
set_option linter.all false
set_option maxHeartbeats 1000000
namespace Go.Proofs.YtjbdlljghogodaaGreatDoor
open Go Go.RowKit Sl Eg
set_option maxRecDepth 10000
variable {E:Env}{Es:List Ent}{pp tb s most:Nat}
theorem qQl (hE:Seat E)(hB:Base E.w0){ids:List Nat}{x i m u:Nat}(hu:ids[m+i]?=some u)(gu:good (rls Es) u)(hx:good (rls Es) x)(hl:len (rls Es) u+len (rls Es) x<8388608)(hn:ids.length≤1099511627776){g o c b3 b4 b5 b10:Nat}{q:HP}(hqq:∀k,q k→RdAt E.w0 g o (idC ids) k):
  Ct E 79 [.int .i64 (i:Nat),uPt b3,uPt b4,uPt b10,uPt b5] [cells b3 [uPt pp] 32,cells b4 [.slice (some ⟨g,o,none⟩) ids.length c] 26,cells b10 [.int .i64 (m:Nat)] 3,cells b5 [.int .i64 (x:Nat)] 56,cells pp [uPt s,uPt tb] 108,tabP tb s (rls Es),bR s most Es,q]
   (fun v Q=>v= .bool (!decide (Bgn (txt (rls Es) u) (txt (rls Es) x)))∧Q=[cells b3 [uPt pp] 32,cells b4 [.slice (some ⟨g,o,none⟩) ids.length c] 26,cells b10 [.int .i64 (m:Nat)] 3,cells b5 [.int .i64 (x:Nat)] 56,cells pp [uPt s,uPt tb] 108,tabP tb s (rls Es),bR s most Es,q]):=by
 have hil:=(List.getElem?_eq_some_iff.1 hu).1
 have f0:=fV hu (m+i) O
 refine bO (hE.fn Tryz.func79) O O O (fun R=>?_)
 simp only[dR,uV,uW]
 refine gg6 ?_
 refine uH ([cells b3 [uPt pp] 32,cells b4 [.slice (some ⟨g,o,none⟩) ids.length c] 26,cells b10 [.int .i64 (m:Nat)] 3,cells b5 [.int .i64 (x:Nat)] 56,q]) ?_
 refine gg8 ?_
 apply dH 8 O oK O
 refine uC (qPs hE hB gu hx hl) O ?_
 rintro _ _⟨rfl,rfl⟩
 simp only[uV,uW]
 refine uE ?_
 refine gg5 ?_
 exact uZ O (.tmp O .nil) ⟨O,O⟩
theorem qNf (hE:Seat E)(hB:Base E.w0){ids:List Nat}{x:Nat}(hg:∀x∈ids,good (rls Es) x) (hx:good (rls Es) x) (hl:∀x∈ids,len (rls Es) x≤4000000) (hlx:len (rls Es) x≤4000000) (hn:ids.length≤1099511627776) {a:Option Addr} {c:Nat} {q:HP} (hq:Rdb E.w0 a (idC ids) q) (hs:Srt (ids.map (txt (rls Es)))):
  Ct E 37 [uPt pp,.slice a ids.length c,.int .i64 (x:Nat)] [cells pp [uPt s,uPt tb] 108,tabP tb s (rls Es),bR s most Es,q] (fun v Q=>v= .tuple #[.int .i64 (srch (ids.map (txt (rls Es))) (txt (rls Es) x):Nat),.int .i64 ((srch (ids.map (txt (rls Es))) (txt (rls Es) x)+bgns (ids.map (txt (rls Es))) (txt (rls Es) x):Nat):Int),.nilIface]∧Q=[cells pp [uPt s,uPt tb] 108,tabP tb s (rls Es),bR s most Es,q]):=by
 have hl2:∀y∈ids,len (rls Es) y+len (rls Es) x<8388608:=fun y hy=>by have:=hl y hy;omega
 have hbb:true=true↔Srt (ids.map (txt (rls Es))):=⟨fun _=>hs,fun _=>O⟩
 have hgo:goFn E.P 79=true:=hE.f oK
 have hle:=qPb (ids.map (txt (rls Es))) (txt (rls Es) x)
 rw[List.length_map]at hle
 have hb0:∀i u,i<bgns (ids.map (txt (rls Es))) (txt (rls Es) x)→ids[srch (ids.map (txt (rls Es))) (txt (rls Es) x)+i]?=some u→Bgn (txt (rls Es) u) (txt (rls Es) x):=fun i u hi hu=>qPc hi (by simp[hu])
 have hb1:∀i u,bgns (ids.map (txt (rls Es))) (txt (rls Es) x)≤i→ids[srch (ids.map (txt (rls Es))) (txt (rls Es) x)+i]?=some u→¬Bgn (txt (rls Es) u) (txt (rls Es) x):=fun i u hi hu=>qPa hs hi (by simp[hu])
 refine bO (hE.fn Tryz.func37) O O O (fun R=>?_)
 simp only[dR,uV,uW]
 refine gg2 ?_
 refine uU ?_
 refine gL O (fun b3=>?_)
 refine uU ?_
 refine gL O (fun b4=>?_)
 refine uU ?_
 refine gL O (fun b5=>?_)
 refine gg11 ?_
 refine uX (tN hE hB hg hx hl hn hq hbb) O ?_
 rintro _ _⟨rfl,rfl⟩
 simp only[uV,uW]
 refine gg17 ?_
 refine uX (qCq hE hB hg hx hl2 hn hq hs) O ?_
 rintro _ _⟨rfl,rfl⟩
 simp only[uV,uW]
 generalize srch (ids.map (txt (rls Es))) (txt (rls Es) x)=m at hle hb0 hb1 ⊢
 generalize bgns (ids.map (txt (rls Es))) (txt (rls Es) x)=k at hle hb0 hb1 ⊢
 refine uU (cZ (hE.t O) (fun b10=>?_))
 refine gg10 ?_
 have hcl:∀i,i<ids.length-m→Ct E 79 (.int .i64 (i:Nat)::[uPt b3,uPt b4,uPt b10,uPt b5]) [dU [cells b3 [uPt pp] 32,cells b4 [.slice a ids.length c] 26,cells b10 [.int .i64 (m:Nat)] 3,cells b5 [.int .i64 (x:Nat)] 56,cells pp [uPt s,uPt tb] 108,tabP tb s (rls Es),bR s most Es,q]] (fun v Q=>v= .bool (!decide (Bgn (txt (rls Es) (ids.getD (m+i) 0)) (txt (rls Es) x)))∧Q=[dU [cells b3 [uPt pp] 32,cells b4 [.slice a ids.length c] 26,cells b10 [.int .i64 (m:Nat)] 3,cells b5 [.int .i64 (x:Nat)] 56,cells pp [uPt s,uPt tb] 108,tabP tb s (rls Es),bR s most Es,q]]):=by
  intro i hi
  obtain⟨g,o,rfl,hqq⟩:=qIc hq (by intro e;rw[e]at hi;simp at hi)
  obtain⟨u,hu⟩:∃u,ids[m+i]?=some u:=⟨_,List.getElem?_eq_getElem oO⟩
  rw[xO hu]
  have hum:=List.mem_of_getElem? hu
  exact qJo (qQl hE hB hu (hg u hum) hx (hl2 u hum) hn hqq)
 have h0:∀i,i<k→(!decide (Bgn (txt (rls Es) (ids.getD (m+i) 0)) (txt (rls Es) x)))=false:=by
  intro i hi
  obtain⟨u,hu⟩:∃u,ids[m+i]?=some u:=⟨_,List.getElem?_eq_getElem oO⟩
  rw[xO hu,decide_eq_true (hb0 i u hi hu)]
  rfl
 have h1:∀i,k≤i→i<ids.length-m→(!decide (Bgn (txt (rls Es) (ids.getD (m+i) 0)) (txt (rls Es) x)))=true:=by
  intro i hi hil
  obtain⟨u,hu⟩:∃u,ids[m+i]?=some u:=⟨_,List.getElem?_eq_getElem oO⟩
  rw[xO hu,decide_eq_false (hb1 i u hi hu)]
  rfl
 have hk:k≤ids.length-m:=oO
 refine l_eq 26 (.int .i64 ((ids.length-m:Nat):Int)) O (bW oO) ?_
 have hn2:ids.length-m≤1099511627776:=oO
 refine uX (qHc (vZ hE hgo hn2 hcl hk h0 h1)) O ?_
 rintro _ _⟨rfl,rfl⟩
 simp only[uV,uW]
 refine gg4 ?_
 refine uH ([cells b10 [.int .i64 (m:Nat)] 3]) ?_
 refine gg10 ?_
 apply cB
 ·rfl
 ·(apply Rs.tmp rfl;apply Rs.tmp rfl;apply Rs.tmp rfl;exact Rs.nil)
 ·refine⟨?_,O⟩
  rw[show((m+k:Nat):Int)=(m:Int)+(k:Int) by omega]
  rfl
 exact uI
end Go.Proofs.YtjbdlljghogodaaGreatDoor
