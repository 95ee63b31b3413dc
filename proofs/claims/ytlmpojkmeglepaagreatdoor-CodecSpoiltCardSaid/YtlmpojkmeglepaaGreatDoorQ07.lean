import Derived.Test.YtlmpojkmeglepaaGreatDoorQ06
set_option linter.all false
set_option maxHeartbeats 1000000
namespace Go.Proofs.YtlmpojkmeglepaaGreatDoor
open Go Go.RowKit Sl Eg
set_option maxRecDepth 10000
section
variable {E:Env}{Es:List Ent}{pp tb s most:Nat}
theorem yL (hE:Seat E)(hB:Base E.w0){i:Nat}(hi:i<Es.length):
  Ct E 64 [uPt tb,.int .i64 ((i+1:Nat):Int)] [tabP tb s (rls Es),bR s most Es] (fun v Q=>v= .tuple #[.int .u64 (key (rls Es) (i+1):Nat),.nilIface]∧Q=[tabP tb s (rls Es),bR s most Es]):=by
 refine bO (hE.fn Tryz.func64) O O O (fun R=>?_)
 simp only[dU,uV,uW]
 refine gg10 ?_
 refine uX (qRd hE hB hi) O ?_
 rintro _ _⟨rfl,rfl⟩
 simp only[uV,uW]
 refine gg3 ?_
 refine uU (dA (hE.t O) (fun b6=>?_))
 refine gg23 ?_
 exact uZ O (.tmp O (.tmp O .nil)) ⟨O,O⟩
theorem zG (hE:Seat E)(hB:Base E.w0){i:Nat}(hi:i<Es.length)(hl:0≤lvl (rls Es) (i+1)):
  Ct E 63 [uPt tb,.int .i64 ((i+1:Nat):Int)] [tabP tb s (rls Es),bR s most Es] (fun v Q=>v= .tuple #[.int .i64 (lvl (rls Es) (i+1)),.nilIface]∧Q=[tabP tb s (rls Es),bR s most Es]):=by
 refine bO (hE.fn Tryz.func63) O O O (fun R=>?_)
 simp only[dU,uV,uW]
 refine gg10 ?_
 refine uX (qRd hE hB hi) O ?_
 rintro _ _⟨rfl,rfl⟩
 simp only[uV,uW]
 refine gg3 ?_
 refine uU (dA (hE.t O) (fun b6=>?_))
 refine gg22 ?_
 refine bE O (fun h=>?_) (fun h=>?_)
 ·exact absurd h oO
 refine gg11 ?_
 exact uZ O (.tmp O (.tmp O .nil)) ⟨O,O⟩
theorem qJy (hE:Seat E)(hB:Base E.w0){i:Nat}(hi:i<Es.length)(hl:lvl (rls Es) (i+1)<0):
  Ct E 63 [uPt tb,.int .i64 ((i+1:Nat):Int)] [tabP tb s (rls Es),bR s most Es] (fun v Q=>v= .tuple #[.int .i64 0,.iface 58 (.int .i64 4)]∧Q=[tabP tb s (rls Es),bR s most Es]):=by
 refine bO (hE.fn Tryz.func63) O O O (fun R=>?_)
 simp only[dU,uV,uW]
 refine gg10 ?_
 refine uX (qRd hE hB hi) O ?_
 rintro _ _⟨rfl,rfl⟩
 simp only[uV,uW]
 refine gg3 ?_
 refine uU (dA (hE.t O) (fun b6=>?_))
 refine gg22 ?_
 refine bE O (fun h=>?_) (fun h=>?_)
 ·refine gg9 ?_
  exact uZ O (.tmp O (.tmp O .nil)) ⟨O,O⟩
 exact absurd hl h
theorem xL (hE:Seat E):Ct E 34 [uPt s] [] (fun v Q=>∃tb,v=uPt tb∧Q=[tabP tb s []]):=by
 refine bO (hE.fn Tryz.func34) O O O (fun R=>?_)
 simp only[dU,uV,uW]
 refine gg19 ?_
 refine uU ?_
 refine fA O (fun b7=>?_)
 refine gg4 ?_
 apply cB
 ·rfl
 ·(apply Rs.tmp rfl;exact Rs.nil)
 ·exact⟨b7,O,O⟩
 apply cZ (iP (t:=187) (sz:=3))
 apply cZ
 ·apply qDt (K:=[]) (L:=[]) (tb:=b7) (s:=s) (p:=none) (c:=0)
  ·exact uK
  ·rfl
  ·simp
  simp
 exact uI
theorem qRf (hE:Seat E):Ct E 11 [uPt s] [bR s most []] (fun v Q=>∃pp tb,v=uPt pp∧Q=[cells pp [uPt s,uPt tb] 97,tabP tb s (rls []),bR s most []]):=by
 refine bO (hE.fn Tryz.func11) O O O (fun R=>?_)
 simp only[dU,uV,uW]
 refine gg19 ?_
 refine uX (xL hE) O ?_
 rintro _ _⟨tb,rfl,rfl⟩
 simp only[uV,uW]
 refine gg1 ?_
 refine uU ?_
 refine fA O (fun b9=>?_)
 refine gg4 ?_
 exact uZ O (.tmp O .nil) ⟨b9,tb,O,O⟩
theorem gK (hE:Seat E):Ct E 37 [uPt pp] [cells pp [uPt s,uPt tb] 97] (fun v Q=>v=uPt s∧Q=[cells pp [uPt s,uPt tb] 97]):=by
 refine bO (hE.fn Tryz.func37) O O O (fun R=>?_)
 simp only[dU,uV,uW]
 refine gg25 ?_
 exact uZ O (.tmp O .nil) ⟨O,O⟩
theorem zX (hE:Seat E):Ct E 165 [uPt pp] [cells pp [uPt s,uPt tb] 97] (fun v Q=>v=uPt tb∧Q=[cells pp [uPt s,uPt tb] 97]):=by
 refine bO (hE.fn Tryz.func165) O O O (fun R=>?_)
 simp only[dU,uV,uW]
 refine gg25 ?_
 exact uZ O (.tmp O .nil) ⟨O,O⟩
theorem ct_Top0 (hE:Seat E):Ct E 127 [uPt pp,.int .i64 ((0:Nat):Int)] [cells pp [uPt s,uPt tb] 97,tabP tb s (rls Es),bR s most Es] (fun v Q=>v= .tuple #[.int .i64 0,.nilIface]∧Q=[cells pp [uPt s,uPt tb] 97,tabP tb s (rls Es),bR s most Es]):=by
 refine bO (hE.fn Tryz.func127) O O O (fun R=>?_)
 simp only[dU,uV,uW]
 refine gg44 ?_
 exact uZ O (.tmp O (.tmp O .nil)) ⟨O,O⟩
theorem ct_Top (hE:Seat E)(hB:Base E.w0){i:Nat}(hi:i<Es.length)(hl:0≤lvl (rls Es) (i+1)):Ct E 127 [uPt pp,.int .i64 ((i+1:Nat):Int)] [cells pp [uPt s,uPt tb] 97,tabP tb s (rls Es),bR s most Es] (fun v Q=>v= .tuple #[.int .i64 (lvl (rls Es) (i+1)),.nilIface]∧Q=[cells pp [uPt s,uPt tb] 97,tabP tb s (rls Es),bR s most Es]):=by
 refine bO (hE.fn Tryz.func127) O O O (fun R=>?_)
 simp only[dU,uV,uW]
 refine gg35 ?_
 refine bE O (fun h=>?_) (fun h=>?_)
 ·exact absurd h oO
 refine gg9 ?_
 refine uX (zG hE hB hi hl) O ?_
 rintro _ _⟨rfl,rfl⟩
 simp only[uV,uW]
 refine gg7 ?_
 exact uZ O (.tmp O (.tmp O .nil)) ⟨O,O⟩
end
section
variable {E:Env}{Es:List Ent}{pp tb s most:Nat}
def gsC:List (Nat×Nat)→List Value
 |[]=>[]
 |g::r=> .int .i64 (g.1:Nat):: .int .i64 (g.2:Nat)::gsC r
theorem tN:∀(a b:List (Nat×Nat)),gsC (a++b)=gsC a++gsC b
 |[],_=>rfl
 |_::a,b=>by simp[gsC,tN a b]
theorem qAu {gs:List (Nat×Nat)}{i:Nat}{g:Nat×Nat}(h:gs[i]?=some g):(gsC gs)[i*2]?=some (.int .i64 (g.1:Nat))∧(gsC gs)[i*2+1]?=some (.int .i64 (g.2:Nat)):=by
 induction gs generalizing i with
 |nil=>simp at h
 |cons x r ih=>
  cases i with
  |zero=>obtain rfl:x=g:=by simpa using h
         exact⟨O,O⟩
  |succ i=>
   obtain⟨h1,h2⟩:=ih (i:=i) (by simpa using h)
   exact⟨by rw[show(i+1)*2=i*2+1+1 by omega];simpa[gsC]using h1,by rw[show(i+1)*2+1=i*2+1+1+1 by omega];simpa[gsC]using h2⟩
theorem gsC_set {gs:List (Nat×Nat)}{i:Nat}{g:Nat×Nat}(h:gs[i]?=some g)(k:Nat):(gsC gs).set (i*2+1) (.int .i64 (k:Nat))=gsC (gs.set i (g.1,k)):=by
 induction gs generalizing i with
 |nil=>simp at h
 |cons x r ih=>
  cases i with
  |zero=>obtain rfl:x=g:=by simpa using h
         rfl
  |succ i=>
   have:=ih (i:=i) (by simpa using h)
   rw[show(i+1)*2+1=i*2+1+1+1 by omega]
   simp[gsC,this]
end
end Go.Proofs.YtlmpojkmeglepaaGreatDoor
namespace Eg
def tx (L:List Rl)(bk:Bool)(i:Nat):List UInt8:=if bk then(txt L i).reverse else txt L i
end Eg
