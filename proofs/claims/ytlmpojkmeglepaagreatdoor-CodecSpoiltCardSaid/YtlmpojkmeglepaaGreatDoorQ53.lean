import Derived.Test.YtlmpojkmeglepaaGreatDoorQ51
set_option linter.all false
set_option maxHeartbeats 1000000
namespace Go.Proofs.YtlmpojkmeglepaaGreatDoor
open Go Go.RowKit Sl Eg
set_option maxRecDepth 10000
variable {E:Env}{Es:List Ent}{s most:Nat}
theorem qEi (hE:Seat E){i:Nat}(h:i≤Es.length):Ct E 48 [uPt s,.int .i64 (i:Nat)] [bR s most Es] (fun v Q=>v= .bool true∧Q=[bR s most Es]):=
 jF hE fun w _ _ hs=>(mD w (i:Int) hs).mono fun e w'⟨h1,h2⟩=>⟨by
  rw[h1,decide_eq_true (show(0:Int)≤(i:Int) by omega),decide_eq_true (show(i:Int)≤(Es.length:Int) by omega)]
  rfl,xG h2⟩
theorem ct_at (hE:Seat E){i:Nat}{x:Ent}(hi:Es[i]?=some x):Ct E 49 [uPt s,.int .i64 ((i+1:Nat):Int)] [bR s most Es] (fun v Q=>v= .agg #[.int .i64 (Rl.kind (x.r):Nat),.int .u8 (Rl.byte (x.r):Nat),.int .i64 (Rl.left (x.r):Nat),.int .i64 (Rl.right (x.r):Nat),.int .i64 (Rl.times (x.r):Nat),.int .i64 (List.length (x.t):Nat),.int .i64 (gM (x.t):Nat),.int .i64 (kX (x.t):Nat),.int .i64 (kY (x.t):Nat),.int .u64 (dval (x.t):Nat),.int .u64 (fH (x.t):Nat),.int .i64 x.d,.bool x.e]∧Q=[bR s most Es]):=
 jF hE fun w _ _ hs=>wY w i x hs hi
theorem qEr (hE:Seat E)(n:Nat)(h:n≤dC):Ct E 94 [.int .i64 (n:Nat)] [] (fun v Q=>v= .bool true∧Q=[]):=by
 have hmx:dC=1152921504606846976:=rfl
 refine bO (hE.fn Tryz.func94) O O O (fun R=>?_)
 simp only[dU,uV,uW]
 refine gg10 ?_
 refine dY 5 O (fun h1=>?_) (fun h1=>?_)
 ·refine gg9 ?_
  exact uZ O (.tmp O .nil) ⟨congrArg Value.bool (decide_eq_true oO),O⟩
 exact absurd h1 oO
theorem qOn (hE:Seat E){a b:Nat}(ha:a≤dC)(hb:b≤dC)(h:dC<a+b):Ct E 77 [.int .i64 (a:Nat),.int .i64 (b:Nat)] [] (fun v Q=>v= .tuple #[.int .i64 0,.iface 58 (.int .i64 2)]∧Q=[]):=by
 have hmx:dC=1152921504606846976:=rfl
 refine bO (hE.fn Tryz.func77) O O O (fun R=>?_)
 simp only[dU,uV,uW]
 refine gg10 ?_
 refine uX (qEr hE a ha) O ?_
 rintro _ _⟨rfl,rfl⟩
 simp only[uV,uW]
 refine gg5 ?_
 refine uX (qEr hE b hb) O ?_
 rintro _ _⟨rfl,rfl⟩
 simp only[uV,uW]
 refine gg17 ?_
 refine bE O (fun g1=>?_) (fun g1=>?_)
 ·refine gg9 ?_
  exact uZ O (.tmp O (.tmp O .nil)) ⟨O,O⟩
 exact absurd g1 oO
theorem qOr (hE:Seat E){a k:Nat}(ha:a≤dC)(h0:1≤a)(h:dC/a<k):Ct E 92 [.int .i64 (a:Nat),.int .i64 (k:Nat)] [] (fun v Q=>v= .tuple #[.int .i64 0,.iface 58 (.int .i64 2)]∧Q=[]):=by
 have hmx:dC=1152921504606846976:=rfl
 have hd:((dC/a:Nat):Int)=1152921504606846976/(a:Int):=by rw[Int.natCast_ediv];rfl
 refine bO (hE.fn Tryz.func92) O O O (fun R=>?_)
 simp only[dU,uV,uW]
 refine gg10 ?_
 refine uX (qEr hE a ha) O ?_
 rintro _ _⟨rfl,rfl⟩
 simp only[uV,uW]
 refine gg9 ?_
 refine bE O (fun g1=>?_) (fun g1=>?_)
 ·exfalso;omega
 refine gg9 ?_
 refine bE O (fun g2=>?_) (fun g2=>?_)
 ·exfalso;omega
 refine gg11 ?_
 refine bE O (fun g3=>?_) (fun g3=>?_)
 ·refine gg9 ?_
  exact uZ O (.tmp O (.tmp O .nil)) ⟨O,O⟩
 exfalso;rw[←hd]at g3;omega
theorem qHh (hE:Seat E){i j:Nat}{xl xr:Ent}(hi:Es[i]?=some xl)(hj:Es[j]?=some xr)(ha:xl.t.length≤dC)(hb:xr.t.length≤dC)(h:dC<xl.t.length+xr.t.length):Ct E 46 [uPt s,.int .i64 ((i+1:Nat):Int),.int .i64 ((j+1:Nat):Int)] [bR s most Es] (fun v Q=>v= .tuple #[.int .i64 0,.iface 58 (.int .i64 2)]∧Q=[bR s most Es]):=by
 have hil:=(List.getElem?_eq_some_iff.1 hi).1
 have hjl:=(List.getElem?_eq_some_iff.1 hj).1
 refine bO (hE.fn Tryz.func46) O O O (fun R=>?_)
 simp only[dU,uV,uW]
 refine gg21 ?_
 refine uX (qEi (Es:=Es) (i:=i+1) hE oO) O ?_
 rintro _ _⟨rfl,rfl⟩
 simp only[uV,uW]
 refine gg7 ?_
 refine uX (qEi (Es:=Es) (i:=j+1) hE oO) O ?_
 rintro _ _⟨rfl,rfl⟩
 simp only[uV,uW]
 refine gg15 ?_
 refine bE O (fun h1=>?_) (fun h1=>?_)
 ·exfalso;omega
 refine gg9 ?_
 refine bE O (fun h2=>?_) (fun h2=>?_)
 ·exfalso;omega
 refine gg6 ?_
 refine uX (ct_at hE hi) O ?_
 rintro _ _⟨rfl,rfl⟩
 simp only[uV,uW]
 refine gg2 ?_
 refine uX (ct_at hE hj) O ?_
 rintro _ _⟨rfl,rfl⟩
 simp only[uV,uW]
 refine uU (dA (hE.t O) (fun b8=>?_))
 refine uU (dA (hE.t O) (fun b9=>?_))
 refine gg13 ?_
 refine uX (qOn hE ha hb h) O ?_
 rintro _ _⟨rfl,rfl⟩
 simp only[uV,uW]
 refine gg23 ?_
 exact uZ O (.tmp O (.tmp O .nil)) ⟨O,O⟩
theorem qEm (hE:Seat E){i k:Nat}{xl:Ent}(hi:Es[i]?=some xl)(ha:xl.t.length≤dC)(h0:1≤xl.t.length)(hk:2≤k)(h:dC/xl.t.length<k):Ct E 66 [uPt s,.int .i64 ((i+1:Nat):Int),.int .i64 (k:Nat)] [bR s most Es] (fun v Q=>v= .tuple #[.int .i64 0,.iface 58 (.int .i64 2)]∧Q=[bR s most Es]):=by
 have hil:=(List.getElem?_eq_some_iff.1 hi).1
 refine bO (hE.fn Tryz.func66) O O O (fun R=>?_)
 simp only[dU,uV,uW]
 refine gg21 ?_
 refine uX (qEi (Es:=Es) (i:=i+1) hE oO) O ?_
 rintro _ _⟨rfl,rfl⟩
 simp only[uV,uW]
 refine gg9 ?_
 refine bE O (fun h1=>?_) (fun h1=>?_)
 ·exfalso;omega
 refine gg8 ?_
 refine dY 30 O (fun h2=>?_) (fun h2=>?_)
 ·exfalso;omega
 refine gg7 ?_
 refine bE O (fun h3=>?_) (fun h3=>?_)
 ·exfalso;omega
 refine gg9 ?_
 refine bE O (fun h4=>?_) (fun h4=>?_)
 ·exfalso;omega
 refine gg6 ?_
 refine uX (ct_at hE hi) O ?_
 rintro _ _⟨rfl,rfl⟩
 simp only[uV,uW]
 refine uU (dA (hE.t O) (fun b8=>?_))
 refine gg10 ?_
 refine uX (qOr hE ha h0 h) O ?_
 rintro _ _⟨rfl,rfl⟩
 simp only[uV,uW]
 refine gg23 ?_
 exact uZ O (.tmp O (.tmp O .nil)) ⟨O,O⟩
end Go.Proofs.YtlmpojkmeglepaaGreatDoor
