import Derived.Test.YtlmpojkmeglepaaGreatDoorQ51
set_option linter.all false
set_option maxHeartbeats 1000000
namespace Go.Proofs.YtlmpojkmeglepaaGreatDoor
open Go Go.RowKit Sl Eg
set_option maxRecDepth 10000
variable {E:Env}{Es:List Ent}{s most:Nat}
theorem qDz (hE:Seat E){i:Nat}(h:i≤Es.length):Ct E 48 [uPt s,.int .i64 (i:Nat)] [bR s most Es] (fun v Q=>v= .bool true∧Q=[bR s most Es]):=
 jF hE fun w _ _ hs=>(nH w (i:Int) hs).mono fun e w'⟨h1,h2⟩=>⟨by
  rw[h1,decide_eq_true (show(0:Int)≤(i:Int) by omega),decide_eq_true (show(i:Int)≤(Es.length:Int) by omega)]
  rfl,qBx h2⟩
theorem ct_at (hE:Seat E){i:Nat}{x:Ent}(hi:Es[i]?=some x):Ct E 49 [uPt s,.int .i64 ((i+1:Nat):Int)] [bR s most Es] (fun v Q=>v= .agg #[.int .i64 (Rl.kind (x.r):Nat),.int .u8 (Rl.byte (x.r):Nat),.int .i64 (Rl.left (x.r):Nat),.int .i64 (Rl.right (x.r):Nat),.int .i64 (Rl.times (x.r):Nat),.int .i64 (List.length (x.t):Nat),.int .i64 (gN (x.t):Nat),.int .i64 (kK (x.t):Nat),.int .i64 (kL (x.t):Nat),.int .u64 (dval (x.t):Nat),.int .u64 (fH (x.t):Nat),.int .i64 x.d,.bool x.e]∧Q=[bR s most Es]):=
 jF hE fun w _ _ hs=>vZ w i x hs hi
theorem qEi (hE:Seat E)(n:Nat)(h:n≤dC):Ct E 94 [.int .i64 (n:Nat)] [] (fun v Q=>v= .bool true∧Q=[]):=by
 have hmx:dC=1152921504606846976:=rfl
 refine bO (hE.fn Tryz.func94) O O O (fun R=>?_)
 simp only[dY,uV,uW]
 refine dO (uA O (dN (dO (uM O (uB (y_ge O O) (uM O ?_))))))
 refine eG 5 O (fun h1=>?_) (fun h1=>?_)
 ·refine dM O O ?_
  refine uM O (dP (uB (y_le O O) ?_))
  apply aA
  ·(first |exact aW rfl rfl|exact aX rfl rfl)
  ·rfl
  refine uA O (dN (bZ ?_))
  exact uZ O (.tmp O .nil) ⟨congrArg Value.bool (decide_eq_true oO),O⟩
 exact absurd h1 oO
theorem qMw (hE:Seat E){a b:Nat}(ha:a≤dC)(hb:b≤dC)(h:dC<a+b):Ct E 77 [.int .i64 (a:Nat),.int .i64 (b:Nat)] [] (fun v Q=>v= .tuple #[.int .i64 0,.iface 58 (.int .i64 2)]∧Q=[]):=by
 have hmx:dC=1152921504606846976:=rfl
 refine bO (hE.fn Tryz.func77) O O O (fun R=>?_)
 simp only[dY,uV,uW]
 refine dO (uA O (uA O (dN (aL (dO (uM O (uX (qEi hE a ha) O ?_)))))))
 rintro _ _⟨rfl,rfl⟩
 simp only[uV,uW]
 refine uB (gY O) (uM O (dP (uM O (dP (uX (qEi hE b hb) O ?_)))))
 rintro _ _⟨rfl,rfl⟩
 simp only[uV,uW]
 refine dP (uB (gY O) ?_)
 apply aA
 ·(first |exact aW rfl rfl|exact aX rfl rfl)
 ·rfl
 refine dN (bD O (bC (aK (aL (dO (uM O (uM O (uB (uAs O O) (uB (y_gt O O) (dN ?_))))))))))
 refine bE O (fun g1=>?_) (fun g1=>?_)
 ·refine aL (aJ ?_)
  refine uB (gP O (hE.t O) O) ?_
  refine uA O (uA O (dN (bZ (aV ?_))))
  exact uZ O (.tmp O (.tmp O .nil)) ⟨O,O⟩
 exact absurd g1 oO
theorem qMz (hE:Seat E){a k:Nat}(ha:a≤dC)(h0:1≤a)(h:dC/a<k):Ct E 92 [.int .i64 (a:Nat),.int .i64 (k:Nat)] [] (fun v Q=>v= .tuple #[.int .i64 0,.iface 58 (.int .i64 2)]∧Q=[]):=by
 have hmx:dC=1152921504606846976:=rfl
 have hd:((dC/a:Nat):Int)=1152921504606846976/(a:Int):=by rw[Int.natCast_ediv];rfl
 refine bO (hE.fn Tryz.func92) O O O (fun R=>?_)
 simp only[dY,uV,uW]
 refine dO (uA O (uA O (dN (aL (dO (uM O (uX (qEi hE a ha) O ?_)))))))
 rintro _ _⟨rfl,rfl⟩
 simp only[uV,uW]
 refine uB (gY O) (uM O (dP (uM O (dP (uB (y_lt O O) ?_)))))
 apply aA
 ·(first |exact aW rfl rfl|exact aX rfl rfl)
 ·rfl
 refine dN ?_
 refine bE O (fun g1=>?_) (fun g1=>?_)
 ·exfalso;omega
 refine bC (aK (aL (dO (uM O (uB (y_eq O O) (dN ?_))))))
 refine bE O (fun g2=>?_) (fun g2=>?_)
 ·exfalso;omega
 refine bC (aK (aL (dO (uM O (uM O (uB (y_quo O O oO oO oO) ?_))))))
 refine uB (y_gt O O) (dN ?_)
 refine bE O (fun g3=>?_) (fun g3=>?_)
 ·refine aL (aJ ?_)
  refine uB (gP O (hE.t O) O) ?_
  refine uA O (uA O (dN (bZ (aV ?_))))
  exact uZ O (.tmp O (.tmp O .nil)) ⟨O,O⟩
 exfalso;rw[←hd]at g3;omega
theorem qGn (hE:Seat E){i j:Nat}{xl xr:Ent}(hi:Es[i]?=some xl)(hj:Es[j]?=some xr)(ha:xl.t.length≤dC)(hb:xr.t.length≤dC)(h:dC<xl.t.length+xr.t.length):Ct E 46 [uPt s,.int .i64 ((i+1:Nat):Int),.int .i64 ((j+1:Nat):Int)] [bR s most Es] (fun v Q=>v= .tuple #[.int .i64 0,.iface 58 (.int .i64 2)]∧Q=[bR s most Es]):=by
 have hil:=(List.getElem?_eq_some_iff.1 hi).1
 have hjl:=(List.getElem?_eq_some_iff.1 hj).1
 refine bO (hE.fn Tryz.func46) O O O (fun R=>?_)
 simp only[dY,uV,uW]
 refine dO (uA O (uA O (dN (aL (dO (uM O ?_))))))
 apply aA
 ·(first |exact eU rfl (hE.t rfl)|exact gX rfl (hE.t rfl))
 ·rfl
 refine dN (bD O (bC (aK (aL (dO (uM O (uM O (uX (qDz (Es:=Es) (i:=i+1) hE oO) O ?_))))))))
 rintro _ _⟨rfl,rfl⟩
 simp only[uV,uW]
 refine uB (gY O) (uM O (dP (uM O (dP (uM O (dP (uX (qDz (Es:=Es) (i:=j+1) hE oO) O ?_)))))))
 rintro _ _⟨rfl,rfl⟩
 simp only[uV,uW]
 refine dP (uB (gY O) ?_)
 apply aA
 ·(first |exact aW rfl rfl|exact aX rfl rfl)
 ·rfl
 refine dN (bD O (bC (aK (aL (dO (uM O (uB (y_eq O O) (dN ?_))))))))
 refine bE O (fun h1=>?_) (fun h1=>?_)
 ·exfalso;omega
 refine bC (aK (aL (dO (uM O (uB (y_eq O O) (dN ?_))))))
 refine bE O (fun h2=>?_) (fun h2=>?_)
 ·exfalso;omega
 refine bC (aK (dO (uM O (uM O (uX (ct_at hE hi) O ?_)))))
 rintro _ _⟨rfl,rfl⟩
 simp only[uV,uW]
 refine uM O (uM O (uX (ct_at hE hj) O ?_))
 rintro _ _⟨rfl,rfl⟩
 simp only[uV,uW]
 refine uU (dA (hE.t O) (fun b8=>?_))
 refine uU (dA (hE.t O) (fun b9=>?_))
 refine uU ?_
 (first |(apply bL rfl rfl (hE.t rfl) rfl;(focus((repeat constructor);done));(focus rfl);(focus(exact Nat.le_of_ble_eq_true rfl)))|(apply aS rfl rfl (hE.t rfl) rfl;(focus((repeat constructor);done));(focus rfl);(focus(first |omega |(simp only[bP,aN,List.length_cons,List.length_nil];omega)))))
 refine uU ?_
 (first |(apply bL rfl rfl (hE.t rfl) rfl;(focus((repeat constructor);done));(focus rfl);(focus(exact Nat.le_of_ble_eq_true rfl)))|(apply aS rfl rfl (hE.t rfl) rfl;(focus((repeat constructor);done));(focus rfl);(focus(first |omega |(simp only[bP,aN,List.length_cons,List.length_nil];omega)))))
 refine dN (aL (dO (uB (uBf O) ?_)))
 refine uB (uBf O) ?_
 refine uL ?_
 refine uB (uBf O) ?_
 refine uB (uBf O) ?_
 refine uL ?_
 refine uX (qMw hE ha hb h) O ?_
 rintro _ _⟨rfl,rfl⟩
 simp only[uV,uW]
 refine uM O (uB (aT O O) (uB (aT O O) (uA O (uA O (dN (dO (uM O ?_)))))))
 apply aA
 ·(first |exact dU rfl (hE.t rfl)|exact dX rfl (hE.t rfl))
 ·rfl
 refine dN (bF O (dO (uB (gP O (hE.t O) O) ?_)))
 refine uA O (uA O (dN (bZ (aV ?_))))
 exact uZ O (.tmp O (.tmp O .nil)) ⟨O,O⟩
theorem qEf (hE:Seat E){i k:Nat}{xl:Ent}(hi:Es[i]?=some xl)(ha:xl.t.length≤dC)(h0:1≤xl.t.length)(hk:2≤k)(h:dC/xl.t.length<k):Ct E 66 [uPt s,.int .i64 ((i+1:Nat):Int),.int .i64 (k:Nat)] [bR s most Es] (fun v Q=>v= .tuple #[.int .i64 0,.iface 58 (.int .i64 2)]∧Q=[bR s most Es]):=by
 have hil:=(List.getElem?_eq_some_iff.1 hi).1
 refine bO (hE.fn Tryz.func66) O O O (fun R=>?_)
 simp only[dY,uV,uW]
 refine dO (uA O (uA O (dN (aL (dO (uM O ?_))))))
 apply aA
 ·(first |exact eU rfl (hE.t rfl)|exact gX rfl (hE.t rfl))
 ·rfl
 refine dN (bD O (bC (aK (aL (dO (uM O (uM O (uX (qDz (Es:=Es) (i:=i+1) hE oO) O ?_))))))))
 rintro _ _⟨rfl,rfl⟩
 simp only[uV,uW]
 refine uB (gY O) (uM O (dP (uM O (dP (uB (y_lt O O) ?_)))))
 apply aA
 ·(first |exact aW rfl rfl|exact aX rfl rfl)
 ·rfl
 refine dN ?_
 refine bE O (fun h1=>?_) (fun h1=>?_)
 ·exfalso;omega
 refine bC (aK (aL (dO (uM O (uB (y_eq O O) (uM O ?_))))))
 refine eG 30 O (fun h2=>?_) (fun h2=>?_)
 ·exfalso;omega
 refine dP (uM O (dP (uB (y_eq O O) ?_)))
 apply aA
 ·(first |exact aW rfl rfl|exact aX rfl rfl)
 ·rfl
 refine dN ?_
 refine bE O (fun h3=>?_) (fun h3=>?_)
 ·exfalso;omega
 refine bC (aK (aL (dO (uM O (uB (y_eq O O) (dN ?_))))))
 refine bE O (fun h4=>?_) (fun h4=>?_)
 ·exfalso;omega
 refine bC (aK (dO (uM O (uM O (uX (ct_at hE hi) O ?_)))))
 rintro _ _⟨rfl,rfl⟩
 simp only[uV,uW]
 refine uU (dA (hE.t O) (fun b8=>?_))
 refine uU ?_
 (first |(apply bL rfl rfl (hE.t rfl) rfl;(focus((repeat constructor);done));(focus rfl);(focus(exact Nat.le_of_ble_eq_true rfl)))|(apply aS rfl rfl (hE.t rfl) rfl;(focus((repeat constructor);done));(focus rfl);(focus(first |omega |(simp only[bP,aN,List.length_cons,List.length_nil];omega)))))
 refine dN (aL (dO (uB (uBf O) ?_)))
 refine uB (uBf O) ?_
 refine uL ?_
 refine uM O (uX (qMz hE ha h0 h) O ?_)
 rintro _ _⟨rfl,rfl⟩
 simp only[uV,uW]
 refine uM O (uB (aT O O) (uB (aT O O) (uA O (uA O (dN (dO (uM O ?_)))))))
 apply aA
 ·(first |exact dU rfl (hE.t rfl)|exact dX rfl (hE.t rfl))
 ·rfl
 refine dN (bF O (dO (uB (gP O (hE.t O) O) ?_)))
 refine uA O (uA O (dN (bZ (aV ?_))))
 exact uZ O (.tmp O (.tmp O .nil)) ⟨O,O⟩
end Go.Proofs.YtlmpojkmeglepaaGreatDoor
