import Derived.Test.YtjbdlljghogodaaGreatDoorQ13
set_option linter.all false
set_option maxHeartbeats 1000000
namespace Eg
def cmpT:List UInt8→List UInt8→Int
 |[],[]=>0
 |[],_::_=> -1
 |_::_,[]=>1
 |a::A,b::B=>if a.toNat<b.toNat then -1 else if b.toNat<a.toNat then 1 else cmpT A B
def cmpN (a b:Nat):Int:=if a<b then -1 else if b<a then 1 else 0
theorem lG (A B:List UInt8):cmpT B A= -cmpT A B:=by
 induction A generalizing B with
 |nil=>cases B<;>simp[cmpT]
 |cons a A ih=>
  cases B with
  |nil=>simp[cmpT]
  |cons b B=>
   simp only[cmpT]
   rcases Nat.lt_trichotomy a.toNat b.toNat with h|h| h
   ·rw[if_neg oO,if_pos h,if_pos h];rfl
   ·rw[if_neg oO,if_neg oO,if_neg oO,if_neg oO,ih]
   rw[if_pos h,if_neg oO,if_pos h]
theorem vS {A B:List UInt8}:cmpT A B=0↔A=B:=by
 induction A generalizing B with
 |nil=>cases B<;>simp[cmpT]
 |cons a A ih=>
  cases B with
  |nil=>simp[cmpT]
  |cons b B=>
   simp only[cmpT]
   rcases Nat.lt_trichotomy a.toNat b.toNat with h|h| h
   ·rw[if_pos h]
    have:a≠b:=by rintro rfl;omega
    simp[this]
   ·rw[if_neg oO,if_neg oO,ih]
    have:a=b:=UInt8.toNat_inj.1 h
    simp[this]
   rw[if_neg oO,if_pos h]
   have:a≠b:=by rintro rfl;omega
   simp[this]
theorem nV (A:List UInt8):cmpT A A=0:=vS.2 rfl
theorem sG {A B C:List UInt8}(h1:cmpT A B≤0)(h2:cmpT B C≤0):cmpT A C≤0:=by
 induction A generalizing B C with
 |nil=>cases C<;>simp[cmpT]
 |cons a A ih=>
  cases B with
  |nil=>simp[cmpT]at h1
  |cons b B=>
   cases C with
   |nil=>simp[cmpT]at h2
   |cons c C=>
    simp only[cmpT]at h1 h2 ⊢
    by_cases x1:a.toNat<b.toNat
    ·by_cases x2:c.toNat<b.toNat
     ·rw[if_neg oO,if_pos x2]at h2;omega
     rw[if_pos oO];omega
    rw[if_neg x1]at h1
    by_cases x3:b.toNat<a.toNat
    ·rw[if_pos x3]at h1;omega
    rw[if_neg x3]at h1
    by_cases y1:b.toNat<c.toNat
    ·rw[if_pos oO];omega
    rw[if_neg y1]at h2
    by_cases y3:c.toNat<b.toNat
    ·rw[if_pos y3]at h2;omega
    rw[if_neg y3]at h2
    rw[if_neg oO,if_neg oO]
    exact ih h1 h2
theorem qDy {A B:List UInt8}(h:lcp A B=A.length∨lcp A B=B.length):cmpT A B=cmpN A.length B.length:=by
 induction A generalizing B with
 |nil=>cases B<;>simp[cmpT,cmpN]
 |cons a A ih=>
  cases B with
  |nil=>simp[cmpT,cmpN]
  |cons b B=>
   by_cases e:a=b
   ·subst e
    have e1:lcp (a::A) (a::B)=lcp A B+1:=by simp[lcp]
    rw[e1]at h
    simp only[List.length_cons]at h ⊢
    simp only[cmpT]
    rw[if_neg oO,if_neg oO,ih oO]
    unfold cmpN
    simp only[Nat.add_lt_add_iff_right]
   have:lcp (a::A) (b::B)=0:=by simp[lcp,e]
   rw[this]at h
   simp only[List.length_cons]at h
   omega
theorem qPi {A B:List UInt8}(h1:lcp A B≠A.length)(h2:lcp A B≠B.length):∃x y,A[lcp A B]?=some x∧B[lcp A B]?=some y∧x≠y∧cmpT A B=cmpN x.toNat y.toNat:=by
 induction A generalizing B with
 |nil=>exact absurd (lL B) h1
 |cons a A ih=>
  cases B with
  |nil=>exact absurd (kF _) h2
  |cons b B=>
   by_cases e:a=b
   ·subst e
    have e1:lcp (a::A) (a::B)=lcp A B+1:=by simp[lcp]
    rw[e1]at h1 h2 ⊢
    simp only[List.length_cons]at h1 h2
    obtain⟨x,y,g1,g2,g3,g4⟩:=ih (B:=B) oO oO
    refine⟨x,y,by simpa using g1,by simpa using g2,g3,?_⟩
    simp only[cmpT]
    rw[if_neg oO,if_neg oO,g4]
   have e1:lcp (a::A) (b::B)=0:=by simp[lcp,e]
   rw[e1]
   refine⟨a,b,O,O,e,?_⟩
   simp only[cmpT,cmpN]
   have:a.toNat≠b.toNat:=fun h=>e (UInt8.toNat_inj.1 h)
   rcases Nat.lt_trichotomy a.toNat b.toNat with h|h| h
   ·rw[if_pos h,if_pos h]
   ·omega
   rw[if_neg oO,if_pos h,if_neg oO,if_pos h]
def Bgn (A B:List UInt8):Prop:=lcp A B=B.length
instance (A B:List UInt8):Decidable (Bgn A B):=inferInstanceAs (Decidable (_=_))
theorem bgn_iff {A B:List UInt8}:Bgn A B↔B.length≤A.length∧A.take B.length=B:=by
 unfold Bgn
 have hl:=qRv A B
 constructor
 ·intro h
  refine⟨oO,?_⟩
  have:=(qLv (A:=A) (B:=B) (n:=B.length) oO (Nat.le_refl _)).1 oO
  rwa [List.take_length]at this
 rintro⟨h1,h2⟩
 have:=(qLv (A:=A) (B:=B) (n:=B.length) h1 (Nat.le_refl _)).2 (by rw[h2,List.take_length])
 omega
theorem cmpT_bgn {A B:List UInt8}(h:Bgn A B):0≤cmpT A B:=by
 rw[qDy (.inr h)]
 unfold Bgn at h
 have hl:=(qRv A B).1
 unfold cmpN
 rw[if_neg oO]
 split <;>omega
theorem qJe {A B C:List UInt8}(h1:0≤cmpT A B)(h2:cmpT A C≤0)(h3:Bgn C B):Bgn A B:=by
 induction B generalizing A C with
 |nil=>exact kF A
 |cons b B ih=>
  cases C with
  |nil=>unfold Bgn at h3;rw[lL]at h3;simp at h3
  |cons c C=>
   cases A with
   |nil=>simp[cmpT]at h1
   |cons a A=>
    have hc:c=b:=by
     by_cases e:c=b
     ·exact e
     have:lcp (c::C) (b::B)=0:=by simp[lcp,e]
     unfold Bgn at h3
     rw[this]at h3
     simp at h3
    subst hc
    have h3':Bgn C B:=by
     unfold Bgn at h3 ⊢
     have:lcp (c::C) (c::B)=lcp C B+1:=by simp[lcp]
     rw[this]at h3
     simp at h3
     exact h3
    simp only[cmpT]at h1 h2
    have x1:¬a.toNat<c.toNat:=by
     intro h;rw[if_pos h]at h1;omega
    have x2:¬c.toNat<a.toNat:=by
     intro h;rw[if_neg x1,if_pos h]at h2;omega
    rw[if_neg x1,if_neg x2]at h1 h2
    have e:a=c:=UInt8.toNat_inj.1 oO
    subst e
    have:=ih h1 h2 h3'
    unfold Bgn at this ⊢
    have e2:lcp (a::A) (a::B)=lcp A B+1:=by simp[lcp]
    rw[e2,this]
    simp
end Eg
namespace Go.Proofs.YtjbdlljghogodaaGreatDoor
open Go Go.RowKit Sl Eg
theorem qFj {α:Type}{a b:List α}{x y:α}(h:a++[x]=b++[y]):a=b∧x=y:=by
 have:=List.append_inj' h rfl
 simpa using this
theorem Lts.fn {L:List Rl}(hw:Wf L){ids ids':List Nat}{bs:List UInt8}(h:Lts L ids bs)(h':Lts L ids' bs):ids=ids':=by
 induction h generalizing ids' with
 |nil=>
  generalize e:([]:List UInt8)=c at h'
  cases h' with
  |nil=>rfl
  |snoc _ _=>simp at e
 |snoc h1 h2 ih=>
  generalize e:(_++[_]:List UInt8)=c at h'
  cases h' with
  |nil=>simp at e
  |snoc g1 g2=>
   obtain⟨rfl,rfl⟩:=qFj e
   rw[ih g1,hw.nodup _ _ _ h2 g2]
theorem RunId.fn {L:List Rl}(hw:Wf L){x t i j:Nat}(h:RunId L x t i)(h':RunId L x t j):i=j:=by
 rcases h with⟨h1,h2⟩|⟨h1,a,rfl,h2⟩<;>rcases h' with⟨g1,g2⟩|⟨g1,b,rfl,g2⟩
 ·rw[h2,g2]
 ·omega
 ·omega
 rw[hw.nodup _ _ _ h2 g2]
theorem Rns.fn {L:List Rl}(hw:Wf L){rs:List (Nat×Nat)}{out out':List Nat}(h:Rns L rs out)(h':Rns L rs out'):out=out':=by
 induction h generalizing out' with
 |nil=>
  generalize e:([]:List (Nat×Nat))=c at h'
  cases h' with
  |nil=>rfl
  |snoc _ _=>simp at e
 |snoc h1 h2 ih=>
  generalize e:(_++[_]:List (Nat×Nat))=c at h'
  cases h' with
  |nil=>simp at e
  |snoc g1 g2=>
   obtain⟨rfl,e2⟩:=qFj e
   cases e2
   rw[ih g1,h2.fn hw g2]
theorem Prs.fn {L:List Rl}(hw:Wf L){ids js out out':List Nat}{a a':Nat}(h:Prs L ids js a out)(h':Prs L ids js a' out'):a=a'∧out=out':=by
 induction h generalizing a' out' with
 |nil=>
  generalize e:([]:List Nat)=c at h'
  cases h' with
  |nil=>exact⟨rfl,rfl⟩
  |snoc _ _ _ _ _=>simp at e
 |snoc h1 h2 h3 h4 h5 ih=>
  generalize e:(_++[_]:List Nat)=c at h'
  cases h' with
  |nil=>simp at e
  |snoc g1 g2 g3 g4 g5=>
   obtain⟨rfl,rfl⟩:=qFj e
   obtain⟨rfl,rfl⟩:=ih g1
   rw[h3]at g3
   rw[h4]at g4
   cases g3
   cases g4
   rw[hw.nodup _ _ _ h5 g5]
   exact⟨O,O⟩
theorem Rch.pos {L:List Rl}{bs:List UInt8}{lv:Nat}{ids:List Nat}(h:Rch L bs lv ids):1≤lv:=by
 cases h<;>omega
theorem Rch.fn {L:List Rl}(hw:Wf L){bs:List UInt8}{lv:Nat}{ids ids':List Nat}(h:Rch L bs lv ids)(h':Rch L bs lv ids'):ids=ids':=by
 induction h generalizing ids' with
 |start h=>
  generalize e:1=l at h'
  cases h' with
  |start g=>exact h.fn hw g
  |odd g _ _ _=>have:=g.pos;omega
  |even g _ _ _ _=>have:=g.pos;omega
 |odd h h1 h2 h3 ih=>
  generalize e:_+1=l at h'
  cases h' with
  |start g=>have:=h.pos;omega
  |odd g g1 g2 g3=>
   have e1:=Nat.succ.inj e
   subst e1
   have e2:=ih g
   subst e2
   exact h3.fn hw g3
  |even g g1 _ _ _=>omega
 |even h h1 h2 h3 h4 ih=>
  generalize e:_+1=l at h'
  cases h' with
  |start g=>have:=h.pos;omega
  |odd g g1 g2 g3=>omega
  |even g g1 g2 g3 g4=>
   have e1:=Nat.succ.inj e
   subst e1
   have e2:=ih g
   subst e2
   obtain⟨rfl,rfl⟩:=h4.fn hw g4
   rfl
theorem Rch.before {L:List Rl}{bs:List UInt8}{lv:Nat}{ids:List Nat}(h:Rch L bs lv ids):∀k,1≤k→k<lv→∃r,Rch L bs k r∧2≤r.length:=by
 induction h with
 |start h=>intro k h1 h2;omega
 |odd h h1 h2 h3 ih=>
  intro k k1 k2
  rcases Nat.lt_or_ge k _ with e| e
  ·exact ih k k1 e
  obtain rfl:=Nat.le_antisymm (Nat.le_of_lt_succ k2) e
  exact⟨_,h,h2⟩
 |even h h1 h2 h3 h4 ih=>
  intro k k1 k2
  rcases Nat.lt_or_ge k _ with e| e
  ·exact ih k k1 e
  obtain rfl:=Nat.le_antisymm (Nat.le_of_lt_succ k2) e
  exact⟨_,h,h2⟩
theorem Rch.one {L:List Rl}(hw:Wf L){bs:List UInt8}{lv lv' x y:Nat}(h:Rch L bs lv [x])(h':Rch L bs lv' [y]):x=y:=by
 rcases Nat.lt_trichotomy lv lv' with hl|hl|hl
 ·obtain⟨r,hr,h2⟩:=h'.before lv h.pos hl
  rw[←h.fn hw hr]at h2
  simp at h2
 ·subst hl
  have:=h.fn hw h'
  simpa using this
 obtain⟨r,hr,h2⟩:=h.before lv' h'.pos hl
 rw[←h'.fn hw hr]at h2
 simp at h2
def Sg (L:List Rl)(bs:List UInt8)(id:Nat):Prop:=(bs=[]∧id=0)∨∃lv,Rch L bs lv [id]
theorem Lts.nil_inv {L:List Rl}{ids:List Nat}(h:Lts L ids []):ids=[]:=by
 generalize e:([]:List UInt8)=c at h
 cases h with
 |nil=>rfl
 |snoc _ _=>simp at e
theorem Rch.nonempty {L:List Rl}{bs:List UInt8}{lv x:Nat}(h:Rch L bs lv [x]):bs≠[]:=by
 rintro rfl
 have key:∀{lv:Nat}{ids:List Nat},Rch L [] lv ids→ids=[]∧lv=1:=by
  intro lv ids h
  induction h with
  |start h=>exact⟨h.nil_inv,rfl⟩
  |odd h h1 h2 h3 ih=>rw[ih.1]at h2;simp at h2
  |even h h1 h2 h3 h4 ih=>rw[ih.1]at h2;simp at h2
 have:=(key h).1
 simp at this
theorem Sg.fn {L:List Rl}(hw:Wf L){bs:List UInt8}{x y:Nat}(h:Sg L bs x)(h':Sg L bs y):x=y:=by
 rcases h with⟨h1,h2⟩|⟨lv,h⟩<;>rcases h' with⟨g1,g2⟩|⟨lv',h'⟩
 ·rw[h2,g2]
 ·exact absurd h1 h'.nonempty
 ·exact absurd g1 h.nonempty
 exact h.one hw h'
end Go.Proofs.YtjbdlljghogodaaGreatDoor
namespace Eg
theorem rep_get {t:List UInt8}{k p:Nat}(hp:p<k*t.length):(rep k t)[p]?=t[p%t.length]?:=by
 induction k generalizing p with
 |zero=>simp at hp
 |succ k ih=>
  have e:rep (k+1) t=t++rep k t:=by simp[rep,List.replicate_succ]
  rw[e]
  have hm:(k+1)*t.length=k*t.length+t.length:=by rw[Nat.succ_mul]
  by_cases h:p<t.length
  ·rw[List.getElem?_append_left h,Nat.mod_eq_of_lt h]
  rw[List.getElem?_append_right oO,ih oO,Nat.mod_eq_sub_mod (a:=p) oO]
theorem txt_down {L:List Rl}(hw:Wf L){i p:Nat}{c:UInt8}{r:Rl}(hr:L[i]?=some r)(h:(txt L (i+1))[p]?=some c):
  (∃b,r= .letter b∧c=b)∨(∃x k,r= .power x k∧1≤x∧x≤i∧1≤len L x∧(txt L x)[p%len L x]?=some c)∨
  (∃a b,r= .pair a b∧1≤a∧a≤i∧1≤b∧b≤i∧((p<len L a∧(txt L a)[p]?=some c)∨(len L a≤p∧(txt L b)[p-len L a]?=some c))):=by
 have hk:=hw.ok i r hr
 have hi:i<L.length:=(List.getElem?_eq_some_iff.1 hr).1
 have hp:p<(txt L (i+1)).length:=(List.getElem?_eq_some_iff.1 h).1
 cases r with
 |letter b=>
  left
  rw[gJ hr]at h
  refine⟨b,O,?_⟩
  cases p with
  |zero=>simpa using h.symm
  |succ p=>simp at h
 |pair a b=>
  right;right
  obtain⟨h1,h2,h3,h4⟩:=hk
  rw[jT hr ⟨h1,h2,h3,h4⟩]at h
  refine⟨a,b,O,h1,oO,h3,oO,?_⟩
  by_cases hc:p<len L a
  ·left
   rw[List.getElem?_append_left hc]at h
   exact⟨hc,h⟩
  right
  have hc':(txt L a).length≤p:=by unfold len at hc;omega
  rw[List.getElem?_append_right hc']at h
  exact⟨oO,h⟩
 |power x k=>
  right;left
  obtain⟨h1,h2,h3⟩:=hk
  have hl:=qG hw x h1 oO
  have hlp:=pF hr ⟨h1,h2,h3⟩
  rw[lS hr ⟨h1,h2,h3⟩]at h
  have e:(List.replicate k (txt L x)).flatten=rep k (txt L x):=rfl
  rw[e,rep_get (by unfold len at hlp;rw[←hlp];exact hp)]at h
  exact⟨x,k,O,h1,oO,hl,h⟩
end Eg
namespace Go.Proofs.YtjbdlljghogodaaGreatDoor
open Go Go.RowKit Sl Eg
set_option maxRecDepth 10000
variable {E:Env}{Es:List Ent}{pp tb s most:Nat}
theorem qGr (hE:Seat E){x k l p:Nat}(hl:1≤l)(hl2:l≤1152921504606846976)(hp:p≤1152921504606846976):Ct E 170 [.agg #[.int .i64 (Rl.kind ((.power x k)):Nat),.int .u8 (Rl.byte ((.power x k)):Nat),.int .i64 (Rl.left ((.power x k)):Nat),.int .i64 (Rl.right ((.power x k)):Nat),.int .i64 (Rl.times ((.power x k)):Nat)],.int .i64 (l:Nat),.int .i64 (p:Nat)] [] (fun v Q=>v= .tuple #[.int .i64 (x:Nat),.int .i64 ((p%l:Nat):Int)]∧Q=[]):=by
 refine bO (hE.fn Tryz.func170) O O O (fun R=>?_)
 simp only[dR,uV,uW]
 refine gg2 ?_
 refine uU ?_
 refine gL O (fun b3=>?_)
 refine gg29 ?_
 exact uZ O (.tmp O (.tmp O .nil)) ⟨by simp[one,Rl.left],rfl⟩
theorem qJi (hE:Seat E){a b l p:Nat}(h:p<l):Ct E 170 [.agg #[.int .i64 (Rl.kind ((.pair a b)):Nat),.int .u8 (Rl.byte ((.pair a b)):Nat),.int .i64 (Rl.left ((.pair a b)):Nat),.int .i64 (Rl.right ((.pair a b)):Nat),.int .i64 (Rl.times ((.pair a b)):Nat)],.int .i64 (l:Nat),.int .i64 (p:Nat)] [] (fun v Q=>v= .tuple #[.int .i64 (a:Nat),.int .i64 (p:Nat)]∧Q=[]):=by
 refine bO (hE.fn Tryz.func170) O O O (fun R=>?_)
 simp only[dR,uV,uW]
 refine gg2 ?_
 refine uU ?_
 refine gL O (fun b3=>?_)
 refine gg23 ?_
 refine bE O (fun h1=>?_) (fun h1=>?_)
 ·refine gg12 ?_
  exact uZ O (.tmp O (.tmp O .nil)) ⟨O,O⟩
 exfalso;omega
theorem qGs (hE:Seat E){a b l p:Nat}(h:l≤p)(hp:p≤1152921504606846976):Ct E 170 [.agg #[.int .i64 (Rl.kind ((.pair a b)):Nat),.int .u8 (Rl.byte ((.pair a b)):Nat),.int .i64 (Rl.left ((.pair a b)):Nat),.int .i64 (Rl.right ((.pair a b)):Nat),.int .i64 (Rl.times ((.pair a b)):Nat)],.int .i64 (l:Nat),.int .i64 (p:Nat)] [] (fun v Q=>v= .tuple #[.int .i64 (b:Nat),.int .i64 ((p-l:Nat):Int)]∧Q=[]):=by
 refine bO (hE.fn Tryz.func170) O O O (fun R=>?_)
 simp only[dR,uV,uW]
 refine gg2 ?_
 refine uU ?_
 refine gL O (fun b3=>?_)
 refine gg23 ?_
 refine bE O (fun h1=>?_) (fun h1=>?_)
 ·exfalso;omega
 refine gg15 ?_
 apply cB
 ·rfl
 ·(apply Rs.tmp rfl;apply Rs.tmp rfl;exact Rs.nil)
 ·refine⟨?_,O⟩
  rw[show((p-l:Nat):Int)=(p:Int)-(l:Int) by omega]
  rfl
 exact uI
theorem ct_At (hE:Seat E){i p:Nat}{c:UInt8}(hi:i≤Es.length)(hc:(txt (rls Es) i)[p]?=some c):Ct E 120 [uPt s,.int .i64 (i:Nat),.int .i64 (p:Nat)] [bR s most Es] (fun v Q=>v= .tuple #[.int .u8 (c.toNat:Nat),.nilIface]∧Q=[bR s most Es]):=by
 refine dY (p:=bR s most Es) uK (fun _ h=>dP h) (fun hsay=>?_)
 obtain⟨j,rfl⟩:∃j,i=j+1:=by
  cases i with
  |zero=>rw[kL]at hc;simp at hc
  |succ j=>exact⟨j,rfl⟩
 have hpl:p<(txt (rls Es) (j+1)).length:=(List.getElem?_eq_some_iff.1 hc).1
 have hsh:=hsay.1.short (j+1)
 have hmx:dB=1152921504606846976:=rfl
 have hent:Es[j]?=some (Es[j]'oO):=List.getElem?_eq_getElem oO
 generalize Es[j]'oO=en at hent
 have htx:=hsay.2.1 j en hent
 have hle:en.t.length=len (rls Es) (j+1):=by rw[htx];rfl
 have hlen:len (rls Es) (j+1)=(txt (rls Es) (j+1)).length:=rfl
 refine bO (hE.fn Tryz.func120) O O O (fun R=>?_)
 simp only[dR,uV,uW]
 refine gg10 ?_
 refine uX (jC hE hent) O ?_
 rintro _ _⟨rfl,rfl⟩
 simp only[uV,uW]
 refine gg3 ?_
 refine uU (cZ (hE.t O) (fun b8=>?_))
 refine gg20 ?_
 refine dS 24 O (fun h1=>?_) (fun h1=>?_)
 ·exfalso;omega
 refine gg11 ?_
 refine bE O (fun h2=>?_) (fun h2=>?_)
 ·exfalso;omega
 refine gg3 ?_
 clear htx hle hlen hent h1 h2
 refine dW (fun x:Nat×Nat=>[(0,uPt s),(1,.int .i64 ((x.1+1:Nat):Int)),(2,.int .i64 (x.2:Nat))]) (fun x=>[bR s most Es,R]) (fun x=>x.1) (fun x=>x.1<Es.length∧(txt (rls Es) (x.1+1))[x.2]?=some c) (j,p) ?_ ?_ ?_ ?_
 ·exact⟨oO,hc⟩
 ·exact⟨O,O,O,trivial⟩
 ·exact uI
 clear hc hpl hsh hi
 rintro⟨j,p⟩⟨hj,hc⟩
 simp only at hj hc ⊢
 have hpl:p<(txt (rls Es) (j+1)).length:=(List.getElem?_eq_some_iff.1 hc).1
 have hsh:=hsay.1.short (j+1)
 have hlen:len (rls Es) (j+1)=(txt (rls Es) (j+1)).length:=rfl
 have hent:Es[j]?=some (Es[j]'hj):=List.getElem?_eq_getElem hj
 generalize Es[j]'hj=en at hent
 have hrl:(rls Es)[j]?=some en.r:=by simp[rls,hent]
 refine gg5 ?_
 refine uX (jB hE hent) O ?_
 rintro _ _⟨rfl,rfl⟩
 simp only[uV,uW]
 have hdn:=txt_down hsay.1 hrl hc
 generalize en.r=r at hdn
 rcases hdn with⟨b,rfl,rfl⟩|⟨x,k,rfl,hx1,hx2,hl,hcx⟩|⟨a,b,rfl,ha1,ha2,hb1,hb2,hab⟩
 ·refine gg3 ?_
  refine uU (cZ (hE.t O) (fun b10=>?_))
  refine gg36 ?_
  exact uZ O (.tmp O (.tmp O .nil)) ⟨O,O⟩
 ·obtain⟨x,rfl⟩:∃y,x=y+1:=⟨x-1,oO⟩
  have hxt:Es[x]?=some (Es[x]'oO):=List.getElem?_eq_getElem oO
  generalize Es[x]'oO=ex at hxt
  have e1:ex.t.length=len (rls Es) (x+1):=by rw[hsay.2.1 x ex hxt];rfl
  have hs2:=hsay.1.short (x+1)
  refine gg3 ?_
  refine uU (cZ (hE.t O) (fun b10=>?_))
  refine gg30 ?_
  refine uX (jC hE hxt) O ?_
  rintro _ _⟨rfl,rfl⟩
  simp only[uV,uW]
  refine gg3 ?_
  refine uU (cZ (hE.t O) (fun b12=>?_))
  refine gg19 ?_
  refine uX (qGr hE (l:=ex.t.length) oO oO oO) O ?_
  rintro _ _⟨rfl,rfl⟩
  simp only[uV,uW]
  refine gg7 ?_
  refine bS (ι:=Nat×Nat) (j:=(x,p%ex.t.length)) ⟨oO,by rw[e1];exact hcx⟩ (by show x<j;omega) ⟨rfl,rfl,rfl,trivial⟩ ?_
  exact uI
 obtain⟨a,rfl⟩:∃y,a=y+1:=⟨a-1,oO⟩
 obtain⟨b,rfl⟩:∃y,b=y+1:=⟨b-1,oO⟩
 have hxt:Es[a]?=some (Es[a]'oO):=List.getElem?_eq_getElem oO
 generalize Es[a]'oO=ex at hxt
 have e1:ex.t.length=len (rls Es) (a+1):=by rw[hsay.2.1 a ex hxt];rfl
 refine gg3 ?_
 refine uU (cZ (hE.t O) (fun b10=>?_))
 refine gg30 ?_
 refine uX (jC hE hxt) O ?_
 rintro _ _⟨rfl,rfl⟩
 simp only[uV,uW]
 refine gg3 ?_
 refine uU (cZ (hE.t O) (fun b12=>?_))
 refine gg19 ?_
 rcases hab with⟨h1,h2⟩|⟨h1,h2⟩
 ·refine uX (qJi hE (l:=ex.t.length) oO) O ?_
  rintro _ _⟨rfl,rfl⟩
  simp only[uV,uW]
  refine gg7 ?_
  refine bS (ι:=Nat×Nat) (j:=(a,p)) ⟨oO,h2⟩ (by show a<j;omega) ⟨O,O,O,trivial⟩ ?_
  exact uI
 refine uX (qGs hE (l:=ex.t.length) oO oO) O ?_
 rintro _ _⟨rfl,rfl⟩
 simp only[uV,uW]
 refine gg7 ?_
 refine bS (ι:=Nat×Nat) (j:=(b,p-ex.t.length)) ⟨oO,by rw[e1];exact h2⟩ (by show b<j;omega) ⟨rfl,rfl,rfl,trivial⟩ ?_
 exact uI
end Go.Proofs.YtjbdlljghogodaaGreatDoor
namespace Sl
open Go Go.RowKit
theorem rd_cells {w0:World}{g:Nat}{vs us:List Value}{t:TypeId}(h:∀(i:Nat)(v:Value),vs[i]?=some v→us[i]?=some v):∀k,cells g us t k→RdAt w0 g 0 vs k:=fun k hk i v hv=> .inr ⟨⟨us⟩,t,(0,0),hk,by rw[Nat.zero_add];simpa using h i v hv⟩
end Sl
namespace Go.Proofs.YtjbdlljghogodaaGreatDoor
open Go Go.RowKit Sl Eg
set_option maxRecDepth 10000
variable {E:Env}{Es:List Ent}{pp tb s most:Nat}
theorem qLh (hE:Seat E){a:Int}:Ct E 169 [.int .i64 a] [] (fun v Q=>v= .bool false∧Q=[]):=by
 refine bO (hE.fn Tryz.func169) O O O (fun R=>?_)
 simp only[dR,uV,uW]
 refine gg14 ?_
 exact uZ O (.tmp O .nil) ⟨by simp[one],rfl⟩
theorem qGv (hE:Seat E){a:Int}:Ct E 171 [.int .u8 a] [] (fun v Q=>v= .bool false∧Q=[]):=by
 refine bO (hE.fn Tryz.func171) O O O (fun R=>?_)
 simp only[dR,uV,uW]
 refine gg14 ?_
 exact uZ O (.tmp O .nil) ⟨by simp[one],rfl⟩
theorem ct_cmp (hE:Seat E){a b:Nat}:Ct E 119 [.int .i64 (a:Nat),.int .i64 (b:Nat)] [] (fun v Q=>v= .int .i64 (cmpN a b)∧Q=[]):=by
 refine bO (hE.fn Tryz.func119) O O O (fun R=>?_)
 simp only[dR,uV,uW]
 refine gg8 ?_
 refine uX (qLh hE) O ?_
 rintro _ _⟨rfl,rfl⟩
 simp only[uV,uW]
 refine gg6 ?_
 refine uX (qLh hE) O ?_
 rintro _ _⟨rfl,rfl⟩
 simp only[uV,uW]
 refine gg29 ?_
 refine bE O (fun h1=>?_) (fun h1=>?_)
 ·refine gg7 ?_
  exact uZ O (.tmp O .nil) ⟨by simp only[one];rw[cmpN,if_pos oO],rfl⟩
 refine gg10 ?_
 refine bE O (fun h2=>?_) (fun h2=>?_)
 ·refine gg7 ?_
  exact uZ O (.tmp O .nil) ⟨by simp only[one];rw[cmpN,if_neg oO,if_pos oO],rfl⟩
 refine gg8 ?_
 exact uZ O (.tmp O .nil) ⟨by simp only[one];rw[cmpN,if_neg oO,if_neg oO],rfl⟩
theorem ct_cmp8 (hE:Seat E){a b:Nat}:Ct E 121 [.int .u8 (a:Nat),.int .u8 (b:Nat)] [] (fun v Q=>v= .int .i64 (cmpN a b)∧Q=[]):=by
 refine bO (hE.fn Tryz.func121) O O O (fun R=>?_)
 simp only[dR,uV,uW]
 refine gg8 ?_
 refine uX (qGv hE) O ?_
 rintro _ _⟨rfl,rfl⟩
 simp only[uV,uW]
 refine gg6 ?_
 refine uX (qGv hE) O ?_
 rintro _ _⟨rfl,rfl⟩
 simp only[uV,uW]
 refine gg29 ?_
 refine bE O (fun h1=>?_) (fun h1=>?_)
 ·refine gg7 ?_
  exact uZ O (.tmp O .nil) ⟨by simp only[one];rw[cmpN,if_pos oO],rfl⟩
 refine gg10 ?_
 refine bE O (fun h2=>?_) (fun h2=>?_)
 ·refine gg7 ?_
  exact uZ O (.tmp O .nil) ⟨by simp only[one];rw[cmpN,if_neg oO,if_pos oO],rfl⟩
 refine gg8 ?_
 exact uZ O (.tmp O .nil) ⟨by simp only[one];rw[cmpN,if_neg oO,if_neg oO],rfl⟩
theorem pW (hE:Seat E){i:Nat}(hi:i≤(rls Es).length):Ct E 118 [uPt pp,.int .i64 (i:Nat)] [cells pp [uPt s,uPt tb] 108,tabP tb s (rls Es),bR s most Es] (fun v Q=>v= .int .i64 (len (rls Es) i:Nat)∧Q=[cells pp [uPt s,uPt tb] 108,tabP tb s (rls Es),bR s most Es]):=by
 refine dY (p:=bR s most Es) uK (fun _ h=>dP h) (fun hsay=>?_)
 rw[bQ]at hi
 cases i with
 |zero=>
  refine bO (hE.fn Tryz.func118) O O O (fun R=>?_)
  simp only[dR,uV,uW]
  refine gg8 ?_
  refine uX (fD hE) O ?_
  rintro _ _⟨rfl,rfl⟩
  simp only[uV,uW]
  refine gg1 ?_
  refine uX (sK hE) O ?_
  rintro _ _⟨rfl,rfl⟩
  simp only[uV,uW]
  refine gg3 ?_
  refine uU (cZ (hE.t O) (fun b5=>?_))
  refine gg12 ?_
  exact uZ O (.tmp O .nil) ⟨O,O⟩
 |succ i=>
  have hent:Es[i]?=some (Es[i]'oO):=List.getElem?_eq_getElem oO
  generalize Es[i]'oO=en at hent
  have htx:=hsay.2.1 i en hent
  refine bO (hE.fn Tryz.func118) O O O (fun R=>?_)
  simp only[dR,uV,uW]
  refine gg8 ?_
  refine uX (fD hE) O ?_
  rintro _ _⟨rfl,rfl⟩
  simp only[uV,uW]
  refine gg1 ?_
  refine uX (jC hE hent) O ?_
  rintro _ _⟨rfl,rfl⟩
  simp only[uV,uW]
  refine gg3 ?_
  refine uU (cZ (hE.t O) (fun b5=>?_))
  refine gg12 ?_
  exact uZ O (.tmp O .nil) ⟨by rw[len,←htx];rfl,rfl⟩
theorem zW (hE:Seat E)(hB:Base E.w0){ids:List Nat}(hg:∀x∈ids,good (rls Es) x) {a:Option Addr} {c:Nat} {q:HP} (hq:ids≠[]→∃g o,a=some ⟨g,o,none⟩∧∀k,q k→RdAt E.w0 g o (idC ids) k) (hl:ids.length≤1152921504606846976):
  Ct E 68 [uPt pp,.slice a ids.length c] [cells pp [uPt s,uPt tb] 108,tabP tb s (rls Es),bR s most Es,q] (fun v Q=>v= .nilIface∧Q=[cells pp [uPt s,uPt tb] 108,tabP tb s (rls Es),bR s most Es,q]):=by
 refine bO (hE.fn Tryz.func68) O O O (fun R=>?_)
 simp only[dR,uV,uW]
 refine gg9 ?_
 refine uX (fD hE) O ?_
 rintro _ _⟨rfl,rfl⟩
 simp only[uV,uW]
 refine gg15 ?_
 refine dW (fun k:Nat=>[(0,uPt pp),(13,.slice a ids.length c),(14,.int .i64 (ids.length:Nat)),(15,.int .i64 (k:Nat))]) (fun k=>[cells pp [uPt s,uPt tb] 108,tabP tb s (rls Es),bR s most Es,q,R]) (fun k=>ids.length-k) (fun k=>k≤ids.length) 0 ?_ ?_ ?_ ?_
 ·exact Nat.zero_le _
 ·exact⟨O,O,O,O,trivial⟩
 ·exact uI
 intro k hk
 refine gg6 ?_
 refine bE O (fun h1=>?_) (fun h1=>?_)
 ·have hkl:k<ids.length:=oO
  obtain⟨g,o,rfl,hqq⟩:=hq (by intro e;rw[e]at hkl;simp at hkl)
  obtain⟨x,hx⟩:∃x,ids[k]?=some x:=⟨_,List.getElem?_eq_getElem hkl⟩
  have gx:=hg x (List.mem_of_getElem? hx)
  have gx1:=gx.1
  rw[bQ]at gx1
  have f0:=fV hx k O
  refine gg17 ?_
  refine dS 21 O (fun h2=>?_) (fun h2=>?_)
  ·exfalso;omega
  refine gg5 ?_
  refine uX (fD hE) O ?_
  rintro _ _⟨rfl,rfl⟩
  simp only[uV,uW]
  refine gg1 ?_
  refine uX (yJ hE) O ?_
  rintro _ _⟨rfl,rfl⟩
  simp only[uV,uW]
  refine gg5 ?_
  refine bE O (fun h3=>?_) (fun h3=>?_)
  ·exfalso;omega
  refine gg6 ?_
  refine uX (tY hE hB gx) O ?_
  rintro _ _⟨rfl,rfl⟩
  simp only[uV,uW]
  refine gg21 ?_
  refine gG 15 (.int .i64 ((k+1:Nat):Int)) O (bW oO) ?_
  refine bS (k+1) oO oO ⟨O,O,O,O,trivial⟩ ?_
  exact uI
 refine gg11 ?_
 exact uZ O (.tmp O .nil) ⟨O,O⟩
theorem sI (hE:Seat E)(hB:Base E.w0){i j:Nat}(hi:good (rls Es) i)(hj:good (rls Es) j)(hs:len (rls Es) i+len (rls Es) j<8388608):
  Ct E 72 [uPt pp,.int .i64 (i:Nat),.int .i64 (j:Nat)] [cells pp [uPt s,uPt tb] 108,tabP tb s (rls Es),bR s most Es] (fun v Q=>v= .int .i64 (cmpT (txt (rls Es) i) (txt (rls Es) j))∧Q=[cells pp [uPt s,uPt tb] 108,tabP tb s (rls Es),bR s most Es]):=by
 have li:len (rls Es) i=(txt (rls Es) i).length:=rfl
 have lj:len (rls Es) j=(txt (rls Es) j).length:=rfl
 have hi1:=hi.1
 have hj1:=hj.1
 have hi2:=hi.1
 have hj2:=hj.1
 rw[bQ]at hi2 hj2
 refine bO (hE.fn Tryz.func72) O O O (fun R=>?_)
 simp only[dR,uV,uW]
 refine gg10 ?_
 refine uX (qGl hE hB hi hj) O ?_
 rintro _ _⟨n,rfl, -,e1,rfl⟩
 obtain rfl:n=lcp (txt (rls Es) i) (txt (rls Es) j):=by rw[e1 (by simp only[eQ];omega),tx_f,tx_f]
 simp only[uV,uW]
 refine gg13 ?_
 refine uX (pW hE hi1) O ?_
 rintro _ _⟨rfl,rfl⟩
 simp only[uV,uW]
 refine gg2 ?_
 refine dS 25 O (fun h1=>?_) (fun h1=>?_)
 ·refine gg13 ?_
  refine uX (pW hE hi1) O ?_
  rintro _ _⟨rfl,rfl⟩
  simp only[uV,uW]
  refine gg2 ?_
  refine uX (pW hE hj1) O ?_
  rintro _ _⟨rfl,rfl⟩
  simp only[uV,uW]
  refine uX (ct_cmp hE) O ?_
  rintro _ _⟨rfl,rfl⟩
  simp only[uV,uW]
  refine gg5 ?_
  exact uZ O (.tmp O .nil) ⟨by rw[qDy (.inl oO)];rfl,rfl⟩
 refine gg7 ?_
 refine uX (pW hE hj1) O ?_
 rintro _ _⟨rfl,rfl⟩
 simp only[uV,uW]
 refine gg5 ?_
 refine bE O (fun h2=>?_) (fun h2=>?_)
 ·refine gg4 ?_
  refine uX (pW hE hi1) O ?_
  rintro _ _⟨rfl,rfl⟩
  simp only[uV,uW]
  refine gg2 ?_
  refine uX (pW hE hj1) O ?_
  rintro _ _⟨rfl,rfl⟩
  simp only[uV,uW]
  refine uX (ct_cmp hE) O ?_
  rintro _ _⟨rfl,rfl⟩
  simp only[uV,uW]
  refine gg5 ?_
  exact uZ O (.tmp O .nil) ⟨by rw[qDy (.inr oO)];rfl,rfl⟩
 obtain⟨x,y,hx,hy,hxy,hcm⟩:=qPi (A:=txt (rls Es) i) (B:=txt (rls Es) j) oO oO
 refine gg5 ?_
 refine uX (fD hE) O ?_
 rintro _ _⟨rfl,rfl⟩
 simp only[uV,uW]
 refine gg2 ?_
 refine uX (ct_At hE hi2 hx) O ?_
 rintro _ _⟨rfl,rfl⟩
 simp only[uV,uW]
 refine gg10 ?_
 refine uX (fD hE) O ?_
 rintro _ _⟨rfl,rfl⟩
 simp only[uV,uW]
 refine gg2 ?_
 refine uX (ct_At hE hj2 hy) O ?_
 rintro _ _⟨rfl,rfl⟩
 simp only[uV,uW]
 refine gg11 ?_
 refine uX (ct_cmp8 hE) O ?_
 rintro _ _⟨rfl,rfl⟩
 simp only[uV,uW]
 refine gg4 ?_
 exact uZ O (.tmp O .nil) ⟨by rw[hcm];rfl,rfl⟩
theorem qPs (hE:Seat E)(hB:Base E.w0){i j:Nat}(hi:good (rls Es) i)(hj:good (rls Es) j)(hs:len (rls Es) i+len (rls Es) j<8388608):
  Ct E 80 [uPt pp,.int .i64 (i:Nat),.int .i64 (j:Nat)] [cells pp [uPt s,uPt tb] 108,tabP tb s (rls Es),bR s most Es] (fun v Q=>v= .bool (decide (Bgn (txt (rls Es) i) (txt (rls Es) j)))∧Q=[cells pp [uPt s,uPt tb] 108,tabP tb s (rls Es),bR s most Es]):=by
 have lj:len (rls Es) j=(txt (rls Es) j).length:=rfl
 refine bO (hE.fn Tryz.func80) O O O (fun R=>?_)
 simp only[dR,uV,uW]
 refine gg10 ?_
 refine uX (qGl hE hB hi hj) O ?_
 rintro _ _⟨n,rfl, -,e1,rfl⟩
 obtain rfl:n=lcp (txt (rls Es) i) (txt (rls Es) j):=by rw[e1 (by simp only[eQ];omega),tx_f,tx_f]
 simp only[uV,uW]
 refine gg12 ?_
 refine uX (pW hE hj.1) O ?_
 rintro _ _⟨rfl,rfl⟩
 simp only[uV,uW]
 refine gg5 ?_
 apply cB
 ·rfl
 ·(apply Rs.tmp rfl;exact Rs.nil)
 ·refine⟨?_,O⟩
  simp only[one]
  congr 1
  exact decide_eq_decide.2 (by unfold Bgn;omega)
 exact uI
end Go.Proofs.YtjbdlljghogodaaGreatDoor
