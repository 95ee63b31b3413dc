import Derived.Test.YtnicahfnolhgbaaGreatDoorQ12
set_option linter.all false
set_option maxHeartbeats 1000000
namespace Eg
def Cr:List UInt8->List UInt8->Int
 |[],[]=>0
 |[],_::_=> -1
 |_::_,[]=>1
 |a::A,b::B=>if a.toNat<b.toNat then -1 else if b.toNat<a.toNat then 1 else Cr A B
def qK (A B:List UInt8):Cr B A= -Cr A B:=by
 induction A generalizing B with
 |nil=>cases B<;>simp[Cr]
 |cons a A ih=>
  cases B with
  |nil=>simp[Cr]
  |cons b B=>
   simp only[Cr]
   rcases uz a.toNat b.toNat with h|h| h
   ·rw[if_neg oO,if_pos h,if_pos h];rfl
   ·rw[if_neg oO,if_neg oO,if_neg oO,if_neg oO,ih]
   rw[if_pos h,if_neg oO,if_pos h]
def Wq {A B}:Cr A B=0↔A=B:=by
 induction A generalizing B with
 |nil=>cases B<;>simp[Cr]
 |cons a A ih=>
  cases B with
  |nil=>simp[Cr]
  |cons b B=>
   simp only[Cr]
   rcases uz a.toNat b.toNat with h|h| h
   ·rw[if_pos h]
    have:a≠b:=by rintro rfl;omega
    simp[this]
   ·rw[if_neg oO,if_neg oO,ih]
    have:a=b:=UInt8.toNat_inj.1 h
    simp[this]
   rw[if_neg oO,if_pos h]
   have:a≠b:=by rintro rfl;omega
   simp[this]
def qVu (A:List UInt8):Cr A A=0:=Wq.2 rfl
def Zy {A B C}(h1:Cr A B<=0)(h2:Cr B C<=0):Cr A C<=0:=by
 induction A generalizing B C with
 |nil=>cases C<;>simp[Cr]
 |cons a A ih=>
  cases B with
  |nil=>simp[Cr]at h1
  |cons b B=>
   cases C with
   |nil=>simp[Cr]at h2
   |cons c C=>
    simp only[Cr]at h1 h2 ⊢
    by_cases x1:a.toNat<b.toNat
    ·by_cases x2:c.toNat<b.toNat
     ·rw[if_neg oO,if_pos x2]at h2;omega
     rw[if_pos oO];omega
    rw[if_neg x1]at h1
    by_cases x3:b.toNat<a.toNat
    ·rw[if_pos x3]at h1;omega
    rw[if_neg x3]at h1
    by_cases y1:b.toNat<c.toNat
    ·rw[if_pos oO];omega
    rw[if_neg y1]at h2
    by_cases y3:c.toNat<b.toNat
    ·rw[if_pos y3]at h2;omega
    rw[if_neg y3]at h2
    rw[if_neg oO,if_neg oO]
    exact ih h1 h2
def Bgn (A B:List UInt8):Prop:=Uo A B=B.length
instance (A B:List UInt8):Decidable (Bgn A B):=inferInstanceAs (Decidable (_=_))
end Eg
namespace Go.Proofs.YtnicahfnolhgbaaGreatDoor
open Go Go.RowKit Sl Eg
def wF {α:Type}{a b:List α}{x y:α}(h:a++[x]=b++[y]):a=b/\x=y:=by
 have:=yo h rfl;simpa using this
def Ej.fn {L:List Rl}(hw:Wf L){ids ids':List Nat}{bs:List UInt8}(h:Ej L ids bs)(h':Ej L ids' bs):ids=ids':=by
 induction h generalizing ids' with
 |nil=>
  generalize e:([]:List UInt8)=c at h'
  cases h' with
  |nil=>rfl
  |snoc _ _=>simp at e
 |snoc h1 h2 ih=>
  generalize e:(_++[_]:List UInt8)=c at h'
  cases h' with
  |nil=>simp at e
  |snoc g1 g2=>
   obtain⟨rfl,rfl⟩:=wF e
   rw[ih g1,hw.nodup _ _ _ h2 g2]
def EI.fn {L}(hw:Wf L){x t i j}(h:EI L x t i)(h':EI L x t j):i=j:=by
 rcases h with⟨h1,h2⟩|⟨h1,a,rfl,h2⟩<;>rcases h' with⟨g1,g2⟩|⟨g1,b,rfl,g2⟩
 ·rw[h2,g2]
 ·omega
 ·omega
 rw[hw.nodup _ _ _ h2 g2]
def Dx.fn {L:List Rl}(hw:Wf L){rs:List (Nat×Nat)}{out out':List Nat}(h:Dx L rs out)(h':Dx L rs out'):out=out':=by
 induction h generalizing out' with
 |nil=>
  generalize e:([]:List (Nat×Nat))=c at h'
  cases h' with
  |nil=>rfl
  |snoc _ _=>simp at e
 |snoc h1 h2 ih=>
  generalize e:(_++[_]:List (Nat×Nat))=c at h'
  cases h' with
  |nil=>simp at e
  |snoc g1 g2=>
   obtain⟨rfl,e2⟩:=wF e
   cases e2
   rw[ih g1,h2.fn hw g2]
def Er.fn {L:List Rl}(hw:Wf L){ids js out out':List Nat}{a a':Nat}(h:Er L ids js a out)(h':Er L ids js a' out'):a=a'/\out=out':=by
 induction h generalizing a' out' with
 |nil=>
  generalize e:([]:List Nat)=c at h'
  cases h' with
  |nil=>exact⟨rfl,rfl⟩
  |snoc _ _ _ _ _=>simp at e
 |snoc h1 h2 h3 h4 h5 ih=>
  generalize e:(_++[_]:List Nat)=c at h'
  cases h' with
  |nil=>simp at e
  |snoc g1 g2 g3 g4 g5=>
   obtain⟨rfl,rfl⟩:=wF e
   obtain⟨rfl,rfl⟩:=ih g1
   rw[h3]at g3
   rw[h4]at g4
   cases g3
   cases g4
   rw[hw.nodup _ _ _ h5 g5]
   exact⟨O,O⟩
def EQ.pos {L bs lv ids}(h:EQ L bs lv ids):1<=lv:=by
 cases h<;>omega
def EQ.fn {L}(hw:Wf L){bs lv ids ids'}(h:EQ L bs lv ids)(h':EQ L bs lv ids'):ids=ids':=by
 induction h generalizing ids' with
 |start h=>
  generalize e:1=l at h'
  cases h' with
  |start g=>exact h.fn hw g
  |odd g _ _ _=>have:=g.pos;omega
  |even g _ _ _ _=>have:=g.pos;omega
 |odd h h1 h2 h3 ih=>
  generalize e:_+1=l at h'
  cases h' with
  |start g=>have:=h.pos;omega
  |odd g g1 g2 g3=>
   have e1:=oh e
   subst e1
   have e2:=ih g
   subst e2
   exact h3.fn hw g3
  |even g g1 _ _ _=>omega
 |even h h1 h2 h3 h4 ih=>
  generalize e:_+1=l at h'
  cases h' with
  |start g=>have:=h.pos;omega
  |odd g g1 g2 g3=>omega
  |even g g1 g2 g3 g4=>
   have e1:=oh e
   subst e1
   have e2:=ih g
   subst e2
   obtain⟨rfl,rfl⟩:=h4.fn hw g4
   rfl
def EQ.before {L bs lv ids}(h:EQ L bs lv ids):∀k,1<=k->k<lv->∃r,EQ L bs k r/\2<=r.length:=by
 induction h with
 |start h=>intro k h1 h2;omega
 |odd h h1 h2 h3 ih=>
  intro k k1 k2
  rcases fw k _ with e| e
  ·exact ih k k1 e
  obtain rfl:=xm (Nat.le_of_lt_succ k2) e
  exact⟨_,h,h2⟩
 |even h h1 h2 h3 h4 ih=>
  intro k k1 k2
  rcases fw k _ with e| e
  ·exact ih k k1 e
  obtain rfl:=xm (Nat.le_of_lt_succ k2) e
  exact⟨_,h,h2⟩
def EQ.one {L}(hw:Wf L){bs lv lv' x y}(h:EQ L bs lv [x])(h':EQ L bs lv' [y]):x=y:=by
 rcases uz lv lv' with hl|hl|hl
 ·obtain⟨r,hr,h2⟩:=h'.before lv h.pos hl;rw[<-h.fn hw hr]at h2;simp at h2
 ·subst hl;have:=h.fn hw h';simpa using this
 obtain⟨r,hr,h2⟩:=h.before lv' h'.pos hl;rw[<-h'.fn hw hr]at h2;simp at h2
def Sg (L:List Rl)(bs:List UInt8)(id:Nat):Prop:=(bs=[]/\id=0)\/∃lv,EQ L bs lv [id]
def Ej.nil_inv {L ids}(h:Ej L ids []):ids=[]:=by
 generalize e:([]:List UInt8)=c at h;cases h with
 |nil=>rfl
 |snoc _ _=>simp at e
def EQ.nonempty {L bs lv x}(h:EQ L bs lv [x]):bs≠[]:=by
 rintro rfl
 have key:∀{lv:Nat}{ids:List Nat},EQ L [] lv ids->ids=[]/\lv=1:=by
  intro lv ids h;induction h with
  |start h=>exact⟨h.nil_inv,rfl⟩
  |odd h h1 h2 h3 ih=>rw[ih.1]at h2;simp at h2
  |even h h1 h2 h3 h4 ih=>rw[ih.1]at h2;simp at h2
 have:=(key h).1;simp at this
def Sg.fn {L}(hw:Wf L){bs x y}(h:Sg L bs x)(h':Sg L bs y):x=y:=by
 rcases h with⟨h1,h2⟩|⟨lv,h⟩<;>rcases h' with⟨g1,g2⟩|⟨lv',h'⟩
 ·rw[h2,g2]
 ·exact absurd h1 h'.nonempty
 ·exact absurd g1 h.nonempty
 exact h.one hw h'
