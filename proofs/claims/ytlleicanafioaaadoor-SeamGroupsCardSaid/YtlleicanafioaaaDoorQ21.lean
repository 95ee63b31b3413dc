import Derived.Test.YtlleicanafioaaaDoorQ03
import Derived.Deep.DeepMust
import Derived.Deep.RegionLaw
set_option linter.all false
set_option maxHeartbeats 1000000
namespace Go.Proofs.YtlleicanafioaaaDoor
open Go Go.RowKit Eg
set_option maxRecDepth 100000
variable {w w' : World} {s most bm : Nat} {E : List Ent} {lv : Value}

structure Upd (F : Nat → Prop) (w w' : World) : Prop where
 os : w'.os = w.os
 tape : w'.tape = w.tape
 output : w'.output = w.output
 size : w.heap.size ≤ w'.heap.size
 block : ∀ k, k < w.heap.size → ¬ F k → w'.heap[k]? = w.heap[k]?

theorem info152 : (Tryd.prog.info? 81).map (fun i => (i.zero, i.size, i.bytes)) = some (some (.agg #[.int .i64 0, .int .u8 0, .int .i64 0, .int .i64 0, .int .i64 0, .int .i64 0, .int .i64 0, .int .i64 0, .int .i64 0, .int .u64 0, .int .u64 0, .int .i64 0, .bool false]), 13, 104) := by kernel_rfl
theorem under116 : Tryd.prog.underlying 88 = some (.slice 81) := by kernel_rfl

def SFoot (s : Nat) (lv : Value) (bm k : Nat) : Prop := k = s ∨ k = bm ∨ lv.ownBlock = some k

def AddPost (w : World) (s most : Nat) (lv : Value) (bm : Nat) (E' : List Ent) (v : Value) (e : Ending) (w' : World) : Prop :=
 ∃ lv', e = .returned v ∧ StoreAt w' s most E' lv' bm ∧ Upd (SFoot s lv bm) w w' ∧ ∀ k, SFoot s lv' bm k → SFoot s lv bm k ∨ w.heap.size ≤ k

theorem qZj {w1 w2 : World} {A B : Obj} {x : Ent} {g cap : Nat} (h : StoreAt w s most E lv bm) (hok : Wf (rls E ++ [x.r])) (hx : x.t = txt (rls E ++ [x.r]) (E.length + 1)) (hdp : x.deep (E ++ [x]) (E.length + 1)) (hroom : E.length < most)
  (hg : ((w.alloc A).alloc B).drew.grownBy w1 lv.ownBlock) (ho : w1.ownsRow 0 81 13 (.slice (some ⟨g, 0, none⟩) (E.length + 1) cap) (E.length + 1) (qOt E ++ x.cells)) (ha : lv.ownBlock = some g ∨ w.heap.size ≤ g)
  (ht : Blk (w1.setCell ⟨s, 1, none⟩ (.slice (some ⟨g, 0, none⟩) (E.length + 1) cap)) s [.int .i64 most, .slice (some ⟨g, 0, none⟩) (E.length + 1) cap, .map (some bm)] 90)
  (hi2 : w2.heap[bm]? = some (.map (qLw (rls E ++ [x.r])) (rls E ++ [x.r]).length)) (hg2 : (w1.setCell ⟨s, 1, none⟩ (.slice (some ⟨g, 0, none⟩) (E.length + 1) cap)).drew.grownBy w2 (some bm)) (hsb : bm ≠ s) :
  AddPost w s most lv bm (E ++ [x]) (.int .i64 ((E.length + 1 : Nat) : Int)) (.returned (.int .i64 ((E.length + 1 : Nat) : Int))) w2 := by
 have hgs : g ≠ s := by
  rintro rfl
  rcases ho.2 with ⟨h0, _⟩ | ⟨g', cap', cur', h0, _, hg', _⟩
  ·cases h0
  simp only [Value.slice.injEq, Option.some.injEq, Addr.mk.injEq, and_true] at h0
  obtain ⟨⟨rfl⟩, _⟩ := h0
  have h1 := ht
  unfold Blk at h1
  simp [World.setCell, Array.getElem?_modify, hg'] at h1
 have ho1 := ho.kept (qNe w1 ⟨s, 1, none⟩ (.slice (some ⟨g, 0, none⟩) (E.length + 1) cap)) (by right; simp [Value.ownBlock, hgs])
 have hgb : g ≠ bm := by
  rintro rfl
  rcases ho1.2 with ⟨h0, _⟩ | ⟨g', cap', cur', h0, _, hg', _⟩
  ·cases h0
  simp only [Value.slice.injEq, Option.some.injEq, Addr.mk.injEq, and_true] at h0
  obtain ⟨⟨rfl⟩, _⟩ := h0
  have hbm : g < w.heap.size := (Array.getElem?_eq_some_iff.1 h.ids).1
  by_cases hl : lv.ownBlock = some g
  ·rcases h.row.2 with ⟨h0, _⟩ | ⟨g', cap', cur', h0, _, hg'', _⟩
   ·rw [h0] at hl; cases hl
   rw [h0] at hl
   obtain rfl : g' = g := by simpa [Value.ownBlock] using hl
   have := h.ids; rw [hg''] at this; cases this
  rcases ha with ha | ha
  ·exact hl ha
  omega
 have ho2 := (show (w1.setCell ⟨s, 1, none⟩ (.slice (some ⟨g, 0, none⟩) (E.length + 1) cap)).drew.ownsRow 0 81 13 _ _ _ from ho1).kept hg2 (by right; simp [Value.ownBlock, hgb])
 refine ⟨_, rfl, ⟨ht.drew.grown hg2 (by simp [hsb.symm]), ?_, ?_, ?_, ?_, h.most_le, ?_, h.deeps.snoc hdp⟩, ?_, ?_⟩
 ·rw [qTy, List.length_append]; simpa [qOt] using ho2
 ·rw [kJ]; exact hi2
 ·rw [kJ]; exact hok
 ·intro i y hy
  rw [kJ]
  by_cases hlt : i < E.length
  ·rw [List.getElem?_append_left hlt] at hy
   rw [qFa _ (by rw [zT]; omega)]
   exact h.texts i y hy
  have hi' : i < (E ++ [x]).length := (List.getElem?_eq_some_iff.1 hy).1
  obtain rfl : i = E.length := by simp at hi'; omega
  rw [List.getElem?_append_right (Nat.le_refl _)] at hy
  simp at hy
  subst hy
  exact hx
 ·rw [List.length_append]; simp; omega
 ·refine ⟨hg2.os.trans hg.os, hg2.tape.trans hg.tape, hg2.output.trans hg.output, ?_, fun k hk hF => ?_⟩
  ·have h1 := hg.size; have h2 := hg2.size; simp at h1 h2; omega
  have h1 : k ≠ s := fun e => hF (.inl e)
  have h2 : k ≠ bm := fun e => hF (.inr (.inl e))
  have h3 : lv.ownBlock ≠ some k := fun e => hF (.inr (.inr e))
  have hs := hg.size
  simp at hs
  rw [hg2.block k (by simp; omega) (by simp [h2])]
  show (w1.setCell _ _).heap[k]? = _
  rw [Below.heap_setCell _ _ _ _ h1, hg.block k (by simp; omega) (fun e => h3 e.symm)]
  show ((w.alloc _).alloc _).heap[k]? = _
  rw [Below.heap_alloc _ _ _ (by simp; omega), Below.heap_alloc _ _ _ hk]
 rintro k (rfl | rfl | hk)
 ·exact .inl (.inl rfl)
 ·exact .inl (.inr (.inl rfl))
 obtain rfl : g = k := by simpa [Value.ownBlock] using hk
 rcases ha with ha | ha
 ·exact .inl (.inr (.inr ha))
 exact .inr ha

theorem qUl (w : World) (x : Ent) (h : StoreAt w s most E lv bm) (hr : x.r ∉ rls E) (hok : Wf (rls E ++ [x.r])) (hx : x.t = txt (rls E ++ [x.r]) (E.length + 1)) (hdp : x.deep (E ++ [x]) (E.length + 1)) (hroom : E.length < most) :
  Calls Tryd.prog 47 #[.pointer (some ⟨s, 0, none⟩), .agg #[.int .i64 (Rl.kind (x.r) : Nat), .int .u8 (Rl.byte (x.r) : Nat), .int .i64 (Rl.left (x.r) : Nat), .int .i64 (Rl.right (x.r) : Nat), .int .i64 (Rl.times (x.r) : Nat), .int .i64 (List.length (x.t) : Nat), .int .i64 (qAq (x.t) : Nat), .int .i64 (qCd (x.t) : Nat), .int .i64 (qCe (x.t) : Nat), .int .u64 (dval (x.t) : Nat), .int .u64 (qAf (x.t) : Nat), .int .i64 x.d, .bool x.e]] w (AddPost w s most lv bm (E ++ [x]) (.int .i64 ((E.length + 1 : Nat) : Int))) := by
 have hm : most ≤ 1048576 := h.most_le
 obtain ⟨i0, hi, hz0, hz1, hz2⟩ := info_parts info152
 have k1 := h.top.cell 1 rfl
 have b0 := h.top.lt
 have f1 := h.top.frozen 1
 have n0 : ¬ w.heap.size = s := by omega
 have n1 : ¬ w.heap.size + 1 = s := by omega
 have HS := Lib.hid h
 have HR := Lib.hid hr
 have HOK := Lib.hid hok
 have HX := Lib.hid hx
 have HDP := Lib.hid hdp
 have hrow := Lib.hid h.row
 have hne1 : some s ≠ lv.ownBlock := by
  intro e
  rcases h.row.2 with ⟨rfl, _⟩ | ⟨g, cap, cur, rfl, _, hg, _⟩
  ·cases e
  obtain rfl : s = g := by simpa [Value.ownBlock] using e
  have := h.top
  unfold Blk at this
  rw [hg] at this
  simp at this
 have hne2 : some w.heap.size ≠ lv.ownBlock := by
  intro e
  have := (h.row.lt _ e.symm).2
  omega
 clear h hr hok hx hdp
 go_enter Tryd.func47, Tryd.ntmps47
 go_wp2_with fail
 go_region_law
  (first | (refine step_append_lies _ ?_ (.tmp 10) (.tmp 12) 88 ?_ 0 81 i0 _ 13 104 under116 hi hz0 hz1 hz2 (by rfl) (by decide) lv E.length (qOt E) ?_ ?_ ⟨w.heap.size + 1, 0, none⟩ 1 1 x.cells ?_ (by rfl) ?_ ?_ (by decide) ?_ ?_ (Nat.zero_le _) _ rfl ?_; rfl; rfl; go_must (rfl; (exact ((hrow.out.alloc _).alloc _).drew); rfl; (exact World.news_of_block (Blk.new_at (w.alloc _) (b := w.heap.size + 1) (by simp) x.cells 81)); (intro u hu; simp [Ent.cells] at hu; rcases hu with rfl | rfl | rfl | rfl | rfl | rfl | rfl | rfl | rfl | rfl | rfl | rfl | rfl <;> rfl); (unfold maxLen; omega); omega; intro g cap w1 hown1 hgrow hat hlt; have y := hgrow.cell_far ⟨s, 1, none⟩ (by simp; omega) hne1; have fz := hgrow.frozen_far ⟨s, 1, none⟩ (by simp; omega) hne1)))
 all_goals
  have hlt1 : s < w1.heap.size := by have := hgrow.size; simp at this; omega
  have hbm : bm < w.heap.size := (Array.getElem?_eq_some_iff.1 HS.out.ids).1
  have hsb : bm ≠ s := by
   rintro rfl
   have h1 := HS.out.ids; have h2 := HS.out.top
   unfold Blk at h2
   rw [h2] at h1; cases h1
  have hbl : some bm ≠ lv.ownBlock := by
   intro e
   rcases HS.out.row.2 with ⟨h0, _⟩ | ⟨g', cap', cur', h0, _, hg', _⟩
   ·rw [h0] at e; cases e
   rw [h0] at e
   obtain rfl : bm = g' := by simpa [Value.ownBlock] using e
   have h1 := HS.out.ids
   rw [hg'] at h1; cases h1
  have hids1 : (w1.setCell ⟨s, 1, none⟩ (.slice (some ⟨g, 0, none⟩) (E.length + 1) cap)).drew.heap[bm]? = some (.map (qLw (rls E)) (rls E).length) := by
   show (w1.setCell _ _).heap[bm]? = _
   rw [Below.heap_setCell _ _ _ _ hsb, hgrow.block bm (by simp; omega) hbl]
   show ((w.alloc _).alloc _).heap[bm]? = _
   rw [Below.heap_alloc _ _ _ (by simp; omega), Below.heap_alloc _ _ _ hbm]
   exact HS.out.ids
  obtain ⟨w2, hrun, hids2, hg2⟩ := qYt (rls E) x.r _ bm hids1 HR.out
  unfold qLa at hrun
  rw [zT] at hrun
  have t1 : Blk w1 s [.int .i64 most, lv, .map (some bm)] 90 := ((HS.out.top.alloc _).alloc _).drew.grown hgrow hne1
  have t2 : Blk w1 w.heap.size x.cells 81 := ((Blk.new_at w rfl x.cells _).alloc _).drew.grown hgrow hne2
  have t3 := t1.set_same 1 (.slice (some ⟨g, 0, none⟩) (E.length + 1) cap)
  have t4 := t2.set_other (b' := s) (by omega) 1 (.slice (some ⟨g, 0, none⟩) (E.length + 1) cap)
  simp only [Exit.then]
  refine qHe (R := fun wx => Blk wx s [.int .i64 most, .slice (some ⟨g, 0, none⟩) (E.length + 1) cap, .map (some bm)] 90 ∧ Blk wx w.heap.size x.cells 81 ∧ (Instr.mapUpdate 87 (.map (some bm)) (.agg #[.int .i64 (Rl.kind (x.r) : Nat), .int .u8 (Rl.byte (x.r) : Nat), .int .i64 (Rl.left (x.r) : Nat), .int .i64 (Rl.right (x.r) : Nat), .int .i64 (Rl.times (x.r) : Nat)]) (.int .i64 ((E.length : Int) + 1))).run Tryd.prog wx.drew = .ok () w2) _ ⟨t3, t4, hrun⟩ ?_
  rintro wx ⟨u1, u2, hrunx⟩
  have j1 := u1.cell 1 rfl
  have j2 := u1.cell 2 rfl
  have r0 := u2.cell 0 rfl
  have r1 := u2.cell 1 rfl
  have r2 := u2.cell 2 rfl
  have r3 := u2.cell 3 rfl
  have r4 := u2.cell 4 rfl
  have HG := Lib.hid hgrow
  have HG2 := Lib.hid hg2
  have HI2 := Lib.hid hids2
  have HO := Lib.hid hown1
  have HA := Lib.hid hat
  have T3 := Lib.hid t3
  clear t1 t2 t3 t4 hrun hgrow hg2 hids2 hown1 hids1 hat u1 u2 y fz hlt k1 f1 hi hz0 hz1 hz2
  go_wp2_with fail
  go_region
  all_goals go_wp2_with fail
  all_goals go_ret
  all_goals exact qZj HS.out HOK.out HX.out HDP.out hroom HG.out HO.out (HA.out.imp id (fun e => by simp at e; omega)) T3.out HI2.out HG2.out hsb
end Go.Proofs.YtlleicanafioaaaDoor
namespace Eg
theorem Wf.snoc {L : List Rl} {r : Rl} (h : Wf L) (hr : r ∉ L) (hok : r.ok (L.length + 1)) (hlen : len (L ++ [r]) (L.length + 1) ≤ kK) : Wf (L ++ [r]) := by
 have hget : ∀ (i : Nat) (q : Rl), (L ++ [r])[i]? = some q → (i < L.length ∧ L[i]? = some q) ∨ (i = L.length ∧ q = r) := by
  intro i q hq
  by_cases hi : i < L.length
  ·rw [List.getElem?_append_left hi] at hq; exact .inl ⟨hi, hq⟩
  have hi' : i < (L ++ [r]).length := (List.getElem?_eq_some_iff.1 hq).1
  have : i = L.length := by simp at hi'; omega
  subst this
  rw [List.getElem?_append_right (Nat.le_refl _)] at hq
  simp at hq
  exact .inr ⟨rfl, hq.symm⟩
 refine ⟨fun i q hq => ?_, fun i j q hi hj => ?_, fun i => ?_⟩
 ·rcases hget i q hq with ⟨_, h1⟩ | ⟨rfl, rfl⟩
  ·exact h.ok i q h1
  exact hok
 ·rcases hget i q hi with ⟨_, h1⟩ | ⟨rfl, rfl⟩
  ·rcases hget j q hj with ⟨_, h2⟩ | ⟨rfl, rfl⟩
   ·exact h.nodup i j q h1 h2
   exact absurd (List.mem_of_getElem? h1) hr
  rcases hget j q hj with ⟨_, h2⟩ | ⟨rfl, _⟩
  ·exact absurd (List.mem_of_getElem? h2) hr
  rfl
 by_cases hi : i ≤ L.length
 ·rw [qGn _ hi]; exact h.short i
 by_cases hi2 : i = L.length + 1
 ·subst hi2; exact hlen
 rw [len_out (by simp; omega)]; exact Nat.zero_le _
theorem qHk (L : List Rl) (b : UInt8) : txt (L ++ [.letter b]) (L.length + 1) = [b] := qIa (by simp)
theorem qKg (L : List Rl) {l r : Nat} (hl : 1 ≤ l) (hl2 : l ≤ L.length) (hr : 1 ≤ r) (hr2 : r ≤ L.length) : txt (L ++ [.pair l r]) (L.length + 1) = txt L l ++ txt L r := by
 rw [qIb (l := l) (r := r) (by simp) ⟨hl, by omega, hr, by omega⟩, qFa _ hl2, qFa _ hr2]
theorem qIk (L : List Rl) {x k : Nat} (hx : 1 ≤ x) (hx2 : x ≤ L.length) (hk : 2 ≤ k) : txt (L ++ [.power x k]) (L.length + 1) = rep k (txt L x) := by
 rw [qGa (x := x) (k := k) (by simp) ⟨hx, by omega, hk⟩, qFa _ hx2]; rfl
theorem Wf.letterU {L : List Rl} (h : Wf L) {b : UInt8} (hr : Rl.letter b ∉ L) : Wf (L ++ [.letter b]) :=
 h.snoc hr trivial (by rw [len, qHk]; unfold kK; simp)
theorem Wf.letter {L : List Rl} (h : Wf L) {b : UInt8} (hr : Rl.letter b ∉ L) (hroom : L.length < qAw) : Wf (L ++ [.letter b]) := h.letterU hr
theorem Wf.pairU {L : List Rl} (h : Wf L) {l r : Nat} (hr : Rl.pair l r ∉ L) (hl : 1 ≤ l) (hl2 : l ≤ L.length) (hr1 : 1 ≤ r) (hr2 : r ≤ L.length) (hlen : len L l + len L r ≤ kK) : Wf (L ++ [.pair l r]) :=
 h.snoc hr ⟨hl, by omega, hr1, by omega⟩ (by rw [len, qKg L hl hl2 hr1 hr2, List.length_append]; exact hlen)
theorem Wf.pair {L : List Rl} (h : Wf L) {l r : Nat} (hr : Rl.pair l r ∉ L) (hroom : L.length < qAw) (hl : 1 ≤ l) (hl2 : l ≤ L.length) (hr1 : 1 ≤ r) (hr2 : r ≤ L.length) (hlen : len L l + len L r ≤ kK) : Wf (L ++ [.pair l r]) := h.pairU hr hl hl2 hr1 hr2 hlen
theorem Wf.powerU {L : List Rl} (h : Wf L) {x k : Nat} (hr : Rl.power x k ∉ L) (hx : 1 ≤ x) (hx2 : x ≤ L.length) (hk : 2 ≤ k) (hlen : len L x * k ≤ kK) : Wf (L ++ [.power x k]) :=
 h.snoc hr ⟨hx, by omega, hk⟩ (by rw [len, qIk L hx hx2 hk, qBx, Nat.mul_comm]; exact hlen)
theorem Wf.power {L : List Rl} (h : Wf L) {x k : Nat} (hr : Rl.power x k ∉ L) (hroom : L.length < qAw) (hx : 1 ≤ x) (hx2 : x ≤ L.length) (hk : 2 ≤ k) (hlen : len L x * k ≤ kK) : Wf (L ++ [.power x k]) := h.powerU hr hx hx2 hk hlen
end Eg
namespace Go.Proofs.YtlleicanafioaaaDoor
section
open Go Go.RowKit Eg
set_option maxRecDepth 100000
variable {w w' : World} {s most bm : Nat} {E : List Ent} {lv : Value}

def PutPost (w : World) (s most : Nat) (lv : Value) (bm : Nat) (E : List Ent) (r : Rl) (e : Ending) (w' : World) : Prop :=
 ∃ (lv' : Value) (M : List Ent) (id : Nat), e = .returned (.tuple #[.int .i64 id, .nilIface]) ∧ StoreAt w' s most (E ++ M) lv' bm ∧ M.length ≤ 1 ∧ 1 ≤ id ∧ (rls (E ++ M))[id - 1]? = some r ∧
  Upd (SFoot s lv bm) w w' ∧ (∀ k, SFoot s lv' bm k → SFoot s lv bm k ∨ w.heap.size ≤ k) ∧ (M = [] ∨ ∃ x : Ent, M = [x] ∧ x.r = r)

theorem StoreAt.apart (h : StoreAt w s most E lv bm) {b : Nat} {c : List Value} {e : TypeId} (hb : Blk w b c e) (h1 : e ≠ 90) (h2 : e ≠ 81) : ¬ SFoot s lv bm b := by
 unfold Blk at hb
 rintro (rfl | rfl | hk)
 ·have := h.top; unfold Blk at this; rw [hb] at this; simp at this; exact h1 this.2
 ·have := h.ids; rw [hb] at this; cases this
 rcases h.row.2 with ⟨h0, _⟩ | ⟨g, cap, cur, h0, _, hg, _⟩
 ·rw [h0] at hk; cases hk
 rw [h0] at hk
 obtain rfl : g = b := by simpa [Value.ownBlock] using hk
 rw [hb] at hg; simp at hg; exact h2 hg.2
theorem Blk.upd {F : Nat → Prop} {b : Nat} {c : List Value} {e : TypeId} (h : Blk w b c e) (hu : Upd F w w') (hF : ¬ F b) : Blk w' b c e := by
 have hlt := h.lt
 unfold Blk at *
 rw [hu.block b hlt hF]; exact h
theorem Upd.of_below {F : Nat → Prop} {w1 : World} (hb : Below w.heap.size w w1) (hu : Upd F w1 w') : Upd F w w' :=
 ⟨hu.os.trans hb.os, hu.tape.trans hb.tape, hu.output.trans hb.output, Nat.le_trans hb.size hu.size, fun k hk hF => (hu.block k (Nat.lt_of_lt_of_le hk hb.size) hF).trans (hb.block k hk)⟩
theorem Upd.below {F : Nat → Prop} {w1 : World} (hu : Upd F w w1) (hb : Below w.heap.size w1 w') : Upd F w w' :=
 ⟨hb.os.trans hu.os, hb.tape.trans hu.tape, hb.output.trans hu.output, Nat.le_trans hu.size hb.size, fun k hk hF => (hb.block k hk).trans (hu.block k hk hF)⟩
theorem Upd.refl (F : Nat → Prop) (w : World) : Upd F w w := ⟨rfl, rfl, rfl, Nat.le_refl _, fun _ _ _ => rfl⟩

theorem qNu {r : Rl} {w1 : World} (h : StoreAt w s most E lv bm) (hb : Below w.heap.size w w1) (hr : idOf (rls E) r ≠ 0) : PutPost w s most lv bm E r (.returned (.tuple #[.int .i64 (idOf (rls E) r : Nat), .nilIface])) w1 := by
 have hm : r ∈ rls E := Classical.byContradiction fun hn => hr (qEc.2 hn)
 obtain ⟨h1, h2⟩ := zBc hm
 exact ⟨lv, [], idOf (rls E) r, rfl, by rw [List.append_nil]; exact h.below hb, by simp, h1, by rw [List.append_nil]; exact h2, Upd.of_below hb (Upd.refl _ _), fun k hk => .inl hk, .inl rfl⟩
theorem qNt {x : Ent} {w1 w2 : World} {e : Ending} (hb : Below w.heap.size w w1) (h : AddPost w1 s most lv bm (E ++ [x]) (.int .i64 ((E.length + 1 : Nat) : Int)) e w2) :
  ∃ lv', e = .returned (.int .i64 ((E.length + 1 : Nat) : Int)) ∧ StoreAt w2 s most (E ++ [x]) lv' bm ∧ PutPost w s most lv bm E x.r (.returned (.tuple #[.int .i64 ((E.length + 1 : Nat) : Int), .nilIface])) w2 := by
 obtain ⟨lv', rfl, hS, hU, hF⟩ := h
 refine ⟨lv', rfl, hS, lv', [x], E.length + 1, rfl, hS, by simp, by omega, ?_, Upd.of_below hb hU, fun k hk => ?_, .inr ⟨x, rfl, rfl⟩⟩
 ·rw [kJ, Nat.add_sub_cancel, List.getElem?_append_right (by rw [zT]; omega), zT]; simp [rls]
 rcases hF k hk with h1 | h1
 ·exact .inl h1
 exact .inr (Nat.le_trans hb.size h1)

theorem hp_upd {w1 w2 : World} {e : Ending} {E' : List Ent} {v : Value} (h : AddPost w1 s most lv bm E' v e w2) : Upd (SFoot s lv bm) w1 w2 := by
 obtain ⟨_, _, _, hU, _⟩ := h
 exact hU

theorem qUm (w : World) (b : UInt8) (h : StoreAt w s most E lv bm) (hroomW : idOf (rls E) (.letter b) = 0 → E.length < most) :
  Calls Tryd.prog 37 #[.pointer (some ⟨s, 0, none⟩), .int .u8 b.toNat] w (PutPost w s most lv bm E (.letter b)) := by
 have HS := Lib.hid h
 have hb := b.toNat_lt
 have hs := h.top.lt
 have HRF : Hid (idOf (rls E) (.letter b) ≠ 0 ∨ E.length < most) := Lib.hid (by
  by_cases hz0 : idOf (rls E) (.letter b) = 0
  ·exact .inr (hroomW hz0)
  exact .inl hz0)
 have HRW := Lib.hid hroomW
 clear hroomW
 have hfd := fun W (hW : StoreAt W s most E lv bm) => qLf W (.letter b) hW (HRF.out)
 have HFD := Lib.hid hfd
 clear h hfd
 by_cases hz : idOf (rls E) (.letter b) = 0
 ·have HZ := Lib.hid hz
  have hroom := HRW.out hz
  go_enter Tryd.func37, Tryd.ntmps37
  go_wp2_with fail
  refine (HFD.out _ (HS.out.below (by go_grown))).mono ?_
  rintro e w1 ⟨rfl, hb1⟩
  rw [HZ.out]
  have c1 : Blk w1 w.heap.size [.int .i64 1, .int .u8 b.toNat, .int .i64 0, .int .i64 0, .int .i64 0] 72 := (Blk.new_at w rfl _ _).below hb1 (by simp)
  have hw1 : Below w.heap.size w w1 := Below.trans (by go_grown) (hb1.mono (by simp))
  have hS1 := HS.out.below hw1
  have k0 := c1.cell 0 rfl
  have k1 := c1.cell 1 rfl
  have k2 := c1.cell 2 rfl
  have k3 := c1.cell 3 rfl
  have k4 := c1.cell 4 rfl
  have hl1 := c1.lt
  have HS1 := Lib.hid hS1
  have HW1 := Lib.hid hw1
  clear hb1 hS1 hw1 hz
  go_wp2_with fail
  go_region_held3 (fun w' => w'.cell? ⟨w.heap.size, 0, none⟩ = some (.int .i64 1) ∧ w'.cell? ⟨w.heap.size, 1, none⟩ = some (.int .u8 b.toNat) ∧ w'.cell? ⟨w.heap.size, 2, none⟩ = some (.int .i64 0) ∧ w'.cell? ⟨w.heap.size, 3, none⟩ = some (.int .i64 0) ∧ w'.cell? ⟨w.heap.size, 4, none⟩ = some (.int .i64 0)) (first | (go_keep; done) | (exact ⟨c2.cell 0 rfl, c2.cell 1 rfl, c2.cell 2 rfl, c2.cell 3 rfl, c2.cell 4 rfl⟩) | (exact ⟨c3.cell 0 rfl, c3.cell 1 rfl, c3.cell 2 rfl, c3.cell 3 rfl, c3.cell 4 rfl⟩))
   (first
    | (go_at_call 57; go_must (refine (qSc b _).mono ?_; rintro e w2 ⟨rfl, hb2⟩; have c2 := c1.drew.below hb2 hl1; have HW2 := Lib.hid (HW1.out.drew.trans (hb2.mono (Nat.le_of_lt hl1))); have HS2 := Lib.hid (HS.out.below HW2.out)))
    | (go_at_call 47; go_must (refine (qUl _ ⟨.letter b, [b], 0, true⟩ HS2.out (qEc.1 HZ.out) (HS.out.wf.letter (qEc.1 HZ.out) (by rw [zT]; exact Nat.lt_of_lt_of_le hroom HS.out.most_le)) (by rw [← zT]; exact (qHk _ _).symm) (qUv rfl rfl rfl) hroom).mono ?_; intro e w3 hp; obtain ⟨lv', rfl, hS3, hP3⟩ := qNt HW2.out hp; have c3 := c2.upd (hp_upd hp) (HS2.out.apart c2 (by decide) (by decide)))))
  go_wp2_with fail
  go_ret2
  exact hP3
 have hnz : (((idOf (rls E) (.letter b) : Nat) : Int) != 0) = true := by simp [hz]
 have HZ := Lib.hid hz
 clear hz
 go_enter Tryd.func37, Tryd.ntmps37
 go_wp2_with fail
 refine (HFD.out _ (HS.out.below (by go_grown))).mono ?_
 rintro e w1 ⟨rfl, hb1⟩
 have hw1 : Below w.heap.size w w1 := Below.trans (by go_grown) (hb1.mono (by simp))
 have HW1 := Lib.hid hw1
 clear hb1 hw1
 go_wp2_with fail
 go_ret2
 exact qNu HS.out HW1.out HZ.out
end
section
open Go Go.RowKit Eg
set_option maxRecDepth 100000
variable {w w' : World} {s most bm : Nat} {E : List Ent} {lv : Value}

theorem qEz (w : World) (i : Nat) (h : StoreAt w s most E lv bm) (hi : i < E.length) :
  Calls Tryd.prog 31 #[.pointer (some ⟨s, 0, none⟩), .int .i64 ((i + 1 : Nat) : Int)] w fun e w' => e = .returned (.bool true) ∧ w = w' := by
 have hkn := qGs w ((i + 1 : Nat) : Int) h
 have hd : (decide ((0 : Int) ≤ ((i + 1 : Nat) : Int)) && decide (((i + 1 : Nat) : Int) ≤ (E.length : Int))) = true := by simp; omega
 rwa [hd] at hkn

theorem qLr {args : Array Value} (w : World) (x : Ent) (h : StoreAt w s most E lv bm) (hr : x.r ∉ rls E) (hok : Wf (rls E ++ [x.r])) (hx : x.t = txt (rls E ++ [x.r]) (E.length + 1)) (hdp : x.deep (E ++ [x]) (E.length + 1)) (hroom : E.length < most)
  (ha : args = #[.pointer (some ⟨s, 0, none⟩), .agg #[.int .i64 (Rl.kind (x.r) : Nat), .int .u8 (Rl.byte (x.r) : Nat), .int .i64 (Rl.left (x.r) : Nat), .int .i64 (Rl.right (x.r) : Nat), .int .i64 (Rl.times (x.r) : Nat), .int .i64 (List.length (x.t) : Nat), .int .i64 (qAq (x.t) : Nat), .int .i64 (qCd (x.t) : Nat), .int .i64 (qCe (x.t) : Nat), .int .u64 (dval (x.t) : Nat), .int .u64 (qAf (x.t) : Nat), .int .i64 x.d, .bool x.e]]) :
  Calls Tryd.prog 47 args w (AddPost w s most lv bm (E ++ [x]) (.int .i64 ((E.length + 1 : Nat) : Int))) := by
 subst ha
 exact qUl w x h hr hok hx hdp hroom

theorem qZe (w : World) (i j : Nat) (xl xr : Ent) (h : StoreAt w s most E lv bm) (hi : E[i]? = some xl) (hj : E[j]? = some xr) (hlen : xl.t.length + xr.t.length ≤ kK) (hroomW : idOf (rls E) (.pair (i + 1) (j + 1)) = 0 → E.length < most) :
  Calls Tryd.prog 42 #[.pointer (some ⟨s, 0, none⟩), .int .i64 ((i + 1 : Nat) : Int), .int .i64 ((j + 1 : Nat) : Int)] w (PutPost w s most lv bm E (.pair (i + 1) (j + 1))) := by
 have hil : i < E.length := (List.getElem?_eq_some_iff.1 hi).1
 have hjl : j < E.length := (List.getElem?_eq_some_iff.1 hj).1
 have hl20 : E.length ≤ 1048576 := Nat.le_trans h.fits h.most_le
 have HS := Lib.hid h
 have HI := Lib.hid hi
 have HJ := Lib.hid hj
 have hbd : 0 ≤ xl.d ∧ xl.d ≤ 1048576 ∧ 0 ≤ xr.d ∧ xr.d ≤ 1048576 := by
  have a := (h.deeps i xl hi).1
  have b := (h.deeps j xr hj).1
  have c := dep_le h.wf (i + 1) (by rw [zT]; omega)
  have d := dep_le h.wf (j + 1) (by rw [zT]; omega)
  omega
 have HBD := Lib.hid hbd
 clear hbd
 have HLEN := Lib.hid hlen
 have hs := h.top.lt
 have HRF : Hid (idOf (rls E) (.pair (i + 1) (j + 1)) ≠ 0 ∨ E.length < most) := Lib.hid (by
  by_cases hz0 : idOf (rls E) (.pair (i + 1) (j + 1)) = 0
  ·exact .inr (hroomW hz0)
  exact .inl hz0)
 have HRW := Lib.hid hroomW
 clear hroomW
 have hfd := fun W (hW : StoreAt W s most E lv bm) => qLf W (.pair (i + 1) (j + 1)) hW (HRF.out)
 have HFD := Lib.hid hfd
 have z1 : (((i + 1 : Nat) : Int) == 0) = false := by simp; omega
 have z2 : (((j + 1 : Nat) : Int) == 0) = false := by simp; omega
 clear h hfd hi hj hlen
 go_enter Tryd.func42, Tryd.ntmps42
 go_wp2_with fail
 refine (qEz _ i HS.out hil).mono ?_
 rintro e w' ⟨rfl, rfl⟩
 go_wp2_with fail
 refine (qEz _ j HS.out hjl).mono ?_
 rintro e w' ⟨rfl, rfl⟩
 go_wp2_with fail
 refine (qMi _ i xl HS.out HI.out).mono ?_
 rintro e w1 ⟨rfl, hb1⟩
 have HS1 := Lib.hid (HS.out.below hb1)
 have HW1 := Lib.hid hb1
 clear hb1
 go_wp2_with fail
 refine (qMi _ j xr HS1.out HJ.out).mono ?_
 rintro e w2 ⟨rfl, hb2⟩
 have HS2 := Lib.hid (HS1.out.below hb2)
 have HW2 := Lib.hid (HW1.out.trans (hb2.mono HW1.out.size))
 clear hb2
 go_wp2_with fail
 refine (qKr _ _ _ HLEN.out).mono ?_
 rintro e w' ⟨rfl, rfl⟩
 go_wp2_with fail
 refine (HFD.out _ (HS2.out.below (by go_grown))).mono ?_
 rintro e w3 ⟨rfl, hb3⟩
 have c1 : Blk w3 w2.heap.size xl.cells 81 := (((Blk.new_at w2 rfl xl.cells _).alloc _).alloc _).below hb3 (by simp <;> omega)
 have c2 : Blk w3 (w2.heap.size + 1) xr.cells 81 := ((Blk.new_at _ (by simp) xr.cells _).alloc _).below hb3 (by simp <;> omega)
 have c3 : Blk w3 (w2.heap.size + 1 + 1) [.int .i64 2, .int .u8 0, .int .i64 ((i + 1 : Nat) : Int), .int .i64 ((j + 1 : Nat) : Int), .int .i64 0] 72 := (Blk.new_at _ (by simp) _ _).below hb3 (by simp)
 have HW3 := Lib.hid (HW2.out.trans (Below.mono (Below.trans (b := ((w2.alloc (.cells xl.cells.toArray 81)).alloc (.cells xr.cells.toArray 81)).alloc (.cells #[.int .i64 2, .int .u8 0, .int .i64 ((i + 1 : Nat) : Int), .int .i64 ((j + 1 : Nat) : Int), .int .i64 0] 72)) (by go_grown) (hb3.mono (by simp; omega))) HW2.out.size))
 have HS3 := Lib.hid (HS.out.below HW3.out)
 have hw2l : w.heap.size ≤ w2.heap.size := HW2.out.size
 clear hb3
 by_cases hz : idOf (rls E) (.pair (i + 1) (j + 1)) = 0
 ·have HZ := Lib.hid hz
  have hroom := HRW.out hz
  rw [HZ.out]
  clear hz
  have k5 := c1.cell 5 rfl
  have k6 := c1.cell 6 rfl
  have k7 := c1.cell 7 rfl
  have k8 := c1.cell 8 rfl
  have k9 := c1.cell 9 rfl
  have k10 := c1.cell 10 rfl
  have m5 := c2.cell 5 rfl
  have m6 := c2.cell 6 rfl
  have m7 := c2.cell 7 rfl
  have m8 := c2.cell 8 rfl
  have m9 := c2.cell 9 rfl
  have m10 := c2.cell 10 rfl
  go_wp2_with fail
  refine (qOl _ _ _ HLEN.out).mono ?_
  rintro e w4 ⟨rfl, hb4⟩
  have d1 := c1.below hb4 c1.lt
  have d2 := c2.below hb4 c2.lt
  have d3 := c3.below hb4 c3.lt
  have HW4 := Lib.hid (HW3.out.trans (hb4.mono HW3.out.size))
  have HS4 := Lib.hid (HS3.out.below hb4)
  clear hb4 k5 k6 k7 k8 k9 k10 m5 m6 m7 m8 m9 m10 c1 c2 c3
  have k11 := d1.cell 11 rfl
  have k12 := d1.cell 12 rfl
  have m11 := d2.cell 11 rfl
  have m12 := d2.cell 12 rfl
  have r0 := d3.cell 0 rfl
  have r1 := d3.cell 1 rfl
  have r2 := d3.cell 2 rfl
  have r3 := d3.cell 3 rfl
  have r4 := d3.cell 4 rfl
  have hl4 := d3.lt
  have hl5 := d1.lt
  have hl6 := d2.lt
  have hti := HS.out.texts i xl HI.out
  have htj := HS.out.texts j xr HJ.out
  have hwf : Wf (rls E ++ [.pair (i + 1) (j + 1)]) := HS.out.wf.pair (qEc.1 HZ.out) (by rw [zT]; exact Nat.lt_of_lt_of_le hroom HS.out.most_le) (by omega) (by rw [zT]; omega) (by omega) (by rw [zT]; omega) (by unfold len; rw [← hti, ← htj]; exact HLEN.out)
  have htx : xl.t ++ xr.t = txt (rls E ++ [.pair (i + 1) (j + 1)]) (E.length + 1) := by
   rw [hti, htj, ← zT, qKg _ (by omega) (by rw [zT]; omega) (by omega) (by rw [zT]; omega)]
  have HWF := Lib.hid hwf
  have HTX := Lib.hid htx
  clear hti htj hwf htx
  go_wp2_with fail
  all_goals
   refine (qLr _ ⟨.pair (i + 1) (j + 1), xl.t ++ xr.t, _, _⟩ (HS4.out.below (by go_grown)) (qEc.1 HZ.out) HWF.out HTX.out ?_ hroom (by simp only [List.length_append, Int.natCast_add]; rfl)).mono ?_
   ·refine zAp HS.out.deeps rfl HI.out HJ.out ?_ ?_
    ·have HB := HBD.out
     show wrap64 (1 + _) = 1 + max xl.d xr.d
     rw [qHm _ (by omega)]
     omega
    have HB := HBD.out
    first
    | (rw [show xl.e = false from Bool.eq_false_iff.2 (by assumption)]; rfl)
    | (rw [show xr.e = false from Bool.eq_false_iff.2 (by assumption), Bool.and_false]; rfl)
    | (have hw : wrap64 (xl.d - xr.d) < -1 := by assumption
       rw [qHm _ (by omega)] at hw
       rw [decide_eq_false (show ¬ xr.d ≤ xl.d + 1 by omega), Bool.and_false, Bool.and_false])
    | (have h1 : xl.e = true := by assumption
       have h2 : xr.e = true := by assumption
       have hw : -1 ≤ wrap64 (xl.d - xr.d) := by assumption
       rw [qHm _ (by omega)] at hw
       show decide (wrap64 (xl.d - xr.d) ≤ 1) = _
       rw [qHm _ (by omega), h1, h2, decide_eq_true (show xr.d ≤ xl.d + 1 by omega)]
       simp only [Bool.true_and, Bool.and_true]
       exact decide_eq_decide.2 (by omega))
   intro e w5 hp
   obtain ⟨lv', rfl, hS5, hP5⟩ := qNt (HW4.out.trans (Below.alloc (Below.refl _ _) HW4.out.size _)) hp
   have HP5 := Lib.hid hP5
   clear hp hS5 hP5
   go_wp2_with fail
   go_ret2
   exact HP5.out
 have hnz : (((idOf (rls E) (.pair (i + 1) (j + 1)) : Nat) : Int) != 0) = true := by simp [hz]
 have HZ := Lib.hid hz
 clear hz
 go_wp2_with fail
 go_ret2
 exact qNu HS.out HW3.out HZ.out
end
section
open Go Go.RowKit Eg
set_option maxRecDepth 100000
variable {w w' : World} {s most bm : Nat} {E : List Ent} {lv : Value}

theorem qOh (w : World) (i k : Nat) (xl : Ent) (h : StoreAt w s most E lv bm) (hi : E[i]? = some xl) (hk : 2 ≤ k) (hlen : xl.t.length * k ≤ kK) (hroomW : idOf (rls E) (.power (i + 1) k) = 0 → E.length < most) :
  Calls Tryd.prog 25 #[.pointer (some ⟨s, 0, none⟩), .int .i64 ((i + 1 : Nat) : Int), .int .i64 k] w (PutPost w s most lv bm E (.power (i + 1) k)) := by
 have hil : i < E.length := (List.getElem?_eq_some_iff.1 hi).1
 have hl20 : E.length ≤ 1048576 := Nat.le_trans h.fits h.most_le
 have hti := h.texts i xl hi
 have hbd : 0 ≤ xl.d ∧ xl.d ≤ 1048576 := by
  have a := (h.deeps i xl hi).1
  have c := dep_le h.wf (i + 1) (by rw [zT]; exact (List.getElem?_eq_some_iff.1 hi).1)
  have d := Nat.le_trans h.fits h.most_le
  have e : qAw = 1048576 := rfl
  have f := (List.getElem?_eq_some_iff.1 hi).1
  omega
 have HBD := Lib.hid hbd
 have HID := Lib.hid hi
 clear hbd
 have hpos : 1 ≤ xl.t.length := by rw [hti]; exact h.wf.pos (i + 1) (by omega) (by rw [zT]; omega)
 have hkm : k ≤ kK := Nat.le_trans (Nat.le_mul_of_pos_left k hpos) hlen
 have hle : xl.t.length ≤ kK := Nat.le_trans (Nat.le_mul_of_pos_right _ (by omega)) hlen
 have HTI := Lib.hid hti
 have HPOS := Lib.hid hpos
 have HLE := Lib.hid hle
 have HS := Lib.hid h
 have HI := Lib.hid hi
 have HLEN := Lib.hid hlen
 have hs := h.top.lt
 have HRF : Hid (idOf (rls E) (.power (i + 1) k) ≠ 0 ∨ E.length < most) := Lib.hid (by
  by_cases hz0 : idOf (rls E) (.power (i + 1) k) = 0
  ·exact .inr (hroomW hz0)
  exact .inl hz0)
 have HRW := Lib.hid hroomW
 clear hroomW
 have hfd := fun W (hW : StoreAt W s most E lv bm) => qLf W (.power (i + 1) k) hW (HRF.out)
 have HFD := Lib.hid hfd
 have z1 : (((i + 1 : Nat) : Int) == 0) = false := by simp; omega
 have z2 : ((k : Int) == 0) = false := by simp; omega
 have z3 : ((k : Int) == 1) = false := by simp; omega
 have z4 : decide ((k : Int) < 0) = false := by simp
 clear h hfd hi hlen hti hpos hkm hle
 go_enter Tryd.func25, Tryd.ntmps25
 go_wp2_with fail
 refine (qEz _ i HS.out hil).mono ?_
 rintro e w' ⟨rfl, rfl⟩
 go_wp2_with fail
 refine (qMi _ i xl HS.out HI.out).mono ?_
 rintro e w2 ⟨rfl, hb1⟩
 have HS2 := Lib.hid (HS.out.below hb1)
 have HW2 := Lib.hid hb1
 clear hb1
 go_wp2_with fail
 refine (qPm _ k _ HLE.out HPOS.out HLEN.out).mono ?_
 rintro e w' ⟨rfl, rfl⟩
 go_wp2_with fail
 refine (HFD.out _ (HS2.out.below (by go_grown))).mono ?_
 rintro e w3 ⟨rfl, hb3⟩
 have c1 : Blk w3 w2.heap.size xl.cells 81 := ((Blk.new_at w2 rfl xl.cells _).alloc _).below hb3 (by simp <;> omega)
 have c3 : Blk w3 (w2.heap.size + 1) [.int .i64 3, .int .u8 0, .int .i64 ((i + 1 : Nat) : Int), .int .i64 0, .int .i64 k] 72 := (Blk.new_at _ (by simp) _ _).below hb3 (by simp)
 have HW3 := Lib.hid (HW2.out.trans (Below.mono (Below.trans (b := (w2.alloc (.cells xl.cells.toArray 81)).alloc (.cells #[.int .i64 3, .int .u8 0, .int .i64 ((i + 1 : Nat) : Int), .int .i64 0, .int .i64 k] 72)) (by go_grown) (hb3.mono (by simp; omega))) HW2.out.size))
 have HS3 := Lib.hid (HS.out.below HW3.out)
 have hw2l : w.heap.size ≤ w2.heap.size := HW2.out.size
 clear hb3
 by_cases hz : idOf (rls E) (.power (i + 1) k) = 0
 ·have HZ := Lib.hid hz
  have hroom := HRW.out hz
  rw [HZ.out]
  clear hz
  have k5 := c1.cell 5 rfl
  have k6 := c1.cell 6 rfl
  have k7 := c1.cell 7 rfl
  have k8 := c1.cell 8 rfl
  have k9 := c1.cell 9 rfl
  have k10 := c1.cell 10 rfl
  go_wp2_with fail
  refine (qSd _ k _ HPOS.out (by omega) HLEN.out).mono ?_
  rintro e w4 ⟨rfl, hb4⟩
  have d1 := c1.below hb4 c1.lt
  have d3 := c3.below hb4 c3.lt
  have HW4 := Lib.hid (HW3.out.trans (hb4.mono HW3.out.size))
  have HS4 := Lib.hid (HS3.out.below hb4)
  clear hb4 k5 k6 k7 k8 k9 k10 c1 c3
  have k11 := d1.cell 11 rfl
  have k12 := d1.cell 12 rfl
  have r0 := d3.cell 0 rfl
  have r1 := d3.cell 1 rfl
  have r2 := d3.cell 2 rfl
  have r3 := d3.cell 3 rfl
  have r4 := d3.cell 4 rfl
  have hl4 := d3.lt
  have hl5 := d1.lt
  have hwf : Wf (rls E ++ [.power (i + 1) k]) := HS.out.wf.power (qEc.1 HZ.out) (by rw [zT]; exact Nat.lt_of_lt_of_le hroom HS.out.most_le) (by omega) (by rw [zT]; omega) hk (by unfold len; rw [← HTI.out]; exact HLEN.out)
  have htx : rep k xl.t = txt (rls E ++ [.power (i + 1) k]) (E.length + 1) := by
   rw [HTI.out, ← zT, qIk _ (by omega) (by rw [zT]; omega) hk]
  have HWF := Lib.hid hwf
  have HTX := Lib.hid htx
  clear hwf htx
  go_wp2_with fail
  all_goals
   refine (qLr _ ⟨.power (i + 1) k, rep k xl.t, _, _⟩ (HS4.out.below (by go_grown)) (qEc.1 HZ.out) HWF.out HTX.out ?_ hroom (by rfl)).mono ?_
   ·refine qYm HS.out.deeps rfl hk HID.out ?_ rfl
    have HB := HBD.out
    show wrap64 (1 + _) = 1 + xl.d
    rw [qHm _ (by omega)]
   intro e w5 hp
   obtain ⟨lv', rfl, hS5, hP5⟩ := qNt (HW4.out.trans (Below.alloc (Below.refl _ _) HW4.out.size _)) hp
   have HP5 := Lib.hid hP5
   clear hp hS5 hP5
   go_wp2_with fail
   go_ret2
   exact HP5.out
 have hnz : (((idOf (rls E) (.power (i + 1) k) : Nat) : Int) != 0) = true := by simp [hz]
 have HZ := Lib.hid hz
 clear hz
 go_wp2_with fail
 go_ret2
 exact qNu HS.out HW3.out HZ.out
end
end Go.Proofs.YtlleicanafioaaaDoor
namespace Sl
open Go Go.RowKit Go.Proofs.YtlleicanafioaaaDoor
variable {w0 w w' : World} {H : List HP}
def agree (F : Nat → Prop) (w : World) : HP := fun h => ∀ k, F k → h k = w.heap[k]? ∧ w.heap[k]? ≠ none
theorem Sat.swap {p' : HP} {F F' : Nat → Prop} (s : Sat w0 w (agree F w :: H)) (hu : Upd F w w') (hF' : ∀ k, F' k → F k ∨ w.heap.size ≤ k) (hp' : ∀ h, (∀ k, F' k → h k = w'.heap[k]?) → p' h) : Sat w0 w' (p' :: H) := by
 obtain ⟨h1, h2, d, e, hp, hq⟩ := s.hp
 have hsz := s.size
 have hN : ∀ k, F k → w0.heap.size ≤ k ∧ h2 k = none := by
  intro k hk
  obtain ⟨x, y⟩ := hp k hk
  have hx : h1 k ≠ none := by rw [x]; exact y
  have h2n : h2 k = none := (d k).resolve_left hx
  refine ⟨?_, h2n⟩
  have := congrFun e k
  unfold qDk at this
  split at this
  ·exact absurd (qCu.1 this.symm).1 hx
  omega
 refine ⟨hu.os.trans s.os, hu.tape.trans s.tape, hu.output.trans s.output, Nat.le_trans s.size hu.size, fun k hk => (hu.block k (Nat.lt_of_lt_of_le hk s.size) (fun hF => by have := (hN k hF).1; omega)).trans (s.old k hk), ?_⟩
 refine ⟨fun k => if (h2 k).isSome then none else qDk w0 w' k, h2, ?_, ?_, hp' _ (fun k hk => ?_), hq⟩
 ·intro k
  cases x : h2 k with
  | none => exact .inr rfl
  | some o => exact .inl (by simp [x])
 ·funext k
  cases x : h2 k with
  | none => simp [join, x]
  | some o =>
   simp only [join, x, Option.isSome_some, if_true, Option.none_or]
   have := congrFun e k
   rw [qDr d x] at this
   rw [← this]
   unfold qDk at this ⊢
   split
   ·rfl
   rename_i hk
   rw [if_neg hk] at this
   exact hu.block k (Array.getElem?_eq_some_iff.1 this).1 (fun hF => by rw [(hN k hF).2] at x; cases x)
 have hk2 : h2 k = none ∧ w0.heap.size ≤ k := by
  rcases hF' k hk with h | h
  ·exact ⟨(hN k h).2, (hN k h).1⟩
  refine ⟨?_, by omega⟩
  cases x : h2 k with
  | none => rfl
  | some o =>
   have := congrFun e k
   rw [qDr d x] at this
   unfold qDk at this
   rw [if_neg (by omega)] at this
   have := (Array.getElem?_eq_some_iff.1 this).1
   omega
 simp only [hk2.1]
 unfold qDk
 rw [if_neg (by simp), if_neg (by omega)]
theorem Sat.as {p : HP} (s : Sat w0 w (p :: H)) {φ : (Nat → Prop) → World → Prop} (hp : ∀ h, p h → ∃ F w1, φ F w1 ∧ ∀ k, F k → h k = w1.heap[k]? ∧ w1.heap[k]? ≠ none) (hφ : ∀ F w1, φ F w1 → (∀ k, F k → w.heap[k]? = w1.heap[k]?) → φ F w) : ∃ F, φ F w ∧ Sat w0 w (agree F w :: H) := by
 obtain ⟨h1, h2, d, e, hh, hq⟩ := s.hp
 obtain ⟨F, w1, h3, h4⟩ := hp h1 hh
 have hk : ∀ k, F k → h1 k = w.heap[k]? ∧ w.heap[k]? = w1.heap[k]? := by
  intro k hF
  obtain ⟨x, y⟩ := h4 k hF
  have := congrFun e k
  cases hh1 : h1 k with
  | none => rw [hh1] at x; exact absurd x.symm y
  | some o =>
   rw [qJs hh1] at this
   unfold qDk at this
   split at this
   ·cases this
   exact ⟨this.symm, by rw [this, ← x, hh1]⟩
 exact ⟨F, hφ F w1 h3 (fun k hF => (hk k hF).2), s.os, s.tape, s.output, s.size, s.old, ⟨h1, h2, d, e, fun k hF => ⟨(hk k hF).1, by rw [(hk k hF).2]; exact (h4 k hF).2⟩, hq⟩⟩
end Sl
namespace Go.Proofs.YtlleicanafioaaaDoor
open Go Go.RowKit Sl Eg
variable {E : Env} {w w' : World} {s most bm : Nat} {Es : List Ent} {lv : Value}
theorem StoreAt.here (h : StoreAt w s most Es lv bm) : ∀ k, SFoot s lv bm k → w.heap[k]? ≠ none := by
 rintro k (rfl | rfl | hk)
 ·have := h.top; unfold Blk at this; rw [this]; simp
 ·rw [h.ids]; simp
 have := (h.row.lt k hk).2
 intro hn
 rw [Array.getElem?_eq_none_iff] at hn
 omega
theorem StoreAt.move (h : StoreAt w s most Es lv bm) (hk : ∀ k, SFoot s lv bm k → w'.heap[k]? = w.heap[k]?) : StoreAt w' s most Es lv bm := by
 refine ⟨?_, ⟨h.row.1, ?_⟩, by rw [hk bm (.inr (.inl rfl))]; exact h.ids, h.wf, h.texts, h.most_le, h.fits, h.deeps⟩
 ·have := h.top; unfold Blk at this ⊢; rw [hk s (.inl rfl)]; exact this
 rcases h.row.2 with h0 | ⟨g, cap, cur, h0, hb, hg, r⟩
 ·exact .inl h0
 exact .inr ⟨g, cap, cur, h0, hb, by rw [hk g (.inr (.inr (by rw [h0]; rfl)))]; exact hg, r⟩
def zU (s most : Nat) (Es : List Ent) : HP := fun h => ∃ w lv bm, StoreAt w s most Es lv bm ∧ ∀ k, SFoot s lv bm k → h k = w.heap[k]?
theorem qOf {w0 : World} {H : List HP} (hs : Sat w0 w (zU s most Es :: H)) : ∃ lv bm, StoreAt w s most Es lv bm ∧ Sat w0 w (agree (SFoot s lv bm) w :: H) := by
 obtain ⟨F, ⟨lv, bm, rfl, h⟩, hs'⟩ := hs.as (φ := fun F w => ∃ lv bm, F = SFoot s lv bm ∧ StoreAt w s most Es lv bm) (fun h ⟨w1, lv, bm, h1, h2⟩ => ⟨SFoot s lv bm, w1, ⟨lv, bm, rfl, h1⟩, fun k hk => ⟨h2 k hk, h1.here k hk⟩⟩)
  (fun F w1 ⟨lv, bm, hF, h1⟩ hk => ⟨lv, bm, hF, h1.move (by rw [← hF]; exact hk)⟩)
 exact ⟨lv, bm, h, hs'⟩
theorem qIi {w0 : World} {H : List HP} {Es' : List Ent} {lv' : Value} (hs : Sat w0 w (agree (SFoot s lv bm) w :: H)) (h : StoreAt w' s most Es' lv' bm) (hu : Upd (SFoot s lv bm) w w') (hF : ∀ k, SFoot s lv' bm k → SFoot s lv bm k ∨ w.heap.size ≤ k) : Sat w0 w' (zU s most Es' :: H) :=
 hs.swap hu hF (fun _ hh => ⟨w', lv', bm, h, hh⟩)
theorem qDu {f : FuncId} {args : List Value} {v : Value} (hE : Seat E) (h : ∀ w lv bm, StoreAt w s most Es lv bm → Calls Tryd.prog f ⟨args⟩ w (fun e w' => e = .returned v ∧ Below w.heap.size w w')) :
  Ct E f args [zU s most Es] (fun u Q => u = v ∧ Q = [zU s most Es]) := fun R w hs => by
 obtain ⟨lv, bm, hS, _⟩ := qOf hs
 rw [hE.P]
 exact (h w lv bm hS).mono fun e w' ⟨h1, h2⟩ => ⟨v, _, h1, ⟨rfl, rfl⟩, hs.grow h2⟩
theorem qSy {f : FuncId} {args : List Value} {r : Rl} (hE : Seat E) (h : ∀ w lv bm, StoreAt w s most Es lv bm → Calls Tryd.prog f ⟨args⟩ w (PutPost w s most lv bm Es r)) :
  Ct E f args [zU s most Es] (fun u Q => ∃ (M : List Ent) (id : Nat), u = .tuple #[.int .i64 id, .nilIface] ∧ M.length ≤ 1 ∧ 1 ≤ id ∧ (rls (Es ++ M))[id - 1]? = some r ∧ Q = [zU s most (Es ++ M)]) := fun R w hs => by
 obtain ⟨lv, bm, hS, hs'⟩ := qOf hs
 rw [hE.P]
 exact (h w lv bm hS).mono fun e w' ⟨lv', M, id, h1, h2, h3, h4, h5, h6, h7, _⟩ => ⟨_, _, h1, ⟨M, id, rfl, h3, h4, h5, rfl⟩, qIi hs' h2 h6 h7⟩
def PutX (s most : Nat) (Es : List Ent) (r : Rl) (u : Value) (Q : List HP) : Prop := ∃ (M : List Ent) (id : Nat), u = .tuple #[.int .i64 id, .nilIface] ∧ 1 ≤ id ∧ (rls (Es ++ M))[id - 1]? = some r ∧ (M = [] ∨ ∃ x : Ent, M = [x] ∧ x.r = r) ∧ Q = [zU s most (Es ++ M)]
theorem qGd {f : FuncId} {args : List Value} {r : Rl} (hE : Seat E) (h : ∀ w lv bm, StoreAt w s most Es lv bm → Calls Tryd.prog f ⟨args⟩ w (PutPost w s most lv bm Es r)) : Ct E f args [zU s most Es] (PutX s most Es r) := fun R w hs => by
 obtain ⟨lv, bm, hS, hs'⟩ := qOf hs
 rw [hE.P]
 exact (h w lv bm hS).mono fun e w' ⟨lv', M, id, h1, h2, h3, h4, h5, h6, h7, h8⟩ => ⟨_, _, h1, ⟨M, id, rfl, h4, h5, h8, rfl⟩, qIi hs' h2 h6 h7⟩
theorem qXx {w w' : World} (h : w = w') : Below w.heap.size w w' := by subst h; exact Below.refl _ _

theorem qSu (hE : Seat E) : Ct E 20 [uPt s] [zU s most Es] (fun u Q => u = .int .i64 (Es.length : Nat) ∧ Q = [zU s most Es]) :=
 qDu hE fun w _ _ h => (zCr w h).mono fun _ _ ⟨h1, h2⟩ => ⟨h1, qXx h2⟩
theorem qMr (hE : Seat E) {i : Nat} {x : Ent} (hi : Es[i]? = some x) : Ct E 24 [uPt s, .int .i64 ((i + 1 : Nat) : Int)] [zU s most Es] (fun u Q => u = .tuple #[.agg #[.int .i64 (Rl.kind (x.r) : Nat), .int .u8 (Rl.byte (x.r) : Nat), .int .i64 (Rl.left (x.r) : Nat), .int .i64 (Rl.right (x.r) : Nat), .int .i64 (Rl.times (x.r) : Nat)], .nilIface] ∧ Q = [zU s most Es]) :=
 qDu hE fun w _ _ h => qZf w i x h hi
theorem qSz (hE : Seat E) {i : Nat} {x : Ent} (hi : Es[i]? = some x) : Ct E 13 [uPt s, .int .i64 ((i + 1 : Nat) : Int)] [zU s most Es] (fun u Q => u = .tuple #[.agg #[.int .i64 (List.length (x.t) : Nat), .int .i64 (qAq (x.t) : Nat), .int .i64 (qCd (x.t) : Nat), .int .i64 (qCe (x.t) : Nat), .int .u64 (dval (x.t) : Nat), .int .u64 (qAf (x.t) : Nat)], .nilIface] ∧ Q = [zU s most Es]) :=
 qDu hE fun w _ _ h => qUn w i x h hi
theorem qPb (hE : Seat E) : Ct E 13 [uPt s, .int .i64 0] [zU s most Es] (fun u Q => u = .tuple #[.agg #[.int .i64 0, .int .i64 0, .int .i64 0, .int .i64 0, .int .u64 0, .int .u64 1], .nilIface] ∧ Q = [zU s most Es]) :=
 qDu hE fun w _ _ h => qRu w h
theorem qWm (hE : Seat E) {i k : Nat} {xl : Ent} (hi : Es[i]? = some xl) (hk : 2 ≤ k) (hlen : xl.t.length * k ≤ kK) (hroom : Es.length < most) : Ct E 25 [uPt s, .int .i64 ((i + 1 : Nat) : Int), .int .i64 k] [zU s most Es]
  (fun u Q => ∃ (M : List Ent) (id : Nat), u = .tuple #[.int .i64 id, .nilIface] ∧ M.length ≤ 1 ∧ 1 ≤ id ∧ (rls (Es ++ M))[id - 1]? = some (.power (i + 1) k) ∧ Q = [zU s most (Es ++ M)]) :=
 qSy hE fun w _ _ h => qOh w i k xl h hi hk hlen (fun _ => hroom)
theorem qYg (hE : Seat E) (b : UInt8) (hroom : Es.length < most) : Ct E 37 [uPt s, .int .u8 b.toNat] [zU s most Es] (PutX s most Es (.letter b)) :=
 qGd hE fun w _ _ h => qUm w b h (fun _ => hroom)
theorem qWl (hE : Seat E) {i j : Nat} {xl xr : Ent} (hi : Es[i]? = some xl) (hj : Es[j]? = some xr) (hlen : xl.t.length + xr.t.length ≤ kK) (hroom : Es.length < most) : Ct E 42 [uPt s, .int .i64 ((i + 1 : Nat) : Int), .int .i64 ((j + 1 : Nat) : Int)] [zU s most Es] (PutX s most Es (.pair (i + 1) (j + 1))) :=
 qGd hE fun w _ _ h => qZe w i j xl xr h hi hj hlen (fun _ => hroom)
theorem qSx (hE : Seat E) {i k : Nat} {xl : Ent} (hi : Es[i]? = some xl) (hk : 2 ≤ k) (hlen : xl.t.length * k ≤ kK) (hroom : Es.length < most) : Ct E 25 [uPt s, .int .i64 ((i + 1 : Nat) : Int), .int .i64 k] [zU s most Es] (PutX s most Es (.power (i + 1) k)) :=
 qGd hE fun w _ _ h => qOh w i k xl h hi hk hlen (fun _ => hroom)
theorem qAb {h : PH} (hs : zU s most Es h) : Wf (rls Es) ∧ (∀ (i : Nat) (x : Ent), Es[i]? = some x → x.t = txt (rls Es) (i + 1)) ∧ most ≤ qAw ∧ Es.length ≤ most := by
 obtain ⟨w, lv, bm, h, _⟩ := hs
 exact ⟨h.wf, h.texts, h.most_le, h.fits⟩
end Go.Proofs.YtlleicanafioaaaDoor
