import Derived.Test.YtlleicanafioaaaDoorQ38
set_option linter.all false
set_option maxHeartbeats 1000000
namespace Go.Proofs.YtlleicanafioaaaDoor
open Go Go.RowKit Sl Eg
section
theorem Rch.nil_row {L : List Rl} {bs : List UInt8} {lv : Nat} {R : List Nat} (h : Rch L bs lv R) : bs = [] → R = [] := by
 induction h with
 | start h => intro e; subst e; exact List.length_eq_zero_iff.1 h.length
 | odd _ _ h2 _ ih => intro e; rw [ih e] at h2; simp at h2
 | even _ _ h2 _ _ ih => intro e; rw [ih e] at h2; simp at h2
theorem qWu {L : List Rl} {bs : List UInt8} {j : Nat} (h : InRow L bs j) : bs ≠ [] := fun e => by
 obtain ⟨lv, R, h1, h2, _⟩ := h
 rw [h1.nil_row e] at h2
 simp at h2
theorem QOk.ext {L : List Rl} {qs : List (List UInt8 × Nat)} (h : QOk L qs) (M : List Rl) : QOk (L ++ M) qs := fun q hq => by
 obtain ⟨h1, h2, h3, U, h4⟩ := h q hq
 exact ⟨h1, h2, h3, U, h4.ext M⟩
theorem QOk.up {Es M : List Ent} {qs : List (List UInt8 × Nat)} (h : QOk (rls Es) qs) : QOk (rls (Es ++ M)) qs := by rw [kJ]; exact h.ext _
theorem InRow.up {Es M : List Ent} {bs : List UInt8} {j : Nat} (h : InRow (rls Es) bs j) : InRow (rls (Es ++ M)) bs j := by rw [kJ]; exact h.ext _
structure StW (Es : List Ent) (J B : Nat) : Prop where
 ex : ∃ (Jl : List Nat) (ws : List (List (List UInt8 × Nat))), Jl.length ≤ J ∧ (ws.map sumB).sum ≤ B ∧ (∀ qs ∈ ws, QOk (rls Es) qs ∧ 0 < (catT qs).length ∧ (catT qs).length ≤ kK) ∧ ∀ j, 1 ≤ j → j ≤ Es.length → j ∈ Jl ∨ ∃ qs ∈ ws, InRow (rls Es) (catT qs) j
theorem StW.start {M : List Ent} {n : Nat} (h : M.length ≤ n) : StW M n 0 := ⟨List.range' 1 M.length, [], by rw [List.length_range']; exact h, Nat.le_refl _, fun qs h => by simp at h, fun j h1 h2 => .inl (List.mem_range'.2 ⟨j - 1, by omega, by omega⟩)⟩
theorem StW.mono {Es : List Ent} {J B J' B' : Nat} (h : StW Es J B) (hJ : J ≤ J') (hB : B ≤ B') : StW Es J' B' := by
 obtain ⟨Jl, ws, h1, h2, h3, h4⟩ := h.ex
 exact ⟨Jl, ws, by omega, by omega, h3, h4⟩
theorem StW.some {Es N : List Ent} {J B n : Nat} (h : StW Es J B) (hn : N.length ≤ n) : StW (Es ++ N) (J + n) B := by
 obtain ⟨Jl, ws, h1, h2, h3, h4⟩ := h.ex
 refine ⟨Jl ++ List.range' (Es.length + 1) N.length, ws, by rw [List.length_append, List.length_range']; omega, h2, fun qs hq => ⟨(h3 qs hq).1.up, (h3 qs hq).2⟩, fun j j1 j2 => ?_⟩
 rcases Nat.lt_or_ge Es.length j with h5 | h5
 ·rw [List.length_append] at j2
  exact .inl (List.mem_append_right _ (List.mem_range'.2 ⟨j - (Es.length + 1), by omega, by omega⟩))
 rcases h4 j j1 h5 with h6 | ⟨qs, hq, h6⟩
 ·exact .inl (List.mem_append_left _ h6)
 exact .inr ⟨qs, hq, h6.up⟩
theorem qLg {α : Type} (p : α → Bool) (f : α → Nat) : ∀ l : List α, ((l.filter p).map f).sum ≤ (l.map f).sum
 | [] => Nat.le_refl _
 | a :: l => by
  have := qLg p f l
  rw [List.filter_cons]
  split
  ·simp only [List.map_cons, List.sum_cons]; omega
  simp only [List.map_cons, List.sum_cons]; omega
theorem StW.rows {Es N : List Ent} {J B : Nat} (h : StW Es J B) {W : List (List (List UInt8 × Nat))} (hW : ∀ qs ∈ W, QOk (rls Es) qs ∧ (catT qs).length ≤ kK) (hN : ∀ j, Es.length < j → j ≤ (Es ++ N).length → ∃ qs ∈ W, InRow (rls (Es ++ N)) (catT qs) j) : StW (Es ++ N) J (B + (W.map sumB).sum) := by
 obtain ⟨Jl, ws, h1, h2, h3, h4⟩ := h.ex
 have hs := qLg (fun qs => decide (0 < (catT qs).length)) sumB W
 refine ⟨Jl, ws ++ W.filter (fun qs => decide (0 < (catT qs).length)), h1, by rw [List.map_append, List.sum_append]; omega, fun qs hq => ?_, fun j j1 j2 => ?_⟩
 ·rcases List.mem_append.1 hq with hq | hq
  ·exact ⟨(h3 qs hq).1.up, (h3 qs hq).2⟩
  obtain ⟨g1, g2⟩ := List.mem_filter.1 hq
  exact ⟨(hW qs g1).1.up, of_decide_eq_true g2, (hW qs g1).2⟩
 rcases Nat.lt_or_ge Es.length j with h5 | h5
 ·obtain ⟨qs, hq, h6⟩ := hN j h5 j2
  exact .inr ⟨qs, List.mem_append_right _ (List.mem_filter.2 ⟨hq, decide_eq_true (List.length_pos_iff.2 (qWu h6))⟩), h6⟩
 rcases h4 j j1 h5 with h6 | ⟨qs, hq, h6⟩
 ·exact .inl h6
 exact .inr ⟨qs, List.mem_append_left _ hq, h6.up⟩
theorem StW.count {Es : List Ent} {J B : Nat} (h : StW Es J B) (hw : Wf (rls Es)) : Es.length ≤ J + B := by
 obtain ⟨Jl, ws, h1, h2, h3, h4⟩ := h.ex
 have := qZw hw Jl ws h3 (fun j j1 j2 => h4 j j1 (by rwa [zT] at j2))
 rw [zT] at this
 omega
theorem StW.room {Es : List Ent} {J B most : Nat} (h : StW Es J B) {W : List (List (List UInt8 × Nat))} (hW : ∀ qs ∈ W, QOk (rls Es) qs ∧ (catT qs).length ≤ kK) (hm : J + (B + (W.map sumB).sum) < most) (M : List Ent) (hw : Wf (rls (Es ++ M))) (hj : ∀ j, Es.length < j → j ≤ (Es ++ M).length → ∃ qs ∈ W, InRow (rls (Es ++ M)) (catT qs) j) : (Es ++ M).length < most :=
 Nat.lt_of_le_of_lt ((h.rows hW hj).count hw) hm
theorem StW.rmT {Es : List Ent} {J B most : Nat} {bs : List UInt8} (h : StW Es J B) {qs : List (List UInt8 × Nat)} (hq : QOk (rls Es) qs) (e : bs = catT qs) (hl : bs.length ≤ kK) (hm : J + (B + sumB qs) < most) : RmT Es most bs := fun M hw hj =>
 h.room (W := [qs]) (fun q hq2 => by rw [List.mem_singleton.1 hq2]; exact ⟨hq, by rw [← e]; exact hl⟩) (by simpa using hm) M hw (fun j j1 j2 => ⟨qs, List.mem_singleton.2 rfl, by rw [← e]; exact hj j j1 j2⟩)
theorem StW.afterT {Es M : List Ent} {J B : Nat} {bs : List UInt8} (h : StW Es J B) {qs : List (List UInt8 × Nat)} (hq : QOk (rls Es) qs) (e : bs = catT qs) (hl : bs.length ≤ kK) (hj : ∀ j, Es.length < j → j ≤ (Es ++ M).length → InRow (rls (Es ++ M)) bs j) : StW (Es ++ M) J (B + sumB qs) := by
 have := h.rows (N := M) (W := [qs]) (fun q hq2 => by rw [List.mem_singleton.1 hq2]; exact ⟨hq, by rw [← e]; exact hl⟩) (fun j j1 j2 => ⟨qs, List.mem_singleton.2 rfl, by rw [← e]; exact hj j j1 j2⟩)
 simpa using this
def chL (k : Nat) : Nat → List Nat
 | 0 => []
 | n + 1 => k / 2 ^ n :: 2 * (k / 2 ^ (n + 1)) :: chL k n
def chW (T : List UInt8) (k : Nat) : List (List (List UInt8 × Nat)) := ((chL k 32).filter fun c => decide (1 ≤ c)).map fun c => [(T, c)]
theorem qXs (k n : Nat) : 2 * (k / 2 ^ (n + 1)) ≤ k / 2 ^ n := by rw [Nat.pow_succ, ← Nat.div_div_eq_div_mul]; omega
theorem qZr {k s c : Nat} : ∀ n, s < n → (c = k / 2 ^ s ∨ c = 2 * (k / 2 ^ (s + 1))) → c ∈ chL k n
 | 0, h, _ => by omega
 | n + 1, h, hc => by
  by_cases e : s = n
  ·subst e
   rcases hc with rfl | rfl
   ·simp [chL]
   simp [chL]
  have := qZr n (by omega) hc
  simp [chL, this]
theorem chL_le {k : Nat} : ∀ n, ∀ c ∈ chL k n, c ≤ k
 | 0, c, h => by simp [chL] at h
 | n + 1, c, h => by
  have h1 := Nat.div_le_self k (2 ^ n)
  have h2 := qXs k n
  rcases List.mem_cons.1 h with rfl | h
  ·exact h1
  rcases List.mem_cons.1 h with rfl | h
  ·omega
  exact chL_le n c h
def chB : Nat → Nat
 | 0 => 0
 | n + 1 => 2 * (1935 + 190 * (31 - n)) + chB n
theorem qZs {k : Nat} (hk : k < 2 ^ 32) : ∀ n, n ≤ 32 → ((chL k n).map bet).sum ≤ chB n
 | 0, _ => Nat.le_refl _
 | n + 1, hn => by
  have ih := qZs hk n (by omega)
  have h1 : k / 2 ^ n < 2 ^ (32 - n) := by
   refine Nat.div_lt_of_lt_mul ?_
   rw [← Nat.pow_add, show n + (32 - n) = 32 by omega]
   exact hk
  have h2 : Nat.log2 (k / 2 ^ n) ≤ 31 - n := by
   by_cases h0 : k / 2 ^ n = 0
   ·rw [h0]; simp
   have := (Nat.log2_lt h0).2 h1
   omega
  have h3 := qHz (qXs k n)
  simp only [chL, List.map_cons, List.sum_cons, chB, bet]
  omega
theorem chB_all : chB 32 = 312320 := by decide
theorem qZt {T : List UInt8} {k : Nat} (hk : k ≤ 4294967295) : ((chW T k).map sumB).sum ≤ 312320 := by
 have h1 := qZs (k := k) (by omega) 32 (Nat.le_refl _)
 rw [chB_all] at h1
 have h2 := qLg (fun c => decide (1 ≤ c)) bet (chL k 32)
 have e : (chW T k).map sumB = ((chL k 32).filter fun c => decide (1 ≤ c)).map bet := by
  unfold chW
  rw [List.map_map]
  rfl
 rw [e]
 omega
def Tok (L : List Rl) (T : List UInt8) : Prop := T = [] ∨ (1 ≤ T.length ∧ T.length ≤ 60 ∧ ∃ U, Lts L U T)
theorem Tok.up {Es M : List Ent} {T : List UInt8} (h : Tok (rls Es) T) : Tok (rls (Es ++ M)) T := h.imp id fun ⟨h1, h2, U, h3⟩ => ⟨h1, h2, U, by rw [kJ]; exact h3.ext _⟩
theorem qXr {L : List Rl} (hw : Wf L) {T : List UInt8} {x : Nat} (h : Sn L T x) (hl : T.length ≤ 60) : Tok L T := by
 by_cases h0 : x = 0
 ·subst h0
  exact .inl h.zero
 obtain ⟨h1, h2, h3⟩ := h.parts hw h0
 exact .inr ⟨h3, hl, _, h2⟩
theorem chW_ok {L : List Rl} {T : List UInt8} {k : Nat} (hk : k ≤ 4294967295) (hT : 1 ≤ T.length ∧ T.length ≤ 60 ∧ ∃ U, Lts L U T) : ∀ qs ∈ chW T k, QOk L qs ∧ (catT qs).length ≤ kK := fun qs hq => by
 obtain ⟨c, hc, rfl⟩ := List.mem_map.1 hq
 obtain ⟨h1, h2⟩ := List.mem_filter.1 hc
 have h3 := of_decide_eq_true h2
 have h4 := chL_le 32 c h1
 refine ⟨fun q hq2 => by rw [List.mem_singleton.1 hq2]; exact ⟨hT.1, hT.2.1, h3, hT.2.2⟩, ?_⟩
 have e : catT [(T, c)] = rep c T := List.append_nil _
 have h5 : c * T.length ≤ 4294967295 * 60 := Nat.mul_le_mul (by omega) hT.2.1
 rw [e, qBx]
 unfold kK
 omega
theorem chW_in {L : List Rl} {T : List UInt8} {k j : Nat} (h : Chn k T L j) : ∃ qs ∈ chW T k, InRow L (catT qs) j := by
 obtain ⟨s, c, h1, h2, h3, h4⟩ := h
 refine ⟨[(T, c)], List.mem_map.2 ⟨c, List.mem_filter.2 ⟨qZr 32 h1 h3, decide_eq_true h2⟩, rfl⟩, ?_⟩
 have e : catT [(T, c)] = rep c T := List.append_nil _
 rw [e]
 exact h4
theorem qWf {L : List Rl} {k j : Nat} (h : Chn k [] L j) : False := by
 obtain ⟨s, c, h1, h2, h3, h4⟩ := h
 exact qWu h4 (qVk c)
theorem StW.rmC {Es : List Ent} {J B most k : Nat} {T : List UInt8} (h : StW Es J B) (hT : Tok (rls Es) T) (hk : k ≤ 4294967295) (hm : J + (B + 312320) < most) : RmC Es most k T := fun M hw hj => by
 rcases hT with rfl | hT
 ·exact h.room (W := []) (fun q hq => by simp at hq) (by simp; omega) M hw (fun j j1 j2 => (qWf (hj j j1 j2)).elim)
 have := qZt (T := T) hk
 exact h.room (chW_ok hk hT) (by omega) M hw (fun j j1 j2 => chW_in (hj j j1 j2))
theorem StW.afterC {Es M : List Ent} {J B k : Nat} {T : List UInt8} (h : StW Es J B) (hT : Tok (rls Es) T) (hk : k ≤ 4294967295) (hj : M.length ≤ 1 ∨ ∀ j, Es.length < j → j ≤ (Es ++ M).length → Chn k T (rls (Es ++ M)) j) : StW (Es ++ M) (J + 1) (B + 312320) := by
 rcases hj with hj | hj
 ·exact (h.some hj).mono (Nat.le_refl _) (by omega)
 rcases hT with rfl | hT
 ·exact (h.rows (W := []) (fun q hq => by simp at hq) (fun j j1 j2 => (qWf (hj j j1 j2)).elim)).mono (by omega) (by simp)
 have := qZt (T := T) hk
 exact (h.rows (chW_ok hk hT) (fun j j1 j2 => chW_in (hj j j1 j2))).mono (by omega) (by omega)
def ptT (T : List UInt8) (k : Nat) : List (List UInt8 × Nat) := if T = [] ∨ k = 0 then [] else [(T, k)]
theorem qEh (T : List UInt8) (k : Nat) : catT (ptT T k) = rep k T := by
 unfold ptT
 split
 ·rename_i h
  rcases h with rfl | rfl
  ·rw [qVk]; rfl
  rfl
 exact List.append_nil _
theorem qEo : ∀ a b : List (List UInt8 × Nat), catT (a ++ b) = catT a ++ catT b
 | [], b => rfl
 | q :: a, b => by
  show _ ++ catT (a ++ b) = _ ++ catT a ++ catT b
  rw [qEo a b, List.append_assoc]
theorem qGt : ∀ a b : List (List UInt8 × Nat), sumB (a ++ b) = sumB a + sumB b
 | [], b => by simp [sumB]
 | q :: a, b => by
  show _ + sumB (a ++ b) = _ + sumB a + sumB b
  rw [qGt a b]
  omega
theorem qKc {T : List UInt8} {k : Nat} (hk : k ≤ 4294967295) : sumB (ptT T k) ≤ 7825 := by
 unfold ptT
 split
 ·exact Nat.zero_le _
 rename_i h
 have h1 : Nat.log2 k < 32 := (Nat.log2_lt (fun e => h (.inr e))).2 (by omega)
 show bet k + 0 ≤ 7825
 unfold bet
 omega
theorem qNv {L : List Rl} {T : List UInt8} {k : Nat} (h : Tok L T) : QOk L (ptT T k) := fun q hq => by
 unfold ptT at hq
 split at hq
 ·simp at hq
 rename_i h2
 rw [List.mem_singleton.1 hq]
 rcases h with rfl | ⟨h3, h4, h5⟩
 ·exact absurd (.inl rfl) h2
 exact ⟨h3, h4, by show 1 ≤ k; omega, h5⟩
theorem qKv {L : List Rl} {a b : List (List UInt8 × Nat)} (ha : QOk L a) (hb : QOk L b) : QOk L (a ++ b) := fun q hq => by
 rcases List.mem_append.1 hq with h | h
 ·exact ha q h
 exact hb q h
end
section
set_option maxRecDepth 10000
variable {E : Env}
theorem qQe (hE : Seat E) {a : List UInt8} {m : Nat} :
  Ct E 6 [.string ⟨⟨a⟩⟩, .int .i64 (m : Nat)] [] (fun v Q => v = .string ⟨⟨a.take m⟩⟩ ∧ Q = []) := by
 have sa := size_mk a
 have hmin : (if ((m : Nat) : Int) < (((⟨⟨a⟩⟩ : ByteArray).size : Nat) : Int) then ((m : Nat) : Int) else (((⟨⟨a⟩⟩ : ByteArray).size : Nat) : Int)) = ((min m a.length : Nat) : Int) := by rw [sa]; split <;> omega
 have hmm : min m a.length ≤ (⟨⟨a⟩⟩ : ByteArray).size := by rw [sa]; omega
 refine zR (hE.fn Tryd.func6) rfl rfl rfl (fun R => ?_)
 simp only [qAo, uV, uW]
 refine qN (qL (uA rfl (qO (qM (qN (qL (uM rfl (uM rfl (uB (zDh rfl (hE.t rfl)) ?_)))))))))
 refine uM rfl (uB (y_min rfl rfl) ?_)
 refine uB (qVz (h := min m a.length) rfl (hE.t rfl) rfl ⟨.i64, congrArg (fun v => some (Value.int IntKind.i64 v)) hmin⟩ (Nat.zero_le _) hmm) ?_
 refine uA rfl (qO (qM (kE ?_)))
 rw [qYn a 0 _ (Nat.min_le_right _ _), List.drop_zero, List.take_eq_take_min.symm]
 exact uZ rfl (.tmp rfl .nil) ⟨rfl, rfl⟩
theorem Sn.up {Es M : List Ent} {bs : List UInt8} {x : Nat} (h : Sn (rls Es) bs x) : Sn (rls (Es ++ M)) bs x := by rw [kJ]; exact h.ext _
theorem Sn.fn {L : List Rl} (hw : Wf L) {bs : List UInt8} {x y : Nat} (h : Sn L bs x) (h' : Sn L bs y) : x = y := h.sg.fn hw h'.sg
theorem Sn.empty (L : List Rl) : Sn L [] 0 := ⟨.inl ⟨rfl, rfl⟩, rfl, Nat.zero_le _, by show (0 : Int) ≤ 0; omega⟩
theorem qUs (hE : Seat E) (hB : Base E.w0) : Ct E 5 [] [] (fun v Q => ∃ pp s tb M, v = .tuple #[uPt pp, .bool true] ∧ M.length ≤ 26 ∧ Q = [cells pp [uPt s, uPt tb] 57, tabP tb s (rls M), zU s 1048576 M]) := by
 refine zR (hE.fn Tryd.func5) rfl rfl rfl (fun R => ?_)
 simp only [qAo, uV, uW]
 refine qN (qL (uA rfl (uA rfl (qO (qM (qN (qL (uX (zAf (most := 1048576) hE (Nat.le_refl _)) rfl ?_))))))))
 rintro _ _ ⟨s, rfl, rfl⟩
 simp only [uV, uW]
 refine uX (zAj hE) rfl ?_
 rintro _ _ ⟨pp, tb, rfl, rfl⟩
 simp only [uV, uW]
 refine uA rfl (qO (qM (qN (qN (qL (uM rfl ?_))))))
 apply qD
 ·(first | exact qBa rfl (hE.t rfl) | exact qDy rfl (hE.t rfl))
 ·rfl
 refine qO (qM (zG rfl (zF (qM (qN (qL (uM rfl (uU ?_))))))))
 refine qY (hE.t rfl) (hE.t rfl) rfl rfl rfl (fun b17 => ?_)
 refine uU ?_
 refine zBj rfl (hE.t rfl) (hE.t rfl) uK ?_
 have n1 : ([97, 98] : List UInt8).length ≤ 65536 := by decide
 have r1 : ([] : List Ent).length + 2 * ([97, 98] : List UInt8).length ≤ 1048576 := by decide
 refine uX (qZz (bs := [97, 98]) hE hB n1 r1) rfl ?_
 rintro _ _ ⟨M1, x, rfl, hM1, tx1, gx, sx, rfl⟩
 simp only [uV, uW]
 have hx : Sn (rls ([] ++ M1)) [97, 98] x := ⟨sx, tx1, gx⟩
 refine uM rfl (uB (qX rfl rfl) (uB (qX rfl rfl) (uA rfl (uA rfl (qO (qM (qN (qL (uM rfl (uU ?_))))))))))
 refine qY (hE.t rfl) (hE.t rfl) rfl rfl rfl (fun b24 => ?_)
 refine uU ?_
 refine zBj rfl (hE.t rfl) (hE.t rfl) uK ?_
 have n2 : ([97, 98, 97, 98] : List UInt8).length ≤ 65536 := by decide
 have r2 : ([] ++ M1 : List Ent).length + 2 * ([97, 98, 97, 98] : List UInt8).length ≤ 1048576 := by simp at hM1 ⊢; omega
 refine uX (qZz (bs := [97, 98, 97, 98]) hE hB n2 r2) rfl ?_
 rintro _ _ ⟨M2, y, rfl, hM2, ty1, gy, sy, rfl⟩
 simp only [uV, uW]
 have hy : Sn (rls ([] ++ M1 ++ M2)) [97, 98, 97, 98] y := ⟨sy, ty1, gy⟩
 refine qId (p := zU s 1048576 ([] ++ M1 ++ M2)) uK (fun _ h => (qAb h).1) ?_
 intro hwp
 have hT : Tok (rls ([] ++ M1 ++ M2)) [97, 98] := qXr hwp (hx.up (M := M2)) (by decide)
 refine uM rfl (uB (qX rfl rfl) (uB (qX rfl rfl) (uA rfl (uA rfl (qO (qM (qN (qL (uM rfl (uM rfl (uM rfl ?_)))))))))))
 have n3 : ([97, 98] : List UInt8).length + ([97, 98] : List UInt8).length ≤ 800000000000 := by decide
 have r3 : RmT ([] ++ M1 ++ M2) 1048576 ([97, 98] ++ [97, 98]) := (StW.start (M := [] ++ M1 ++ M2) (n := 24) (by simp at hM1 hM2 ⊢; omega)).rmT (qs := ptT [97, 98] 2) (qNv hT) (by rw [qEh]; rfl) (by decide) (by have := qKc (T := [97, 98]) (k := 2) (by omega); omega)
 refine uX (qKm hE hB (hx.up (M := M2)) (hx.up (M := M2)) n3 r3) rfl ?_
 rintro _ _ ⟨M3, z, rfl, hM3, hz, -, -, rfl⟩
 simp only [uV, uW]
 refine uM rfl (uB (qX rfl rfl) (uB (qX rfl rfl) (uA rfl (uA rfl (qO (qM (qN (qL (uM rfl (uM rfl ?_))))))))))
 have n4 : ([] : List UInt8).length + ([97, 98] : List UInt8).length ≤ 800000000000 := by decide
 have r4 : RmT ([] ++ M1 ++ M2 ++ M3) 1048576 ([] ++ [97, 98]) := (StW.start (M := [] ++ M1 ++ M2 ++ M3) (n := 28) (by simp at hM1 hM2 hM3 ⊢; omega)).rmT (qs := ptT [97, 98] 1) (qNv hT.up) (by rw [qEh]; rfl) (by decide) (by have := qKc (T := [97, 98]) (k := 1) (by omega); omega)
 refine uX (qKm (a := 0) hE hB (Sn.empty _) ((hx.up (M := M2)).up (M := M3)) n4 r4) rfl ?_
 rintro _ _ ⟨M4, w, rfl, hM4, hw4, -, -, rfl⟩
 simp only [uV, uW]
 refine qId (p := zU s 1048576 ([] ++ M1 ++ M2 ++ M3 ++ M4)) uK (fun _ h => qAb h) ?_
 rintro ⟨hwf, -, -, -⟩
 obtain rfl : y = z := hy.up.up.fn hwf hz.up
 obtain rfl : w = x := hw4.fn hwf (((hx.up (M := M2)).up (M := M3)).up (M := M4))
 refine uM rfl (uB (qX rfl rfl) (uB (qX rfl rfl) (uA rfl (uA rfl (qO (qM (qN (qL (uM rfl (uM rfl ?_))))))))))
 apply qD
 ·(first | exact qFc rfl (hE.t rfl) | exact qDz rfl (hE.t rfl))
 ·rfl
 refine uM rfl (kT rfl rfl (uM rfl (kT rfl rfl ?_)))
 apply qD
 ·(first | exact qFc rfl (hE.t rfl) | exact qDz rfl (hE.t rfl))
 ·rfl
 apply qD
 ·(first | exact zA rfl rfl | exact zB rfl rfl)
 ·rfl
 refine uM rfl (kT rfl rfl (uM rfl (kT rfl rfl ?_)))
 apply qD
 ·(first | exact qFc rfl (hE.t rfl) | exact qDz rfl (hE.t rfl))
 ·rfl
 apply qD
 ·(first | exact zA rfl rfl | exact zB rfl rfl)
 ·rfl
 refine uM rfl (kT rfl rfl (uM rfl (kT rfl rfl ?_)))
 apply qD
 ·(first | exact qFc rfl (hE.t rfl) | exact qDz rfl (hE.t rfl))
 ·rfl
 apply qD
 ·(first | exact zA rfl rfl | exact zB rfl rfl)
 ·rfl
 refine uM rfl (kT rfl rfl (uM rfl (kT rfl rfl (uM rfl (kT rfl rfl (uB (y_eq rfl rfl) ?_))))))
 apply qD
 ·(first | exact zA rfl rfl | exact zB rfl rfl)
 ·rfl
 refine uM rfl ?_
 refine qAn 62 rfl (fun h1 => ?_) (fun h1 => ?_)
 ·refine kT rfl rfl ?_
  refine uM rfl (kT rfl rfl (uM rfl (kT rfl rfl (uB (y_eq rfl rfl) ?_))))
  apply qD
  ·(first | exact zA rfl rfl | exact zB rfl rfl)
  ·rfl
  refine uA rfl (uA rfl (qO (qM (kE ?_))))
  exact uZ rfl (.tmp rfl (.tmp rfl .nil)) ⟨pp, s, tb, [] ++ M1 ++ M2 ++ M3 ++ M4, by simp [one], by simp at hM1 hM2 hM3 hM4 ⊢; omega, rfl⟩
 exact absurd rfl h1
end
section
set_option maxRecDepth 100000
variable {E : Env} {Es : List Ent} {pp tb s most : Nat}
theorem qYc (hE : Seat E) (hB : Base E.w0) {x : Nat} {t : List UInt8} (hx : Sn (rls Es) t x) (hlt : t.length ≤ 400000000) :
  Ct E 9 [uPt pp, .int .i64 (x : Nat), .int .i64 ((0 : Nat) : Int)] [cells pp [uPt s, uPt tb] 57, tabP tb s (rls Es), zU s most Es] (fun v Q => v = .tuple #[.int .i64 0, .nilIface] ∧ Q = [cells pp [uPt s, uPt tb] 57, tabP tb s (rls Es), zU s most Es]) := by
 have hmx : kK = 1152921504606846976 := rfl
 have hx1 := hx.gd.1
 have lx := hx.len
 rw [zT] at hx1
 refine zR (hE.fn Tryd.func9) rfl rfl rfl (fun R => ?_)
 simp only [qAo, uV, uW]
 refine qN (qL (uA rfl (uA rfl (qO (qM (qN (qN (qL (uM rfl (uX (qBb hE) rfl ?_))))))))))
 rintro _ _ ⟨rfl, rfl⟩
 simp only [uV, uW]
 apply qD
 ·(first | exact qBa rfl (hE.t rfl) | exact qDy rfl (hE.t rfl))
 ·rfl
 refine qO (qM (zG rfl (zF (qM (qN (qN (qL (uM rfl (uB (y_lt rfl rfl) ?_)))))))))
 refine uM rfl ?_
 refine qAn 20 rfl (fun h1 => ?_) (fun h1 => ?_)
 ·exfalso; omega
 refine kT rfl rfl (uM rfl (kT rfl rfl (uM rfl (kT rfl rfl (uX (qBb hE) rfl ?_)))))
 rintro _ _ ⟨rfl, rfl⟩
 simp only [uV, uW]
 refine kT rfl rfl (uX (qSu hE) rfl ?_)
 rintro _ _ ⟨rfl, rfl⟩
 simp only [uV, uW]
 refine kT rfl rfl (uB (y_gt rfl rfl) ?_)
 apply qD
 ·(first | exact zA rfl rfl | exact zB rfl rfl)
 ·rfl
 refine qO (qM ?_)
 refine zH rfl (fun h2 => ?_) (fun h2 => ?_)
 ·exfalso; omega
 refine zF (qM (qN (qL (uM rfl (uM rfl (uX (qIm hE hB hx.gd) rfl ?_))))))
 rintro _ _ ⟨rfl, rfl⟩
 simp only [uV, uW]
 refine uM rfl (uB (qX rfl rfl) (uB (qX rfl rfl) (uA rfl (uA rfl (qO (qM (qN (qN (qL (uM rfl ?_))))))))))
 apply qD
 ·(first | exact qAk rfl (hE.t rfl) | exact qCf rfl (hE.t rfl))
 ·rfl
 refine qO (qM (zG rfl (zF (qM (qN (qN (qL (uM rfl (uB (y_lt rfl rfl) ?_)))))))))
 refine qO (qM ?_)
 refine zH rfl (fun h3 => ?_) (fun h3 => ?_)
 ·exfalso; omega
 refine zF (qM (qN (qN (qL (uM rfl (uM rfl (uX (qEi hE hx.gd.1) rfl ?_)))))))
 rintro _ _ ⟨rfl, rfl⟩
 simp only [uV, uW]
 refine uM rfl (uX (zAh hE (by omega) (by omega) (by omega)) rfl ?_)
 rintro _ _ ⟨rfl, rfl⟩
 simp only [uV, uW]
 refine uM rfl (uB (qX rfl rfl) (uB (qX rfl rfl) (uA rfl (uA rfl (qO (qM (qN (qL (uM rfl ?_)))))))))
 apply qD
 ·(first | exact qAk rfl (hE.t rfl) | exact qCf rfl (hE.t rfl))
 ·rfl
 refine qO (qM (zG rfl (zF (qM (qN (qN (qL (uM rfl (uB (y_eq rfl rfl) ?_)))))))))
 refine uM rfl ?_
 refine qAn 53 rfl (fun h4 => ?_) (fun h4 => ?_)
 ·refine zW rfl rfl rfl rfl (zW rfl rfl rfl rfl ?_)
  apply qD
  ·(first | exact zA rfl rfl | exact zB rfl rfl)
  ·rfl
  refine qO (qM (zI rfl (qN (qL (uA rfl (uA rfl (qO (qM (kE (qZ ?_))))))))))
  exact uZ rfl (.tmp rfl (.tmp rfl .nil)) ⟨rfl, rfl⟩
 refine kT rfl rfl (uM rfl (kT rfl rfl (uB (y_eq rfl rfl) ?_)))
 apply qD
 ·(first | exact zA rfl rfl | exact zB rfl rfl)
 ·rfl
 refine qO (qM ?_)
 refine zH rfl (fun h5 => ?_) (fun h5 => ?_)
 ·refine qN (qL ?_)
  refine uA rfl (uA rfl (qO (qM (kE (qZ ?_)))))
  exact uZ rfl (.tmp rfl (.tmp rfl .nil)) ⟨rfl, rfl⟩
 exfalso; omega
theorem qKn (hE : Seat E) (hB : Base E.w0) {x k : Nat} {t : List UInt8} (hx : Sn (rls Es) t x) (hk : k ≤ 4294967295) (hlt : t.length ≤ 60) (hroom : RmC Es most k t) :
  Ct E 9 [uPt pp, .int .i64 (x : Nat), .int .i64 (k : Nat)] [cells pp [uPt s, uPt tb] 57, tabP tb s (rls Es), zU s most Es] (RepPost pp s tb most Es k t) := by
 rcases Nat.eq_zero_or_pos k with rfl | h
 ·refine (qYc hE hB hx (by omega)).mono fun v Q ⟨h1, h2⟩ => ⟨[], 0, h1, .inl (Nat.zero_le _), ?_, ?_⟩
  ·rw [List.append_nil]
   exact Sn.empty _
  rw [List.append_nil]
  exact h2
 have : k * t.length ≤ 4294967295 * 60 := Nat.mul_le_mul hk hlt
 exact zAa hE hB hx h hk (by omega) (by omega) hroom
theorem ct_wjoin (hE : Seat E) {a b : List UInt8} (h : a.length + b.length ≤ kK) : Ct E 14 [.agg #[.int .i64 (List.length (a) : Nat), .int .i64 (qAq (a) : Nat), .int .i64 (qCd (a) : Nat), .int .i64 (qCe (a) : Nat), .int .u64 (dval (a) : Nat), .int .u64 (qAf (a) : Nat)], .agg #[.int .i64 (List.length (b) : Nat), .int .i64 (qAq (b) : Nat), .int .i64 (qCd (b) : Nat), .int .i64 (qCe (b) : Nat), .int .u64 (dval (b) : Nat), .int .u64 (qAf (b) : Nat)]] [] (fun v Q => v = .tuple #[.agg #[.int .i64 (List.length (a ++ b) : Nat), .int .i64 (qAq (a ++ b) : Nat), .int .i64 (qCd (a ++ b) : Nat), .int .i64 (qCe (a ++ b) : Nat), .int .u64 (dval (a ++ b) : Nat), .int .u64 (qAf (a ++ b) : Nat)], .nilIface] ∧ Q = []) := by
 apply ct_below
 intro w
 rw [hE.P]
 exact qOl a b w h
theorem wc_nil : (.agg #[.int .i64 (List.length (([] : List UInt8)) : Nat), .int .i64 (qAq (([] : List UInt8)) : Nat), .int .i64 (qCd (([] : List UInt8)) : Nat), .int .i64 (qCe (([] : List UInt8)) : Nat), .int .u64 (dval (([] : List UInt8)) : Nat), .int .u64 (qAf (([] : List UInt8)) : Nat)] : Value) = .agg #[.int .i64 0, .int .i64 0, .int .i64 0, .int .i64 0, .int .u64 0, .int .u64 1] := by
 rfl
theorem zAc (hE : Seat E) {x : Nat} (hx : x ≤ Es.length) : Ct E 13 [uPt s, .int .i64 (x : Nat)] [zU s most Es] (fun v Q => v = .tuple #[.agg #[.int .i64 (List.length (txt (rls Es) x) : Nat), .int .i64 (qAq (txt (rls Es) x) : Nat), .int .i64 (qCd (txt (rls Es) x) : Nat), .int .i64 (qCe (txt (rls Es) x) : Nat), .int .u64 (dval (txt (rls Es) x) : Nat), .int .u64 (qAf (txt (rls Es) x) : Nat)], .nilIface] ∧ Q = [zU s most Es]) := by
 cases x with
 | zero => rw [txt_zero, wc_nil]; exact qPb hE
 | succ i =>
  refine qAy (p := zU s most Es) uK (fun _ h => qAb h) (fun hsay => ?_)
  have hent : Es[i]? = some (Es[i]'hx) := List.getElem?_eq_getElem hx
  generalize Es[i]'hx = en at hent
  rw [← hsay.2.1 i en hent]
  exact qSz hE hent
theorem qDo (hE : Seat E) {x : Nat} {t : List UInt8} (hx : Sn (rls Es) t x) : Ct E 13 [uPt s, .int .i64 (x : Nat)] [zU s most Es] (fun v Q => v = .tuple #[.agg #[.int .i64 (List.length (t) : Nat), .int .i64 (qAq (t) : Nat), .int .i64 (qCd (t) : Nat), .int .i64 (qCe (t) : Nat), .int .u64 (dval (t) : Nat), .int .u64 (qAf (t) : Nat)], .nilIface] ∧ Q = [zU s most Es]) := by
 have h1 := hx.gd.1
 rw [zT] at h1
 have := zAc (s := s) (most := most) hE h1
 rw [hx.tx] at this
 exact this
theorem underWg : Tryd.prog.underlying 46 = some (.struct (Tryd.prog.fieldsOf 46)) := by kernel_rfl
theorem heldWg : Tryd.prog.stoodInHeld 46 = false := by kernel_rfl
theorem fieldsWg : (Tryd.prog.fieldsOf 46).toList = [⟨ "Length", 3, 0, false, "", "", 0⟩, ⟨ "Lines", 3, 1, false, "", "", 8⟩, ⟨ "Head", 3, 2, false, "", "", 16⟩, ⟨ "Tail", 3, 3, false, "", "", 24⟩, ⟨ "Digest", 44, 4, false, "", "", 32⟩] := by kernel_rfl
theorem wgt_same (a b c d e f : Int) (w : World) : (Op.equal 46 (.agg #[.int .i64 a, .int .i64 b, .int .i64 c, .int .i64 d, .int .u64 e, .int .u64 f]) (.agg #[.int .i64 a, .int .i64 b, .int .i64 c, .int .i64 d, .int .u64 e, .int .u64 f])).run Tryd.prog w = .ok true w := by
 unfold Op.equal Op.maxDepth
 rw [show (10000 : Nat) = 9999 + 1 from rfl, run_equalIn_struct _ _ _ _ _ underWg heldWg, fieldsWg]
 simp only [Op.eqFields]
 simp [go_sem]
theorem y_eq_wgt (hE : Seat E) {n : Nat} {L : Fr} {S : List HP} {ty : TypeId} {pos : String} {af : Array Edge} {d : Option Nat} {gd : Option (Nat × Bool)} {x y : Operand} {yt : TypeId} {a b c e f g : Int} (hx : ev L x = some (.agg #[.int .i64 a, .int .i64 b, .int .i64 c, .int .i64 e, .int .u64 f, .int .u64 g])) (hy : ev L y = some (.agg #[.int .i64 a, .int .i64 b, .int .i64 c, .int .i64 e, .int .u64 f, .int .u64 g])) :
  Yl E n L S ⟨d, .binOp .eql 46 x y yt, ty, pos, af, gd⟩ (.bool true) := fun ac w gg _ => by
 have h1 : (eqGuard .eql 46 x y (.agg #[.int .i64 a, .int .i64 b, .int .i64 c, .int .i64 e, .int .u64 f, .int .u64 g]) (.agg #[.int .i64 a, .int .i64 b, .int .i64 c, .int .i64 e, .int .u64 f, .int .u64 g])).run E.P w = .ok () w := by
  have hg : E.P.eqGuardType E.P.depth 46 = false := by rw [hE.P]; kernel_rfl
  unfold eqGuard
  simp [program, Sem.run, hg]
 have h2 : ∀ u v : Array Value, binOp .eql 46 (.agg u) (.agg v) = (do pure (.bool (← Op.equal 46 (.agg u) (.agg v)))) := fun u v => rfl
 have h3 := wgt_same a b c e f g w
 rw [← hE.P] at h3
 simp [execOp, h1, h2, h3, gg.ev hx, gg.ev hy]
end
section
set_option maxRecDepth 100000
variable {E : Env}
theorem qQd (hE : Seat E) (hB : Base E.w0) {a b c : List UInt8} {i j k : Nat} (hi : i < 4294967296) (hj : j < 4294967296) (hk : k < 4294967296) : Ct E 4 [.string ⟨⟨a⟩⟩, .string ⟨⟨b⟩⟩, .string ⟨⟨c⟩⟩, .int .u32 (i : Nat), .int .u32 (j : Nat), .int .u32 (k : Nat)] [] (fun v Q => v = .bool true ∧ Q = []) := by
 refine zR (hE.fn Tryd.func4) rfl rfl rfl (fun R => ?_)
 simp only [qAo, uV, uW]
 refine qN (qL (uA rfl (qO (qM (qN (qL (uX (qUs hE hB) rfl ?_)))))))
 rintro _ _ ⟨pp, s, tb, M, rfl, hM, rfl⟩
 simp only [uV, uW]
 have sg0 : StW M 26 0 := StW.start hM
 refine uM rfl (uB (qX rfl rfl) (uB (qX rfl rfl) (uA rfl (uA rfl (qO (qM (qN (qN (qL (uM rfl (uB (qIf rfl) ?_)))))))))))
 refine qO (qM (zG rfl (zF (qM (qN (qL (uU (kI (hE.t rfl) (fun b15 => ?_)))))))))
 refine qO (qM (qN (qN (qL (uM rfl (uM rfl (uM rfl ?_)))))))
 apply qD
 ·(first | exact qAl (hE.t rfl) rfl rfl | exact qGw (hE.t rfl) rfl rfl)
 ·rfl
 refine uM rfl (qO (qM (zN ?_)))
 refine qKi 4 ?_
 refine qFm ?_
 refine qN (qL (uB (y_lt rfl rfl) ?_))
 refine qO (qM (qN (zI rfl (zF (qM (qN (zN (qN (qL (uM rfl ?_))))))))))
 refine uB (qLy rfl rfl (hE.t rfl) (hE.t rfl) rfl (by omega) (by omega) rfl) ?_
 refine uA rfl (uA rfl (qO (qM (qN (qL (uM rfl (uM rfl (uX (qQe (m := 60) hE) rfl ?_))))))))
 rintro _ _ ⟨rfl, rfl⟩
 simp only [uV, uW]
 have ha : (a.take 60).length ≤ 60 := by rw [List.length_take]; omega
 generalize a.take 60 = ua at ha ⊢
 refine uU ?_
 refine qQu rfl (hE.t rfl) (hE.t rfl) (hE.t rfl) (fun ga ca => ?_)
 refine qId (p := zU s 1048576 (M)) uK (fun _ h => (qAb h).1) ?_
 intro hwa
 have ra := sg0.count hwa
 refine uX (qZz (Es := M) (most := 1048576) (bs := ua) hE hB (by omega) (by omega)) rfl ?_
 rintro _ _ ⟨Oa, xa, rfl, hOa, txa, gxa, sxa, rfl⟩
 simp only [uV, uW]
 refine qId (p := zU s 1048576 (M ++ Oa)) uK (fun _ h => (qAb h).1) ?_
 intro hva
 have hxa : Sn (rls (M ++ Oa)) ua xa := ⟨sxa, txa, gxa⟩
 have hTa := qXr hva hxa ha
 have soa := sg0.some (n := 120) (show (Oa).length ≤ 120 by omega)
 have rma := soa.rmC (k := i) (most := 1048576) hTa (by omega) (by omega)
 refine uM rfl (uB (qX rfl rfl) (uB (qX rfl rfl) (uA rfl (uA rfl (qO (qM (qN (qL (uM rfl (uM rfl (uM rfl ?_)))))))))))
 apply qD
 ·(first | exact qAl (hE.t rfl) rfl rfl | exact qGw (hE.t rfl) rfl rfl)
 ·rfl
 refine uM rfl (uB (qLy rfl rfl (hE.t rfl) (hE.t rfl) rfl (by omega) (by omega) rfl) ?_)
 refine uA rfl (qO (qM (qN (qL (uM rfl (uM rfl (uM rfl (uB (uAc rfl) ?_))))))))
 refine l_eq 70 (.int .i64 (i : Nat)) rfl rfl ?_
 refine uX (qKn (most := 1048576) (k := i) hE hB hxa (by omega) ha rma) rfl ?_
 rintro _ _ ⟨Ra, ya, rfl, hRa, hya, rfl⟩
 simp only [uV, uW]
 have sga := soa.afterC hTa (by omega) hRa
 refine uM rfl (uB (qX rfl rfl) (uB (qX rfl rfl) (uA rfl (uA rfl (qO (qM (qN (qN (qL (uM rfl ?_))))))))))
 apply qD
 ·(first | exact qAk rfl (hE.t rfl) | exact qCf rfl (hE.t rfl))
 ·rfl
 refine uM rfl (kT rfl rfl (uM rfl (kT rfl rfl ?_)))
 apply qD
 ·(first | exact qAk rfl (hE.t rfl) | exact qCf rfl (hE.t rfl))
 ·rfl
 apply qD
 ·(first | exact zA rfl rfl | exact zB rfl rfl)
 ·rfl
 refine qO (qM (zG rfl (zF (qM (qL (uM rfl (uM rfl (uB (qBy rfl rfl (hE.t rfl) (by omega) (by omega)) ?_))))))))
 refine uU ?_
 (first | (apply zO rfl rfl (hE.t rfl) rfl; (focus ((repeat constructor); done)); (focus rfl); (focus (exact Nat.le_of_ble_eq_true rfl))) | (apply qW rfl rfl (hE.t rfl) rfl; (focus ((repeat constructor); done)); (focus rfl); (focus (first | omega | (simp only [zS, qP, List.length_cons, List.length_nil]; omega)))))
 refine qO (zL (qM (qL (uB (uAa rfl rfl) ?_))))
 refine uM rfl (qO ?_)
 refine a_rd ?_
 refine qFm ?_
 refine qN (qL (uB (y_lt rfl rfl) ?_))
 refine qO (qM (qN (zI rfl (zF (qM (qN (zN (qN (qL (uM rfl ?_))))))))))
 refine uB (qLy rfl rfl (hE.t rfl) (hE.t rfl) rfl (by omega) (by omega) rfl) ?_
 refine uA rfl (uA rfl (qO (qM (qN (qL (uM rfl (uM rfl (uX (qQe (m := 60) hE) rfl ?_))))))))
 rintro _ _ ⟨rfl, rfl⟩
 simp only [uV, uW]
 have hb : (b.take 60).length ≤ 60 := by rw [List.length_take]; omega
 generalize b.take 60 = ub at hb ⊢
 refine uU ?_
 refine qQu rfl (hE.t rfl) (hE.t rfl) (hE.t rfl) (fun gb cb => ?_)
 refine qId (p := zU s 1048576 (M ++ Oa ++ Ra)) uK (fun _ h => (qAb h).1) ?_
 intro hwb
 have rb := sga.count hwb
 refine uX (qZz (Es := M ++ Oa ++ Ra) (most := 1048576) (bs := ub) hE hB (by omega) (by omega)) rfl ?_
 rintro _ _ ⟨Ob, xb, rfl, hOb, txb, gxb, sxb, rfl⟩
 simp only [uV, uW]
 refine qId (p := zU s 1048576 (M ++ Oa ++ Ra ++ Ob)) uK (fun _ h => (qAb h).1) ?_
 intro hvb
 have hxb : Sn (rls (M ++ Oa ++ Ra ++ Ob)) ub xb := ⟨sxb, txb, gxb⟩
 have hTb := qXr hvb hxb hb
 have sob := sga.some (n := 120) (show (Ob).length ≤ 120 by omega)
 have rmb := sob.rmC (k := j) (most := 1048576) hTb (by omega) (by omega)
 refine uM rfl (uB (qX rfl rfl) (uB (qX rfl rfl) (uA rfl (uA rfl (qO (qM (qN (qL (uM rfl (uM rfl (uM rfl ?_)))))))))))
 apply qD
 ·(first | exact qAl (hE.t rfl) rfl rfl | exact qGw (hE.t rfl) rfl rfl)
 ·rfl
 refine uM rfl (uB (qLy rfl rfl (hE.t rfl) (hE.t rfl) rfl (by omega) (by omega) rfl) ?_)
 refine uA rfl (qO (qM (qN (qL (uM rfl (uM rfl (uM rfl (uB (uAc rfl) ?_))))))))
 refine l_eq 70 (.int .i64 (j : Nat)) rfl rfl ?_
 refine uX (qKn (most := 1048576) (k := j) hE hB hxb (by omega) hb rmb) rfl ?_
 rintro _ _ ⟨Rb, yb, rfl, hRb, hyb, rfl⟩
 simp only [uV, uW]
 have sgb := sob.afterC hTb (by omega) hRb
 refine uM rfl (uB (qX rfl rfl) (uB (qX rfl rfl) (uA rfl (uA rfl (qO (qM (qN (qN (qL (uM rfl ?_))))))))))
 apply qD
 ·(first | exact qAk rfl (hE.t rfl) | exact qCf rfl (hE.t rfl))
 ·rfl
 refine uM rfl (kT rfl rfl (uM rfl (kT rfl rfl ?_)))
 apply qD
 ·(first | exact qAk rfl (hE.t rfl) | exact qCf rfl (hE.t rfl))
 ·rfl
 apply qD
 ·(first | exact zA rfl rfl | exact zB rfl rfl)
 ·rfl
 refine qO (qM (zG rfl (zF (qM (qL (uM rfl (uM rfl (uB (qBy rfl rfl (hE.t rfl) (by omega) (by omega)) ?_))))))))
 refine uU ?_
 (first | (apply zO rfl rfl (hE.t rfl) rfl; (focus ((repeat constructor); done)); (focus rfl); (focus (exact Nat.le_of_ble_eq_true rfl))) | (apply qW rfl rfl (hE.t rfl) rfl; (focus ((repeat constructor); done)); (focus rfl); (focus (first | omega | (simp only [zS, qP, List.length_cons, List.length_nil]; omega)))))
 refine qO (zL (qM (qL (uB (uAa rfl rfl) ?_))))
 refine uM rfl (qO ?_)
 refine a_rd ?_
 refine qFm ?_
 refine qN (qL (uB (y_lt rfl rfl) ?_))
 refine qO (qM (qN (zI rfl (zF (qM (qN (zN (qN (qL (uM rfl ?_))))))))))
 refine uB (qLy rfl rfl (hE.t rfl) (hE.t rfl) rfl (by omega) (by omega) rfl) ?_
 refine uA rfl (uA rfl (qO (qM (qN (qL (uM rfl (uM rfl (uX (qQe (m := 60) hE) rfl ?_))))))))
 rintro _ _ ⟨rfl, rfl⟩
 simp only [uV, uW]
 have hc : (c.take 60).length ≤ 60 := by rw [List.length_take]; omega
 generalize c.take 60 = uc at hc ⊢
 refine uU ?_
 refine qQu rfl (hE.t rfl) (hE.t rfl) (hE.t rfl) (fun gc cc => ?_)
 refine qId (p := zU s 1048576 (M ++ Oa ++ Ra ++ Ob ++ Rb)) uK (fun _ h => (qAb h).1) ?_
 intro hwc
 have rc := sgb.count hwc
 refine uX (qZz (Es := M ++ Oa ++ Ra ++ Ob ++ Rb) (most := 1048576) (bs := uc) hE hB (by omega) (by omega)) rfl ?_
 rintro _ _ ⟨Oc, xc, rfl, hOc, txc, gxc, sxc, rfl⟩
 simp only [uV, uW]
 refine qId (p := zU s 1048576 (M ++ Oa ++ Ra ++ Ob ++ Rb ++ Oc)) uK (fun _ h => (qAb h).1) ?_
 intro hvc
 have hxc : Sn (rls (M ++ Oa ++ Ra ++ Ob ++ Rb ++ Oc)) uc xc := ⟨sxc, txc, gxc⟩
 have hTc := qXr hvc hxc hc
 have soc := sgb.some (n := 120) (show (Oc).length ≤ 120 by omega)
 have rmc := soc.rmC (k := k) (most := 1048576) hTc (by omega) (by omega)
 refine uM rfl (uB (qX rfl rfl) (uB (qX rfl rfl) (uA rfl (uA rfl (qO (qM (qN (qL (uM rfl (uM rfl (uM rfl ?_)))))))))))
 apply qD
 ·(first | exact qAl (hE.t rfl) rfl rfl | exact qGw (hE.t rfl) rfl rfl)
 ·rfl
 refine uM rfl (uB (qLy rfl rfl (hE.t rfl) (hE.t rfl) rfl (by omega) (by omega) rfl) ?_)
 refine uA rfl (qO (qM (qN (qL (uM rfl (uM rfl (uM rfl (uB (uAc rfl) ?_))))))))
 refine l_eq 70 (.int .i64 (k : Nat)) rfl rfl ?_
 refine uX (qKn (most := 1048576) (k := k) hE hB hxc (by omega) hc rmc) rfl ?_
 rintro _ _ ⟨Rc, yc, rfl, hRc, hyc, rfl⟩
 simp only [uV, uW]
 have sgc := soc.afterC hTc (by omega) hRc
 refine uM rfl (uB (qX rfl rfl) (uB (qX rfl rfl) (uA rfl (uA rfl (qO (qM (qN (qN (qL (uM rfl ?_))))))))))
 apply qD
 ·(first | exact qAk rfl (hE.t rfl) | exact qCf rfl (hE.t rfl))
 ·rfl
 refine uM rfl (kT rfl rfl (uM rfl (kT rfl rfl ?_)))
 apply qD
 ·(first | exact qAk rfl (hE.t rfl) | exact qCf rfl (hE.t rfl))
 ·rfl
 apply qD
 ·(first | exact zA rfl rfl | exact zB rfl rfl)
 ·rfl
 refine qO (qM (zG rfl (zF (qM (qL (uM rfl (uM rfl (uB (qBy rfl rfl (hE.t rfl) (by omega) (by omega)) ?_))))))))
 refine uU ?_
 (first | (apply zO rfl rfl (hE.t rfl) rfl; (focus ((repeat constructor); done)); (focus rfl); (focus (exact Nat.le_of_ble_eq_true rfl))) | (apply qW rfl rfl (hE.t rfl) rfl; (focus ((repeat constructor); done)); (focus rfl); (focus (first | omega | (simp only [zS, qP, List.length_cons, List.length_nil]; omega)))))
 refine qO (zL (qM (qL (uB (uAa rfl rfl) ?_))))
 refine uM rfl (qO ?_)
 refine a_rd ?_
 refine qFm ?_
 refine qN (qL (uB (y_lt rfl rfl) ?_))
 refine qO (qM (qN (zG rfl ?_)))
 have hA := hya.upl (M := Ob) |>.upl (M := Rb) |>.upl (M := Oc) |>.upl (M := Rc)
 have hB2 := hyb.upl (M := Oc) |>.upl (M := Rc)
 have hC := hyc
 have TA := hTa.up (M := Ra) |>.up (M := Ob) |>.up (M := Rb) |>.up (M := Oc) |>.up (M := Rc)
 have TB := hTb.up (M := Rb) |>.up (M := Oc) |>.up (M := Rc)
 have TC := hTc.up (M := Rc)
 have sg := sgc.mono (show 26 + 120 + 1 + 120 + 1 + 120 + 1 ≤ 389 by omega) (show 0 + 312320 + 312320 + 312320 ≤ 936960 by omega)
 generalize hZ : M ++ Oa ++ Ra ++ Ob ++ Rb ++ Oc ++ Rc = Z at *
 refine kM (qU (qU (zK (qM (qN (qL (uM rfl (uB (qBy rfl rfl (hE.t rfl) (by omega) (by omega)) ?_))))))))
 refine uL ?_
 refine uB (qBy rfl rfl (hE.t rfl) (by omega) (by omega)) ?_
 refine uL ?_
 have hmx : kK = 1152921504606846976 := rfl
 have m1 : i * ua.length ≤ 4294967295 * 60 := Nat.mul_le_mul (by omega) ha
 have m2 : j * ub.length ≤ 4294967295 * 60 := Nat.mul_le_mul (by omega) hb
 have m3 : k * uc.length ≤ 4294967295 * 60 := Nat.mul_le_mul (by omega) hc
 have l1 := qBx i ua
 have l2 := qBx j ub
 have l3 := qBx k uc
 have b1 := qKc (T := ua) (k := i) (by omega)
 have b2 := qKc (T := ub) (k := j) (by omega)
 have b3 := qKc (T := uc) (k := k) (by omega)
 have qA := qNv (k := i) TA
 have qB := qNv (k := j) TB
 have qC := qNv (k := k) TC
 have e12 : rep i ua ++ rep j ub = catT (ptT ua i ++ ptT ub j) := by rw [qEo, qEh, qEh]
 have e23 : rep j ub ++ rep k uc = catT (ptT ub j ++ ptT uc k) := by rw [qEo, qEh, qEh]
 have eL : (rep i ua ++ rep j ub) ++ rep k uc = catT ((ptT ua i ++ ptT ub j) ++ ptT uc k) := by rw [qEo, qEo, qEh, qEh, qEh]
 have eR : rep i ua ++ (rep j ub ++ rep k uc) = catT ((ptT ua i ++ ptT ub j) ++ ptT uc k) := by rw [← eL, List.append_assoc]
 have s12 : sumB (ptT ua i ++ ptT ub j) ≤ 15650 := by rw [qGt]; omega
 have s23 : sumB (ptT ub j ++ ptT uc k) ≤ 15650 := by rw [qGt]; omega
 have sL : sumB ((ptT ua i ++ ptT ub j) ++ ptT uc k) ≤ 23475 := by rw [qGt]; omega
 have n12 : (rep i ua ++ rep j ub).length ≤ kK := by rw [List.length_append]; omega
 have n12w : (rep i ua).length + (rep j ub).length ≤ kK := by omega
 have n23 : (rep j ub ++ rep k uc).length ≤ kK := by rw [List.length_append]; omega
 have nL : ((rep i ua ++ rep j ub) ++ rep k uc).length ≤ kK := by rw [List.length_append, List.length_append]; omega
 have nR : (rep i ua ++ (rep j ub ++ rep k uc)).length ≤ kK := by rw [List.length_append, List.length_append]; omega
 have c3 : (rep i ua ++ rep j ub).length + (rep k uc).length ≤ 800000000000 := by rw [List.length_append]; omega
 have c4 : (rep i ua).length + (rep j ub ++ rep k uc).length ≤ 800000000000 := by rw [List.length_append]; omega
 have o12 := qKv qA qB
 have o23 := qKv qB qC
 have oL := qKv o12 qC
 have j1 := sg.rmT (most := 1048576) o12 e12 n12 (by omega)
 refine uX (qKm (most := 1048576) hE hB hA hB2 (by omega) j1) rfl ?_
 rintro _ _ ⟨M1, z1, rfl, hM1, hz1, -, hn1, rfl⟩
 simp only [uV, uW]
 have sg1 := (sg.afterT o12 e12 n12 hn1).mono (Nat.le_refl _) (show _ ≤ 952610 by omega)
 have j2 := sg1.rmT (most := 1048576) o23.up e23 n23 (by omega)
 refine uM rfl (uB (qX rfl rfl) (uB (qX rfl rfl) (uA rfl (uA rfl (qO (qM (qN (qL (uM rfl ?_)))))))))
 refine uB (qBy rfl rfl (hE.t rfl) (by omega) (by omega)) ?_
 refine uL ?_
 refine uB (qBy rfl rfl (hE.t rfl) (by omega) (by omega)) ?_
 refine uL ?_
 refine uX (qKm (most := 1048576) hE hB hB2.upl hC.upl (by omega) j2) rfl ?_
 rintro _ _ ⟨M2, z2, rfl, hM2, hz2, -, hn2, rfl⟩
 simp only [uV, uW]
 have sg2 := (sg1.afterT o23.up e23 n23 hn2).mono (Nat.le_refl _) (show _ ≤ 968260 by omega)
 have j3 := sg2.rmT (most := 1048576) oL.up.up eL nL (by omega)
 refine uM rfl (uB (qX rfl rfl) (uB (qX rfl rfl) (uA rfl (uA rfl (qO (qM (qN (qL (uM rfl (uM rfl ?_))))))))))
 refine uB (qBy rfl rfl (hE.t rfl) (by omega) (by omega)) ?_
 refine uL ?_
 refine uX (qKm (most := 1048576) hE hB hz1.upl hC.upl.upl c3 j3) rfl ?_
 rintro _ _ ⟨M3, z3, rfl, hM3, hz3, -, hn3, rfl⟩
 simp only [uV, uW]
 have sg3 := (sg2.afterT oL.up.up eL nL hn3).mono (Nat.le_refl _) (show _ ≤ 991735 by omega)
 have j4 := sg3.rmT (most := 1048576) oL.up.up.up eR nR (by omega)
 refine uM rfl (uB (qX rfl rfl) (uB (qX rfl rfl) (uA rfl (uA rfl (qO (qM (qN (qL (uM rfl ?_)))))))))
 refine uB (qBy rfl rfl (hE.t rfl) (by omega) (by omega)) ?_
 refine uL ?_
 refine uM rfl (uX (qKm (most := 1048576) hE hB hA.upl.upl.upl hz2.upl c4 j4) rfl ?_)
 rintro _ _ ⟨M4, z4, rfl, hM4, hz4, -, hn4, rfl⟩
 simp only [uV, uW]
 refine qId (p := zU s 1048576 (Z ++ M1 ++ M2 ++ M3 ++ M4)) uK (fun _ h => (qAb h).1) ?_
 intro hwf
 rw [List.append_assoc (rep i ua)] at hz3
 obtain rfl : z3 = z4 := hz3.upl.fn hwf hz4
 have hA4 : Sn (rls (Z ++ M1 ++ M2 ++ M3 ++ M4)) (rep i ua) ya := hA.upl.upl.upl.upl
 have hB4 : Sn (rls (Z ++ M1 ++ M2 ++ M3 ++ M4)) (rep j ub) yb := hB2.upl.upl.upl.upl
 have hz4' : Sn (rls (Z ++ M1 ++ M2 ++ M3 ++ M4)) (rep i ua ++ rep j ub) z1 := hz1.upl.upl.upl
 refine uM rfl (uB (qX rfl rfl) (uB (qX rfl rfl) (uA rfl (uA rfl (qO (qM ?_))))))
 refine qIe (fun bx : Nat => [(13, uPt pp), (15, uPt b15), (22, .int .i64 (z1 : Nat)), (23, .nilIface), (25, .nilIface), (26, .int .i64 (z3 : Nat)), (27, .nilIface), (28, .int .i64 (z3 : Nat)), (29, .nilIface), (30, uPt bx)]) (fun bx => [cells pp [uPt s, uPt tb] 57, tabP tb s (rls (Z ++ M1 ++ M2 ++ M3 ++ M4)), zU s 1048576 (Z ++ M1 ++ M2 ++ M3 ++ M4), cells b15 [.int .i64 (ya : Nat), .int .i64 (yb : Nat), .int .i64 (yc : Nat)] 39, cells bx (zS (.agg #[.int .i64 (List.length ((rep i ua)) : Nat), .int .i64 (qAq ((rep i ua)) : Nat), .int .i64 (qCd ((rep i ua)) : Nat), .int .i64 (qCe ((rep i ua)) : Nat), .int .u64 (dval ((rep i ua)) : Nat), .int .u64 (qAf ((rep i ua)) : Nat)])) 46, R]) (fun _ => True) ?_ ?_
 ·refine qLi 10 ([cells b15 [.int .i64 (ya : Nat), .int .i64 (yb : Nat), .int .i64 (yc : Nat)] 39]) ?_ ?_
  ·exact uI
  refine uT 0 rfl (qE rfl) ?_
  refine uT 2 rfl (qBy rfl rfl (hE.t rfl) (by omega) (by omega)) ?_
  refine uT 3 rfl (uY) ?_
  apply qQx 1 8 rfl rfl (by kernel_rfl) rfl rfl
  ·apply zC (qBb hE) rfl (hE.f (by kernel_rfl))
   ·exact uK
   rintro _ _ ⟨rfl, rfl⟩
   simp only [uV, uW]
   refine uE ?_
   apply qQx 4 8 rfl rfl (by kernel_rfl) rfl rfl
   ·apply zC (qDo hE hA4) rfl (hE.f (by kernel_rfl))
    ·exact uK
    rintro _ _ ⟨rfl, rfl⟩
    simp only [uV, uW]
    refine uE ?_
    refine uT 5 rfl (qE rfl) ?_
    refine uT 6 rfl (qX rfl rfl) ?_
    refine uT 7 rfl (qX rfl rfl) ?_
    apply qAg 8 rfl (by kernel_rfl) rfl
    refine kI (hE.t rfl) (fun b30 => ?_)
    refine uE ?_
    apply qAg 9 rfl (by kernel_rfl) rfl
    (first | (apply zO rfl rfl (hE.t rfl) rfl; (focus ((repeat constructor); done)); (focus rfl); (focus (exact Nat.le_of_ble_eq_true rfl))) | (apply qW rfl rfl (hE.t rfl) rfl; (focus ((repeat constructor); done)); (focus rfl); (focus (first | omega | (simp only [zS, qP, List.length_cons, List.length_nil]; omega)))))
    refine uE ?_
    apply kN 10 rfl (by kernel_rfl)
    ·exact qF rfl
    ·rfl
    refine qQw (by kernel_rfl) ?_
    refine qBq (ι := Nat) b30 trivial ⟨rfl, rfl, rfl, rfl, rfl, rfl, rfl, rfl, rfl, rfl, trivial⟩ ?_
    exact uI
   refine kI (hE.t rfl) (fun b30 => ?_)
   refine uE ?_
   apply qAg 4 rfl (by kernel_rfl) rfl
   refine uC (qDo hE hA4) rfl ?_
   rintro _ _ ⟨rfl, rfl⟩
   simp only [uV, uW]
   refine uE ?_
   apply kN 5 rfl (by kernel_rfl)
   ·exact qE rfl
   ·rfl
   refine uT 6 rfl (qX rfl rfl) ?_
   refine uT 7 rfl (qX rfl rfl) ?_
   apply qAg 9 rfl (by kernel_rfl) rfl
   (first | (apply zO rfl rfl (hE.t rfl) rfl; (focus ((repeat constructor); done)); (focus rfl); (focus (exact Nat.le_of_ble_eq_true rfl))) | (apply qW rfl rfl (hE.t rfl) rfl; (focus ((repeat constructor); done)); (focus rfl); (focus (first | omega | (simp only [zS, qP, List.length_cons, List.length_nil]; omega)))))
   refine uE ?_
   apply kN 10 rfl (by kernel_rfl)
   ·exact qF rfl
   ·rfl
   refine qQw (by kernel_rfl) ?_
   refine qBq (ι := Nat) b30 trivial ⟨rfl, rfl, rfl, rfl, rfl, rfl, rfl, rfl, rfl, rfl, trivial⟩ ?_
   exact uI
  refine kI (hE.t rfl) (fun b30 => ?_)
  refine uE ?_
  apply qAg 1 rfl (by kernel_rfl) rfl
  refine uC (qBb hE) rfl ?_
  rintro _ _ ⟨rfl, rfl⟩
  simp only [uV, uW]
  refine uE ?_
  apply qAg 4 rfl (by kernel_rfl) rfl
  refine uC (qDo hE hA4) rfl ?_
  rintro _ _ ⟨rfl, rfl⟩
  simp only [uV, uW]
  refine uE ?_
  apply kN 5 rfl (by kernel_rfl)
  ·exact qE rfl
  ·rfl
  refine uT 6 rfl (qX rfl rfl) ?_
  refine uT 7 rfl (qX rfl rfl) ?_
  apply qAg 9 rfl (by kernel_rfl) rfl
  (first | (apply zO rfl rfl (hE.t rfl) rfl; (focus ((repeat constructor); done)); (focus rfl); (focus (exact Nat.le_of_ble_eq_true rfl))) | (apply qW rfl rfl (hE.t rfl) rfl; (focus ((repeat constructor); done)); (focus rfl); (focus (first | omega | (simp only [zS, qP, List.length_cons, List.length_nil]; omega)))))
  refine uE ?_
  apply kN 10 rfl (by kernel_rfl)
  ·exact qF rfl
  ·rfl
  refine qQw (by kernel_rfl) ?_
  refine qBq (ι := Nat) b30 trivial ⟨rfl, rfl, rfl, rfl, rfl, rfl, rfl, rfl, rfl, rfl, trivial⟩ ?_
  exact uI
 rintro b1 -
 refine qIe (fun bx : Nat => [(13, uPt pp), (15, uPt b15), (22, .int .i64 (z1 : Nat)), (23, .nilIface), (25, .nilIface), (26, .int .i64 (z3 : Nat)), (27, .nilIface), (28, .int .i64 (z3 : Nat)), (29, .nilIface), (30, uPt b1), (32, uPt bx)]) (fun bx => [cells pp [uPt s, uPt tb] 57, tabP tb s (rls (Z ++ M1 ++ M2 ++ M3 ++ M4)), zU s 1048576 (Z ++ M1 ++ M2 ++ M3 ++ M4), cells b1 (zS (.agg #[.int .i64 (List.length ((rep i ua)) : Nat), .int .i64 (qAq ((rep i ua)) : Nat), .int .i64 (qCd ((rep i ua)) : Nat), .int .i64 (qCe ((rep i ua)) : Nat), .int .u64 (dval ((rep i ua)) : Nat), .int .u64 (qAf ((rep i ua)) : Nat)])) 46, cells bx (zS (.agg #[.int .i64 (List.length ((rep j ub)) : Nat), .int .i64 (qAq ((rep j ub)) : Nat), .int .i64 (qCd ((rep j ub)) : Nat), .int .i64 (qCe ((rep j ub)) : Nat), .int .u64 (dval ((rep j ub)) : Nat), .int .u64 (qAf ((rep j ub)) : Nat)])) 46, R]) (fun _ => True) ?_ ?_
 ·refine qLi 10 ([cells b15 [.int .i64 (ya : Nat), .int .i64 (yb : Nat), .int .i64 (yc : Nat)] 39]) ?_ ?_
  ·exact uI
  refine uT 0 rfl (qE rfl) ?_
  refine uT 2 rfl (qBy rfl rfl (hE.t rfl) (by omega) (by omega)) ?_
  refine uT 3 rfl (uY) ?_
  apply qQx 1 8 rfl rfl (by kernel_rfl) rfl rfl
  ·apply zC (qBb hE) rfl (hE.f (by kernel_rfl))
   ·exact uK
   rintro _ _ ⟨rfl, rfl⟩
   simp only [uV, uW]
   refine uE ?_
   apply qQx 4 8 rfl rfl (by kernel_rfl) rfl rfl
   ·apply zC (qDo hE hB4) rfl (hE.f (by kernel_rfl))
    ·exact uK
    rintro _ _ ⟨rfl, rfl⟩
    simp only [uV, uW]
    refine uE ?_
    refine uT 5 rfl (qE rfl) ?_
    refine uT 6 rfl (qX rfl rfl) ?_
    refine uT 7 rfl (qX rfl rfl) ?_
    apply qAg 8 rfl (by kernel_rfl) rfl
    refine kI (hE.t rfl) (fun b32 => ?_)
    refine uE ?_
    apply qAg 9 rfl (by kernel_rfl) rfl
    (first | (apply zO rfl rfl (hE.t rfl) rfl; (focus ((repeat constructor); done)); (focus rfl); (focus (exact Nat.le_of_ble_eq_true rfl))) | (apply qW rfl rfl (hE.t rfl) rfl; (focus ((repeat constructor); done)); (focus rfl); (focus (first | omega | (simp only [zS, qP, List.length_cons, List.length_nil]; omega)))))
    refine uE ?_
    apply kN 10 rfl (by kernel_rfl)
    ·exact qF rfl
    ·rfl
    refine qQw (by kernel_rfl) ?_
    refine qBq (ι := Nat) b32 trivial ⟨rfl, rfl, rfl, rfl, rfl, rfl, rfl, rfl, rfl, rfl, rfl, trivial⟩ ?_
    exact uI
   refine kI (hE.t rfl) (fun b32 => ?_)
   refine uE ?_
   apply qAg 4 rfl (by kernel_rfl) rfl
   refine uC (qDo hE hB4) rfl ?_
   rintro _ _ ⟨rfl, rfl⟩
   simp only [uV, uW]
   refine uE ?_
   apply kN 5 rfl (by kernel_rfl)
   ·exact qE rfl
   ·rfl
   refine uT 6 rfl (qX rfl rfl) ?_
   refine uT 7 rfl (qX rfl rfl) ?_
   apply qAg 9 rfl (by kernel_rfl) rfl
   (first | (apply zO rfl rfl (hE.t rfl) rfl; (focus ((repeat constructor); done)); (focus rfl); (focus (exact Nat.le_of_ble_eq_true rfl))) | (apply qW rfl rfl (hE.t rfl) rfl; (focus ((repeat constructor); done)); (focus rfl); (focus (first | omega | (simp only [zS, qP, List.length_cons, List.length_nil]; omega)))))
   refine uE ?_
   apply kN 10 rfl (by kernel_rfl)
   ·exact qF rfl
   ·rfl
   refine qQw (by kernel_rfl) ?_
   refine qBq (ι := Nat) b32 trivial ⟨rfl, rfl, rfl, rfl, rfl, rfl, rfl, rfl, rfl, rfl, rfl, trivial⟩ ?_
   exact uI
  refine kI (hE.t rfl) (fun b32 => ?_)
  refine uE ?_
  apply qAg 1 rfl (by kernel_rfl) rfl
  refine uC (qBb hE) rfl ?_
  rintro _ _ ⟨rfl, rfl⟩
  simp only [uV, uW]
  refine uE ?_
  apply qAg 4 rfl (by kernel_rfl) rfl
  refine uC (qDo hE hB4) rfl ?_
  rintro _ _ ⟨rfl, rfl⟩
  simp only [uV, uW]
  refine uE ?_
  apply kN 5 rfl (by kernel_rfl)
  ·exact qE rfl
  ·rfl
  refine uT 6 rfl (qX rfl rfl) ?_
  refine uT 7 rfl (qX rfl rfl) ?_
  apply qAg 9 rfl (by kernel_rfl) rfl
  (first | (apply zO rfl rfl (hE.t rfl) rfl; (focus ((repeat constructor); done)); (focus rfl); (focus (exact Nat.le_of_ble_eq_true rfl))) | (apply qW rfl rfl (hE.t rfl) rfl; (focus ((repeat constructor); done)); (focus rfl); (focus (first | omega | (simp only [zS, qP, List.length_cons, List.length_nil]; omega)))))
  refine uE ?_
  apply kN 10 rfl (by kernel_rfl)
  ·exact qF rfl
  ·rfl
  refine qQw (by kernel_rfl) ?_
  refine qBq (ι := Nat) b32 trivial ⟨rfl, rfl, rfl, rfl, rfl, rfl, rfl, rfl, rfl, rfl, rfl, trivial⟩ ?_
  exact uI
 rintro b2 -
 refine qN (qL (uM rfl (uX (qBb hE) rfl ?_)))
 rintro _ _ ⟨rfl, rfl⟩
 simp only [uV, uW]
 refine uM rfl (uX (qDo hE hz4') rfl ?_)
 rintro _ _ ⟨rfl, rfl⟩
 simp only [uV, uW]
 refine uM rfl (uB (qX rfl rfl) (uB (qX rfl rfl) (uU (kI (hE.t rfl) (fun b34 => ?_)))))
 refine uU ?_
 (first | (apply zO rfl rfl (hE.t rfl) rfl; (focus ((repeat constructor); done)); (focus rfl); (focus (exact Nat.le_of_ble_eq_true rfl))) | (apply qW rfl rfl (hE.t rfl) rfl; (focus ((repeat constructor); done)); (focus rfl); (focus (first | omega | (simp only [zS, qP, List.length_cons, List.length_nil]; omega)))))
 refine uA rfl (qO (qM (qN (qL (uB (uG) ?_)))))
 refine uB (uG) ?_
 refine uX (ct_wjoin hE n12w) rfl ?_
 rintro _ _ ⟨rfl, rfl⟩
 simp only [uV, uW]
 refine uM rfl (uB (qX rfl rfl) (uB (qX rfl rfl) (uU (kI (hE.t rfl) (fun b36 => ?_)))))
 refine uU ?_
 (first | (apply zO rfl rfl (hE.t rfl) rfl; (focus ((repeat constructor); done)); (focus rfl); (focus (exact Nat.le_of_ble_eq_true rfl))) | (apply qW rfl rfl (hE.t rfl) rfl; (focus ((repeat constructor); done)); (focus rfl); (focus (first | omega | (simp only [zS, qP, List.length_cons, List.length_nil]; omega)))))
 refine uA rfl (qO (qM (qN (qL (uM rfl ?_)))))
 apply qD
 ·(first | exact qFc rfl (hE.t rfl) | exact qDz rfl (hE.t rfl))
 ·rfl
 refine uM rfl (kT rfl rfl (uM rfl (kT rfl rfl ?_)))
 apply qD
 ·(first | exact qFc rfl (hE.t rfl) | exact qDz rfl (hE.t rfl))
 ·rfl
 apply qD
 ·(first | exact zA rfl rfl | exact zB rfl rfl)
 ·rfl
 refine uM rfl (kT rfl rfl (uM rfl (kT rfl rfl ?_)))
 apply qD
 ·(first | exact qFc rfl (hE.t rfl) | exact qDz rfl (hE.t rfl))
 ·rfl
 apply qD
 ·(first | exact zA rfl rfl | exact zB rfl rfl)
 ·rfl
 refine uM rfl (kT rfl rfl (uM rfl (kT rfl rfl ?_)))
 apply qD
 ·(first | exact qFc rfl (hE.t rfl) | exact qDz rfl (hE.t rfl))
 ·rfl
 apply qD
 ·(first | exact zA rfl rfl | exact zB rfl rfl)
 ·rfl
 refine uM rfl (kT rfl rfl (uM rfl (kT rfl rfl ?_)))
 apply qD
 ·(first | exact qFc rfl (hE.t rfl) | exact qDz rfl (hE.t rfl))
 ·rfl
 apply qD
 ·(first | exact zA rfl rfl | exact zB rfl rfl)
 ·rfl
 refine uM rfl (kT rfl rfl (uM rfl (kT rfl rfl (uM rfl (kT rfl rfl (uB (y_eq rfl rfl) ?_))))))
 apply qD
 ·(first | exact zA rfl rfl | exact zB rfl rfl)
 ·rfl
 refine uM rfl ?_
 refine qAn 170 rfl (fun h9 => ?_) (fun h9 => ?_)
 ·refine kT rfl rfl ?_
  refine uB (uG) ?_
  refine kT rfl rfl (uB (uG) ?_)
  refine kT rfl rfl (uB (y_eq_wgt hE rfl rfl) ?_)
  apply qD
  ·(first | exact zA rfl rfl | exact zB rfl rfl)
  ·rfl
  refine uA rfl (qO (qM (kE ?_)))
  exact uZ rfl (.tmp rfl .nil) ⟨by simp [one], rfl⟩
 exact absurd rfl h9
end
end Go.Proofs.YtlleicanafioaaaDoor
