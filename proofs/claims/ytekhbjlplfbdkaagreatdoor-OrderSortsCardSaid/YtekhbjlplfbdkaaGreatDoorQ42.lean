/- Sorting by a function: pdqsort, SortFunc. -/
import Derived.Test.YtekhbjlplfbdkaaGreatDoorQ18
import Derived.Test.YtekhbjlplfbdkaaGreatDoorQ20
import Derived.Test.YtekhbjlplfbdkaaGreatDoorQ41
import Derived.Test.YtekhbjlplfbdkaaGreatDoorQSlq
set_option linter.unusedVariables false
set_option linter.unusedSimpArgs false
namespace Go.Sort
def pdqC (lt : Nat → Nat → Bool) (d3 : Array Nat) (a b limit : Nat) (wB wP : Bool) (pivot : Nat) : Array Nat :=
  if a > 0 && !lt d3[a - 1]! d3[pivot]! then
    match partitionEqual lt d3 a b pivot with
    | (mid, d4) => if _h : a < mid ∧ mid ≤ b then pdq lt d4 mid b limit wB wP else d4
  else
    match partition lt d3 a b pivot with
    | (mid, alreadyPartitioned, d4) =>
      if _h : a ≤ mid ∧ mid < b then
        if mid - a < b - mid then
          pdq lt (pdq lt d4 a mid limit true true) (mid + 1) b limit (decide (mid - a ≥ (b - a) / 8)) alreadyPartitioned
        else
          pdq lt (pdq lt d4 (mid + 1) b limit true true) a mid limit (decide (b - mid ≥ (b - a) / 8)) alreadyPartitioned
      else d4
def pdqB (lt : Nat → Nat → Bool) (d2 : Array Nat) (a b limit : Nat) (wB wP : Bool) (pivot : Nat) (hint : Hint) : Array Nat :=
  let pi := if wB && wP && hint = .increasing then partialInsertionSort lt d2 a b else (d2, false)
  if pi.2 then pi.1 else pdqC lt pi.1 a b limit wB wP pivot
def pdqA (lt : Nat → Nat → Bool) (d1 : Array Nat) (a b limit : Nat) (wB wP : Bool) : Array Nat :=
  let c := choosePivot lt d1 a b
  pdqB lt (if c.2 = .decreasing then reverseRange d1 a b else d1) a b limit wB wP (if c.2 = .decreasing then (b - 1) - (c.1 - a) else c.1) (if c.2 = .decreasing then Hint.increasing else c.2)
theorem pdq_round {lt : Nat → Nat → Bool} {d : Array Nat} {a b limit : Nat} {wB wP : Bool} (h : ¬ b - a ≤ 12) (h0 : ¬ limit = 0) : pdq lt d a b limit wB wP = pdqA lt (if !wB then breakPatterns d a b else d) a b (if !wB then limit - 1 else limit) wB wP := by
  rw [pdq, if_neg h, if_neg h0]
  rfl
end Go.Sort
namespace Go.Proofs.YtekhbjlplfbdkaaGreatDoor
open Go Go.RowKit Sl Eg
set_option maxRecDepth 10000
variable {E : Env}
variable {fc : FuncId} {caps : List Value} {q : HP} {ok : Nat → Prop} {cf : Nat → Nat → Int} {g c n : Nat}
theorem hintN_dec {h : Go.Sort.Hint} (e : hintN h = 2) : h = .decreasing := by cases h <;> simp [hintN] at e ⊢
theorem hintN_inc {h : Go.Sort.Hint} (e : hintN h = 1) : h = .increasing := by cases h <;> simp [hintN] at e ⊢
open Go.Sort in
theorem ct_pdq (hE : Seat E) (hf : goFn E.P fc = true) (hc : Cmp E fc caps q ok cf) (hO : SWO (ltF cf)) (hn : n < 65536) : ∀ (k : Nat) {d : Array Nat} (hd : OkD ok n d) {a b limit : Nat} (hk : b - a ≤ k) (hab : a ≤ b) (hb : b ≤ n) (hlim : limit ≤ 1000),
    Ct E 67 [.slice (some ⟨g, 0, none⟩) n c, .int .i64 (a : Nat), .int .i64 (b : Nat), .int .i64 (limit : Nat), .func (.func fc) #[] ⟨caps⟩] [sl (some ⟨g, 0, none⟩) c 27 1 n (dC d), q]
      (fun v Q => v = .tuple #[] ∧ Q = [sl (some ⟨g, 0, none⟩) c 27 1 n (dC (pdq (ltF cf) d a b limit true true)), q] ∧ OkD ok n (pdq (ltF cf) d a b limit true true)) := by
  intro k
  induction k using Nat.strongRecOn with
  | _ k ih =>
  intro d hd a b limit hk hab hb hlim
  obtain ⟨r, hr⟩ : ∃ r, r = pdq (ltF cf) d a b limit true true := ⟨_, rfl⟩
  rw [← hr]
  refine fn_enter (hE.fn Tryz.func67) rfl rfl rfl (fun R => ?_)
  simp only [argsL, List.cons_append, List.nil_append]
  refine w_seq (wR ?_)
  refine lY (yA rfl) rfl ?_
  refine l_nil (aT (w_seq (wR ?_)))
  refine lY (yA rfl) rfl ?_
  refine l_nil (aT (w_block ?_))
  skip
  refine w_loop (fun x : (Nat × Nat × Nat) × Bool × Bool × Array Nat => [(0, .slice (some ⟨g, 0, none⟩) n c), (1, .int .i64 (x.1.1 : Nat)), (2, .int .i64 (x.1.2.1 : Nat)), (3, .int .i64 (x.1.2.2 : Nat)), (4, .func (.func fc) #[] ⟨caps⟩), (10, .bool x.2.1), (11, .bool x.2.2.1)]) (fun x => [sl (some ⟨g, 0, none⟩) c 27 1 n (dC x.2.2.2), q, R]) (fun x => x.1.2.1 - x.1.1) (fun x => pdq (ltF cf) x.2.2.2 x.1.1 x.1.2.1 x.1.2.2 x.2.1 x.2.2.1 = r ∧ OkD ok n x.2.2.2 ∧ x.1.1 ≤ x.1.2.1 ∧ x.1.2.1 ≤ n ∧ x.1.2.2 ≤ 1000 ∧ x.1.2.1 - x.1.1 ≤ k) ((a, b, limit), true, true, d) ?_ ?_ ?_ ?_
  · exact ⟨hr.symm, hd, hab, hb, hlim, hk⟩
  · exact ⟨rfl, rfl, rfl, rfl, rfl, rfl, rfl, trivial⟩
  · (apply ent; (repeat constructor); done)
  clear hr hd hk hab hb hlim a b limit d
  rintro ⟨⟨a, b, limit⟩, wB, wP, d⟩ ⟨he, hd, hab, hb, hlim, hk⟩
  simp only at he hd hab hb hlim hk ⊢
  have hs := hd.1
  skip
  refine w_block (w_seq (wR ?_))
  refine lY (yM rfl) rfl ?_
  refine lY (yM rfl) rfl ?_
  refine lY (y_sub rfl rfl (by omega) (by omega)) rfl ?_
  refine lY (yA rfl) rfl ?_
  refine l_nil (aT ?_)
  obtain ⟨l, hl⟩ : ∃ l, l = b - a := ⟨_, rfl⟩
  refine w_eq 12 (.int .i64 ((l : Nat) : Int)) rfl (int_eq (by omega)) ?_
  refine w_seq (w_seq (wR ?_))
  refine lY (yM rfl) rfl ?_
  refine lY (y_le rfl rfl) rfl ?_
  refine l_nil (aT ?_)
  refine w_cond_d rfl (fun h1 => ?_) (fun h1 => ?_)
  · skip
    rw [pdq, if_pos (by omega)] at he
    refine w_seq (wR ?_)
    refine lY (yM rfl) rfl ?_
    refine lY (yM rfl) rfl ?_
    refine lY (yM rfl) rfl ?_
    refine lY (yM rfl) rfl ?_
    apply lL (by kernel_rfl) rfl
    apply ld_call (ct_insertionSort hE hf hc hd hab hb (by omega)) rfl (hE.f (by kernel_rfl))
    · ((repeat constructor); done)
    rintro _ _ ⟨rfl, rfl, hd2⟩
    simp only [List.cons_append, List.nil_append]
    rw [he] at hd2 ⊢
    refine l_nil (aT (w_ret (a_then_ret (a_block_ret (a_then_ret (a_block_ret ?_))))))
    apply a_ret
    · rfl
    · (exact Rs.nil)
    · exact ⟨rfl, rfl, hd2⟩
    · (apply ent; (repeat constructor); done)
  · skip
    refine w_skip (aT (w_seq (w_seq (wR ?_))))
    refine lY (yM rfl) rfl ?_
    refine lY (y_eq rfl rfl) rfl ?_
    refine l_nil (aT ?_)
    refine w_cond_d rfl (fun h2 => ?_) (fun h2 => ?_)
    · skip
      rw [pdq, if_neg (by omega), if_pos (by omega)] at he
      refine w_seq (wR ?_)
      refine lY (yM rfl) rfl ?_
      refine lY (yM rfl) rfl ?_
      refine lY (yM rfl) rfl ?_
      refine lY (yM rfl) rfl ?_
      apply lL (by kernel_rfl) rfl
      apply ld_call (ct_heapSort hE hf hc hd (by omega) hb (by omega)) rfl (hE.f (by kernel_rfl))
      · ((repeat constructor); done)
      rintro _ _ ⟨rfl, rfl, hd2⟩
      simp only [List.cons_append, List.nil_append]
      rw [he] at hd2 ⊢
      refine l_nil (aT (w_ret (a_then_ret (a_block_ret (a_then_ret (a_block_ret ?_))))))
      apply a_ret
      · rfl
      · (exact Rs.nil)
      · exact ⟨rfl, rfl, hd2⟩
      · (apply ent; (repeat constructor); done)
    · skip
      rw [pdq_round (by omega) (by omega)] at he
      obtain ⟨d1, hd1⟩ : ∃ d1, (if !wB then breakPatterns d a b else d) = d1 := ⟨_, rfl⟩
      obtain ⟨li, hli⟩ : ∃ li, (if !wB then limit - 1 else limit) = li := ⟨_, rfl⟩
      rw [hd1, hli] at he
      refine w_skip (aT ?_)
      refine w_cut (fun _ : Unit => [(0, .slice (some ⟨g, 0, none⟩) n c), (1, .int .i64 (a : Nat)), (2, .int .i64 (b : Nat)), (4, .func (.func fc) #[] ⟨caps⟩), (10, .bool wB), (11, .bool wP), (12, .int .i64 ((l : Nat) : Int)), (3, .int .i64 ((li : Nat) : Int))]) (fun _ => [sl (some ⟨g, 0, none⟩) c 27 1 n (dC d1), q, R]) (fun _ => OkD ok n d1 ∧ li ≤ 1000) ?_ ?_
      · skip
        refine w_seq (wR ?_)
        refine lY (yM rfl) rfl ?_
        refine lY (y_not rfl) rfl ?_
        refine l_nil (aT ?_)
        refine w_cond_b rfl (fun h3 => ?_) (fun h3 => ?_)
        · skip
          rw [if_pos h3] at hd1 hli
          refine w_seq (wR ?_)
          refine lY (yM rfl) rfl ?_
          refine lY (yM rfl) rfl ?_
          refine lY (yM rfl) rfl ?_
          refine lY (yM rfl) rfl ?_
          apply lL (by kernel_rfl) rfl
          apply ld_call (ct_breakPatterns hE hd (by omega) hb hn) rfl (hE.f (by kernel_rfl))
          · ((repeat constructor); done)
          rintro _ _ ⟨rfl, rfl, hd2⟩
          simp only [List.cons_append, List.nil_append]
          rw [hd1] at hd2 ⊢
          refine l_nil (aT (wR ?_))
          refine lY (yM rfl) rfl ?_
          refine lY (y_sub rfl rfl (by omega) (by omega)) rfl ?_
          refine lY (yA rfl) rfl ?_
          refine l_nil ?_
          refine a_cut () ⟨hd2, by omega⟩ ⟨rfl, rfl, rfl, rfl, rfl, rfl, rfl, congrArg some (int_eq (by omega)), trivial⟩ (by (apply ent; (repeat constructor); done))
        · skip
          rw [if_neg (by rw [h3]; simp)] at hd1 hli
          subst hd1 hli
          refine w_skip ?_
          refine a_cut () ⟨hd, by omega⟩ ⟨rfl, rfl, rfl, rfl, rfl, rfl, rfl, rfl, trivial⟩ (by (apply ent; (repeat constructor); done))
      rintro _ ⟨hdd, hli2⟩
      skip
      unfold pdqA at he
      obtain ⟨cp, hcp⟩ : ∃ cp, choosePivot (ltF cf) d1 a b = cp := ⟨_, rfl⟩
      have hcr := choosePivot_holds (ltF cf) d1 a b (by omega)
      rw [hcp] at hcr he
      simp only at he
      refine w_seq (wR ?_)
      refine lY (yM rfl) rfl ?_
      refine lY (yM rfl) rfl ?_
      refine lY (yM rfl) rfl ?_
      refine lY (yM rfl) rfl ?_
      apply lL (by kernel_rfl) rfl
      apply ld_call (ct_choosePivot hE hf hc hdd (by omega) hb (by omega)) rfl (hE.f (by kernel_rfl))
      · ((repeat constructor); done)
      rintro _ _ ⟨rfl, rfl⟩
      simp only [List.cons_append, List.nil_append]
      rw [hcp]
      obtain ⟨d2, hd2⟩ : ∃ d2, (if cp.2 = Hint.decreasing then reverseRange d1 a b else d1) = d2 := ⟨_, rfl⟩
      obtain ⟨pv, hpv⟩ : ∃ pv, (if cp.2 = Hint.decreasing then (b - 1) - (cp.1 - a) else cp.1) = pv := ⟨_, rfl⟩
      obtain ⟨hi, hhi⟩ : ∃ hi, (if cp.2 = Hint.decreasing then Hint.increasing else cp.2) = hi := ⟨_, rfl⟩
      rw [hd2, hpv, hhi] at he
      refine lY (yM rfl) rfl ?_
      refine lY (y_extract rfl rfl) rfl ?_
      refine lY (y_extract rfl rfl) rfl ?_
      refine lY (yA rfl) rfl ?_
      refine lY (yA rfl) rfl ?_
      refine l_nil (aT ?_)
      refine w_cut (fun _ : Unit => [(0, .slice (some ⟨g, 0, none⟩) n c), (1, .int .i64 (a : Nat)), (2, .int .i64 (b : Nat)), (4, .func (.func fc) #[] ⟨caps⟩), (10, .bool wB), (11, .bool wP), (12, .int .i64 ((l : Nat) : Int)), (3, .int .i64 ((li : Nat) : Int)), (13, .int .i64 ((pv : Nat) : Int)), (14, .int .i64 ((hintN hi : Nat) : Int))]) (fun _ => [sl (some ⟨g, 0, none⟩) c 27 1 n (dC d2), q, R]) (fun _ => OkD ok n d2 ∧ a ≤ pv ∧ pv < b) ?_ ?_
      · skip
        refine w_seq (wR ?_)
        refine lY (yM rfl) rfl ?_
        refine lY (y_eq rfl rfl) rfl ?_
        refine l_nil (aT ?_)
        refine w_cond_d rfl (fun h4 => ?_) (fun h4 => ?_)
        · skip
          have hde : cp.2 = .decreasing := hintN_dec (by omega)
          rw [if_pos hde] at hd2 hpv hhi
          refine w_seq (wR ?_)
          refine lY (yM rfl) rfl ?_
          refine lY (yM rfl) rfl ?_
          refine lY (yM rfl) rfl ?_
          refine lY (yM rfl) rfl ?_
          apply lL (by kernel_rfl) rfl
          apply ld_call (ct_reverseRange hE hdd (by omega) hb (by omega)) rfl (hE.f (by kernel_rfl))
          · ((repeat constructor); done)
          rintro _ _ ⟨rfl, rfl, hdr⟩
          simp only [List.cons_append, List.nil_append]
          rw [hd2] at hdr ⊢
          refine l_nil (aT (w_seq (wR ?_)))
          refine lY (yM rfl) rfl ?_
          refine lY (y_sub rfl rfl (by omega) (by omega)) rfl ?_
          refine lY (yM rfl) rfl ?_
          refine lY (yM rfl) rfl ?_
          refine lY (y_sub rfl rfl (by omega) (by omega)) rfl ?_
          refine lY (y_sub rfl rfl (by omega) (by omega)) rfl ?_
          refine lY (yA rfl) rfl ?_
          refine l_nil (aT (wR ?_))
          refine lY (yA rfl) rfl ?_
          refine l_nil ?_
          refine a_cut () ⟨hdr, by omega, by omega⟩ ⟨rfl, rfl, rfl, rfl, rfl, rfl, rfl, rfl, congrArg some (int_eq (by omega)), by subst hhi; rfl, trivial⟩ (by (apply ent; (repeat constructor); done))
        · skip
          have hde : ¬ cp.2 = .decreasing := fun e => h4 (by rw [e]; rfl)
          rw [if_neg hde] at hd2 hpv hhi
          subst hd2 hpv hhi
          refine w_skip ?_
          refine a_cut () ⟨hdd, hcr.1, hcr.2⟩ ⟨rfl, rfl, rfl, rfl, rfl, rfl, rfl, rfl, rfl, rfl, trivial⟩ (by (apply ent; (repeat constructor); done))
      rintro _ ⟨hdd2, hpv1, hpv2⟩
      skip
      unfold pdqB at he
      obtain ⟨pi, hpi⟩ : ∃ pi, (if wB && wP && decide (hi = Hint.increasing) then partialInsertionSort (ltF cf) d2 a b else (d2, false)) = pi := ⟨_, rfl⟩
      rw [hpi] at he
      skip
      refine w_cut (fun _ : Unit => [(0, .slice (some ⟨g, 0, none⟩) n c), (1, .int .i64 (a : Nat)), (2, .int .i64 (b : Nat)), (4, .func (.func fc) #[] ⟨caps⟩), (10, .bool wB), (11, .bool wP), (12, .int .i64 ((l : Nat) : Int)), (3, .int .i64 ((li : Nat) : Int)), (13, .int .i64 ((pv : Nat) : Int))]) (fun _ => [sl (some ⟨g, 0, none⟩) c 27 1 n (dC pi.1), q, R]) (fun _ => OkD ok n pi.1 ∧ pi.2 = false) ?_ ?_
      · skip
        refine w_seq (wR ?_)
        refine lY (yM rfl) rfl ?_
        refine lY (yM rfl) rfl ?_
        refine l_splitb 69 rfl (fun h5 => ?_) (fun h5 => ?_)
        · skip
          refine l_on rfl rfl ?_
          refine lY (yM rfl) rfl ?_
          apply lY
          · (first | exact y_pick_t rfl rfl | exact y_pick_f rfl rfl)
          · rfl
          refine lY (yM rfl) rfl ?_
          refine l_splitb 72 rfl (fun h6 => ?_) (fun h6 => ?_)
          · skip
            refine l_on rfl rfl ?_
            refine lY (yM rfl) rfl ?_
            refine l_on rfl rfl ?_
            refine lY (y_eq rfl rfl) rfl ?_
            apply lY
            · (first | exact y_pick_t rfl rfl | exact y_pick_f rfl rfl)
            · rfl
            refine l_nil (aT ?_)
            refine w_cond_d rfl (fun h7 => ?_) (fun h7 => ?_)
            · skip
              have hin : hi = .increasing := hintN_inc (by omega)
              rw [if_pos (by rw [h5, h6, hin]; rfl)] at hpi
              refine w_seq (wR ?_)
              refine lY (yM rfl) rfl ?_
              refine lY (yM rfl) rfl ?_
              refine lY (yM rfl) rfl ?_
              refine lY (yM rfl) rfl ?_
              apply lL (by kernel_rfl) rfl
              apply ld_call (ct_partialInsertion hE hf hc hdd2 (by omega) hb (by omega)) rfl (hE.f (by kernel_rfl))
              · ((repeat constructor); done)
              rintro _ _ ⟨rfl, rfl, hdp⟩
              simp only [List.cons_append, List.nil_append]
              rw [hpi] at hdp ⊢
              refine l_nil (aT ?_)
              refine w_cond_b rfl (fun h8 => ?_) (fun h8 => ?_)
              · skip
                rw [if_pos h8] at he
                subst he
                refine w_ret (a_then_ret (a_block_ret (a_then_ret (a_block_ret ?_))))
                apply a_ret
                · rfl
                · (exact Rs.nil)
                · exact ⟨rfl, rfl, hdp⟩
                · (apply ent; (repeat constructor); done)
              · skip
                refine w_skip ?_
                refine a_cut () ⟨hdp, h8⟩ ⟨rfl, rfl, rfl, rfl, rfl, rfl, rfl, rfl, rfl, trivial⟩ (by (apply ent; (repeat constructor); done))
            · skip
              rw [if_neg (by intro e; simp at e; rw [e.2] at h7; exact h7 rfl)] at hpi
              subst hpi
              refine w_skip ?_
              refine a_cut () ⟨hdd2, rfl⟩ ⟨rfl, rfl, rfl, rfl, rfl, rfl, rfl, rfl, rfl, trivial⟩ (by (apply ent; (repeat constructor); done))
          · skip
            rw [if_neg (by intro e; simp at e; rw [h6] at e; simp at e)] at hpi
            subst hpi
            refine l_off rfl rfl rfl rfl (l_off rfl rfl rfl rfl ?_)
            apply lY
            · (first | exact y_pick_t rfl rfl | exact y_pick_f rfl rfl)
            · rfl
            refine l_nil (aT ?_)
            refine w_cond_f rfl ?_
            refine w_skip ?_
            refine a_cut () ⟨hdd2, rfl⟩ ⟨rfl, rfl, rfl, rfl, rfl, rfl, rfl, rfl, rfl, trivial⟩ (by (apply ent; (repeat constructor); done))
        · skip
          rw [if_neg (by intro e; simp at e; rw [h5] at e; simp at e)] at hpi
          subst hpi
          refine l_off rfl rfl rfl rfl ?_
          apply lY
          · (first | exact y_pick_t rfl rfl | exact y_pick_f rfl rfl)
          · rfl
          refine lY (yM rfl) rfl ?_
          skip
          refine l_off rfl rfl rfl rfl (l_off rfl rfl rfl rfl ?_)
          apply lY
          · (first | exact y_pick_t rfl rfl | exact y_pick_f rfl rfl)
          · rfl
          refine l_nil (aT ?_)
          refine w_cond_f rfl ?_
          refine w_skip ?_
          refine a_cut () ⟨hdd2, rfl⟩ ⟨rfl, rfl, rfl, rfl, rfl, rfl, rfl, rfl, rfl, trivial⟩ (by (apply ent; (repeat constructor); done))
      rintro _ ⟨hdp, hpf⟩
      skip
      rw [if_neg (by rw [hpf]; simp)] at he
      obtain ⟨d3, hd3⟩ : ∃ d3, pi.1 = d3 := ⟨_, rfl⟩
      rw [hd3] at he hdp ⊢
      clear hpi hpf hd3 hd2 hpv hhi hd1 hli
      have hs3 := hdp.1
      unfold pdqC at he
      skip
      refine w_cut (fun _ : Unit => [(0, .slice (some ⟨g, 0, none⟩) n c), (1, .int .i64 (a : Nat)), (2, .int .i64 (b : Nat)), (4, .func (.func fc) #[] ⟨caps⟩), (10, .bool wB), (11, .bool wP), (12, .int .i64 ((l : Nat) : Int)), (3, .int .i64 ((li : Nat) : Int)), (13, .int .i64 ((pv : Nat) : Int))]) (fun _ => [sl (some ⟨g, 0, none⟩) c 27 1 n (dC d3), q, R]) (fun _ => ¬ (decide (a > 0) && !ltF cf d3[a - 1]! d3[pv]!) = true) ?_ ?_
      · skip
        refine w_seq (w_draws (by kernel_rfl) ?_)
        refine lY (yM rfl) rfl ?_
        refine lY (y_gt rfl rfl) rfl ?_
        refine lY (yM rfl) rfl ?_
        refine l_split 83 rfl (fun h9 => ?_) (fun h9 => ?_)
        · skip
          have f0 := dC_get d3 (i := a - 1) (by omega) ((a : Int) - 1).toNat (by omega)
          have f1 := dC_get d3 (i := pv) (by omega) ((pv : Int)).toNat (by omega)
          have hcc := hc _ _ (hdp.2 (a - 1) (by omega)) (hdp.2 pv (by omega))
          refine l_on rfl rfl ?_
          refine lY (yM rfl) rfl ?_
          refine l_on rfl rfl ?_
          refine lY (yM rfl) rfl ?_
          refine l_on rfl rfl ?_
          refine lY (yM rfl) rfl ?_
          refine l_on rfl rfl ?_
          refine lY (y_sub rfl rfl (by omega) (by omega)) rfl ?_
          refine l_on rfl rfl ?_
          apply lY
          · (first | exact y_indexAddr1 rfl rfl (hE.t rfl) (by omega) (by omega) | exact y_indexAddr rfl rfl (hE.t rfl) (by omega) (by omega))
          · rfl
          refine l_on rfl rfl ?_
          apply lY
          · (apply y_load rfl (hE.t rfl) rfl; (repeat (first | rfl | assumption | constructor)); done)
          · rfl
          refine l_on rfl rfl ?_
          refine lY (yM rfl) rfl ?_
          refine l_on rfl rfl ?_
          refine lY (yM rfl) rfl ?_
          refine l_on rfl rfl ?_
          apply lY
          · (first | exact y_indexAddr1 rfl rfl (hE.t rfl) (by omega) (by omega) | exact y_indexAddr rfl rfl (hE.t rfl) (by omega) (by omega))
          · rfl
          refine l_on rfl rfl ?_
          apply lY
          · (apply y_load rfl (hE.t rfl) rfl; (repeat (first | rfl | assumption | constructor)); done)
          · rfl
          refine l_on rfl rfl ?_
          apply lL (by kernel_rfl) rfl
          apply ld_callv (hx := rfl) (ha := rfl) (hf := hf)
          · exact hcc
          · ((repeat constructor); done)
          rintro _ _ ⟨rfl, rfl⟩
          simp only [List.cons_append, List.nil_append]
          refine l_on rfl rfl ?_
          refine lY (y_lt rfl rfl) rfl ?_
          refine l_on rfl rfl ?_
          refine lY (y_not rfl) rfl ?_
          apply lY
          · (first | exact y_pick_t rfl rfl | exact y_pick_f rfl rfl)
          · rfl
          refine l_nil (aT ?_)
          refine w_cond_nd rfl (fun g9 => ?_) (fun g9 => ?_)
          · skip
            rw [if_pos (by simp [ltF, g9]; omega)] at he
            have hsz := Go.Sort.size_swp d3 a pv
            have hrg := partEqLoop_spec (ltF cf) a b _ (a + 1) (b - 1) (swp d3 a pv) (Nat.le_refl _) (by omega) (by omega) (by omega) (by omega) (fun t h1 h2 => by omega) (fun t h1 h2 => by omega)
            obtain ⟨pq, hpq⟩ : ∃ pq, partitionEqual (ltF cf) d3 a b pv = pq := ⟨_, rfl⟩
            have hrg1 : a < pq.1 ∧ pq.1 ≤ b := by rw [← hpq]; exact ⟨hrg.1, hrg.2.1⟩
            rw [hpq] at he
            obtain ⟨md, dq⟩ := pq
            simp only at he hrg1
            rw [dif_pos hrg1] at he
            refine w_seq (wR ?_)
            refine lY (yM rfl) rfl ?_
            refine lY (yM rfl) rfl ?_
            refine lY (yM rfl) rfl ?_
            refine lY (yM rfl) rfl ?_
            refine lY (yM rfl) rfl ?_
            apply lL (by kernel_rfl) rfl
            apply ld_call (ct_partitionEqual hE hf hc hdp hpv1 hpv2 hb (by omega)) rfl (hE.f (by kernel_rfl))
            · ((repeat constructor); done)
            rintro _ _ ⟨rfl, rfl, hdq⟩
            simp only [List.cons_append, List.nil_append]
            rw [hpq] at hdq ⊢
            refine lY (yA rfl) rfl ?_
            refine l_nil (aT (w_seq (wR ?_)))
            refine lY (yM rfl) rfl ?_
            refine lY (yA rfl) rfl ?_
            refine l_nil (aT (w_exit (a_then_exit (a_block_exit ?_))))
            refine a_round (ι := (Nat × Nat × Nat) × Bool × Bool × Array Nat) (j := ((md, b, li), wB, wP, dq)) ⟨he, hdq, hrg1.2, hb, hli2, by show b - md ≤ k; omega⟩ (by show b - md < b - a; omega) ⟨rfl, rfl, rfl, rfl, rfl, rfl, rfl, trivial⟩ (by (apply ent; (repeat constructor); done))
          · skip
            refine w_skip ?_
            refine a_cut () (by simp [ltF, g9]) ⟨rfl, rfl, rfl, rfl, rfl, rfl, rfl, rfl, rfl, trivial⟩ (by (apply ent; (repeat constructor); done))
        · skip
          refine l_off rfl rfl rfl rfl (l_off rfl rfl rfl rfl (l_off rfl rfl rfl rfl (l_off rfl rfl rfl rfl (l_off rfl rfl rfl rfl (l_off rfl rfl rfl rfl (l_off rfl rfl rfl rfl (l_off rfl rfl rfl rfl ?_)))))))
          refine l_off rfl rfl rfl rfl (l_off rfl rfl rfl rfl (l_off rfl rfl rfl rfl (l_off rfl rfl rfl rfl (l_off rfl rfl rfl rfl ?_))))
          apply lY
          · (first | exact y_pick_t rfl rfl | exact y_pick_f rfl rfl)
          · rfl
          refine l_nil (aT ?_)
          refine w_cond_f rfl ?_
          refine w_skip ?_
          refine a_cut () (by simp; omega) ⟨rfl, rfl, rfl, rfl, rfl, rfl, rfl, rfl, rfl, trivial⟩ (by (apply ent; (repeat constructor); done))
      intro _ hno
      skip
      rw [if_neg hno] at he
      obtain ⟨pt, hpt⟩ : ∃ pt, partition (ltF cf) d3 a b pv = pt := ⟨_, rfl⟩
      have hrg := partition_holds (ltF cf) hO d3 a b pv hpv1 hpv2 (by omega)
      rw [hpt] at he hrg
      have hr1 := hrg.1
      have hr2 := hrg.2.1
      clear hrg hno
      obtain ⟨mid, al, d4⟩ := pt
      simp only at he hr1 hr2
      rw [dif_pos ⟨hr1, hr2⟩] at he
      refine w_seq (wR ?_)
      refine lY (yM rfl) rfl ?_
      refine lY (yM rfl) rfl ?_
      refine lY (yM rfl) rfl ?_
      refine lY (yM rfl) rfl ?_
      refine lY (yM rfl) rfl ?_
      apply lL (by kernel_rfl) rfl
      apply ld_call (ct_partition hE hf hc hdp hpv1 hpv2 hb (by omega)) rfl (hE.f (by kernel_rfl))
      · ((repeat constructor); done)
      rintro _ _ ⟨rfl, rfl, hdq⟩
      simp only [List.cons_append, List.nil_append]
      rw [hpt] at hdq ⊢
      refine lY (yM rfl) rfl ?_
      refine lY (y_extract rfl rfl) rfl ?_
      refine lY (y_extract rfl rfl) rfl ?_
      refine lY (yA rfl) rfl ?_
      refine lY (yA rfl) rfl ?_
      refine l_nil (aT (w_seq (wR ?_)))
      refine lY (yM rfl) rfl ?_
      refine lY (yA rfl) rfl ?_
      refine l_nil (aT (w_seq (wR ?_)))
      refine lY (yM rfl) rfl ?_
      refine lY (yM rfl) rfl ?_
      refine lY (y_sub rfl rfl (by omega) (by omega)) rfl ?_
      refine lY (yM rfl) rfl ?_
      refine lY (yM rfl) rfl ?_
      refine lY (y_sub rfl rfl (by omega) (by omega)) rfl ?_
      refine lY (yA rfl) rfl ?_
      refine lY (yA rfl) rfl ?_
      refine l_nil (aT (w_seq (wR ?_)))
      refine lY (yM rfl) rfl ?_
      refine lY (y_quo rfl rfl (by omega) (by omega) (by omega)) rfl ?_
      refine lY (yA rfl) rfl ?_
      refine l_nil (aT (w_seq (wR ?_)))
      refine lY (yM rfl) rfl ?_
      refine lY (yM rfl) rfl ?_
      refine lY (y_lt rfl rfl) rfl ?_
      refine l_nil (aT ?_)
      refine w_cond_d rfl (fun h10 => ?_) (fun h10 => ?_)
      · skip
        rw [if_pos (by omega)] at he
        refine w_seq (wR ?_)
        refine lY (yM rfl) rfl ?_
        refine lY (yM rfl) rfl ?_
        refine lY (y_ge rfl rfl) rfl ?_
        refine lY (yA rfl) rfl ?_
        refine l_nil (aT ?_)
        refine w_eq 10 (.bool (decide (mid - a ≥ (b - a) / 8))) rfl (congrArg Value.bool (decide_eq_decide.2 (by omega))) ?_
        refine w_seq (wR ?_)
        refine lY (yM rfl) rfl ?_
        refine lY (yM rfl) rfl ?_
        refine lY (yM rfl) rfl ?_
        refine lY (yM rfl) rfl ?_
        refine lY (yM rfl) rfl ?_
        apply lL (by kernel_rfl) rfl
        apply ld_call (ih (mid - a) (by omega) hdq (Nat.le_refl _) hr1 (by omega) hli2) rfl (hE.f (by kernel_rfl))
        · ((repeat constructor); done)
        rintro _ _ ⟨rfl, rfl, hdz⟩
        simp only [List.cons_append, List.nil_append]
        refine l_nil (aT (wR ?_))
        refine lY (yM rfl) rfl ?_
        refine lY (y_add rfl rfl (by omega) (by omega)) rfl ?_
        refine lY (yA rfl) rfl ?_
        refine l_nil (a_block ?_)
        refine a_round (ι := (Nat × Nat × Nat) × Bool × Bool × Array Nat) (j := ((mid + 1, b, li), decide (mid - a ≥ (b - a) / 8), al, pdq (ltF cf) d4 a mid li true true)) ⟨he, hdz, by show mid + 1 ≤ b; omega, hb, hli2, by show b - (mid + 1) ≤ k; omega⟩ (by show b - (mid + 1) < b - a; omega) ⟨rfl, congrArg some (int_eq (by simp only; omega)), rfl, rfl, rfl, rfl, rfl, trivial⟩ (by (apply ent; (repeat constructor); done))
      · skip
        rw [if_neg (by omega)] at he
        refine w_seq (wR ?_)
        refine lY (yM rfl) rfl ?_
        refine lY (yM rfl) rfl ?_
        refine lY (y_ge rfl rfl) rfl ?_
        refine lY (yA rfl) rfl ?_
        refine l_nil (aT ?_)
        refine w_eq 10 (.bool (decide (b - mid ≥ (b - a) / 8))) rfl (congrArg Value.bool (decide_eq_decide.2 (by omega))) ?_
        refine w_seq (wR ?_)
        refine lY (yM rfl) rfl ?_
        refine lY (yM rfl) rfl ?_
        refine lY (y_add rfl rfl (by omega) (by omega)) rfl ?_
        refine lY (yM rfl) rfl ?_
        refine lY (yM rfl) rfl ?_
        refine lY (yM rfl) rfl ?_
        refine l_eq 142 (.int .i64 ((mid + 1 : Nat) : Int)) rfl (int_eq (by omega)) ?_
        apply lL (by kernel_rfl) rfl
        apply ld_call (ih (b - (mid + 1)) (by omega) hdq (Nat.le_refl _) (by omega) hb hli2) rfl (hE.f (by kernel_rfl))
        · ((repeat constructor); done)
        rintro _ _ ⟨rfl, rfl, hdz⟩
        simp only [List.cons_append, List.nil_append]
        refine l_nil (aT (wR ?_))
        refine lY (yM rfl) rfl ?_
        refine lY (yA rfl) rfl ?_
        refine l_nil (a_block ?_)
        refine a_round (ι := (Nat × Nat × Nat) × Bool × Bool × Array Nat) (j := ((a, mid, li), decide (b - mid ≥ (b - a) / 8), al, pdq (ltF cf) d4 (mid + 1) b li true true)) ⟨he, hdz, hr1, by show mid ≤ n; omega, hli2, by show mid - a ≤ k; omega⟩ (by show mid - a < b - a; omega) ⟨rfl, rfl, rfl, rfl, rfl, rfl, rfl, trivial⟩ (by (apply ent; (repeat constructor); done))
end Go.Proofs.YtekhbjlplfbdkaaGreatDoor
namespace Go.Proofs.YtekhbjlplfbdkaaGreatDoor
open Go Go.RowKit Sl Eg
set_option maxRecDepth 10000
variable {E : Env} {Es : List Ent} {pp tb s most : Nat}
theorem rd_sl2 {w0 : World} {g c m : Nat} {vs xs : List Value} {t : TypeId} (h : ∀ (i : Nat) (v : Value), vs[i]? = some v → xs[i]? = some v) : ∀ k, sl (some ⟨g, 0, none⟩) c t 1 m xs k → RdAt w0 g 0 vs k := fun k hk i v hv => by
  obtain ⟨_, h1 | ⟨g', cur, h1, h2, h3, h4, h5, h6⟩⟩ := hk
  · cases h1.1
  · cases h1
    refine .inr ⟨cur, t, (0, 0), h2, ?_⟩
    have hx := h i v hv
    rw [← h6, List.getElem?_take] at hx
    split at hx
    · rw [Nat.zero_add]; simpa using hx
    · cases hx
theorem idC_oneJ (ids : List Nat) : ∀ u ∈ idC ids, u.oneCell' = true := fun u h => by
  obtain ⟨x, _, rfl⟩ := List.mem_map.1 h; rfl
theorem ct_cloneJ (hE : Seat E) {g c : Nat} {ids : List Nat} (h0 : 0 < ids.length) (hl : ids.length < 1000000) :
    Ct E 37 [.slice (some ⟨g, 0, none⟩) ids.length c] [sl (some ⟨g, 0, none⟩) c 27 1 ids.length (idC ids)]
      (fun v Q => ∃ g' c', v = .slice (some ⟨g', 0, none⟩) ids.length c' ∧ Q = [sl (some ⟨g', 0, none⟩) c' 27 1 ids.length (idC ids), sl (some ⟨g, 0, none⟩) c 27 1 ids.length (idC ids)]) := by
  refine fn_enter (hE.fn Tryz.func37) rfl rfl rfl (fun R => ?_)
  simp only [argsL, List.cons_append, List.nil_append]
  refine w_seq (wR ?_)
  refine lY (yA rfl) rfl ?_
  refine l_nil (aT (w_seq (w_seq (wR ?_))))
  refine lY (yM rfl) rfl ?_
  refine lY (y_eq_sl rfl (hE.t rfl)) rfl ?_
  refine l_nil (aT ?_)
  refine w_cond_f rfl ?_
  refine w_skip (aT (w_seq (wR ?_)))
  apply lL (by kernel_rfl) rfl
  refine ld_buildSlice0 (hE.t rfl) (fun b5 => ?_)
  refine lY (yM rfl) rfl ?_
  apply lL (by kernel_rfl) rfl
  apply ld_append_sl (hE.t rfl) (hE.t rfl) rfl rfl rfl
  · ((repeat constructor); done)
  · ((repeat constructor); done)
  · exact idC_oneJ ids
  · exact h0
  · omega
  · unfold maxLen; omega
  intro g' c' m' xs' hm hx
  obtain rfl : m' = ids.length := by omega
  obtain rfl : xs' = idC ids := by rw [hx]; rfl
  refine lY (yA rfl) rfl ?_
  refine l_nil (aT (w_ret ?_))
  apply a_ret
  · rfl
  · (apply Rs.tmp rfl; exact Rs.nil)
  · exact ⟨g', c', rfl, rfl⟩
  · (apply ent; (repeat constructor); done)
section
variable {fc : FuncId} {caps : List Value} {q : HP} {ok : Nat → Prop} {cf : Nat → Nat → Int} {g c n : Nat}
open Go.Sort in
theorem ct_SortFunc (hE : Seat E) (hf : goFn E.P fc = true) (hc : Cmp E fc caps q ok cf) (hO : SWO (ltF cf)) (hn : n < 65536) {d : Array Nat} (hd : OkD ok n d) :
    Ct E 38 [.slice (some ⟨g, 0, none⟩) n c, .func (.func fc) #[] ⟨caps⟩] [sl (some ⟨g, 0, none⟩) c 27 1 n (dC d), q]
      (fun v Q => ∃ d', v = .tuple #[] ∧ Q = [sl (some ⟨g, 0, none⟩) c 27 1 n (dC d'), q] ∧ OkD ok n d' ∧ d'.toList.Perm d.toList ∧ SortedIn (ltF cf) 0 n d') := by
  have hb := bitsLen_16 hn
  have hs := hd.1
  have hl := pdq_sorts (ltF cf) hO d 0 n (bitsLen n) true true (Nat.zero_le _) (by omega) (.inl rfl)
  obtain ⟨⟨p1, p2, p3⟩, hl2⟩ := hl
  have hx : ∀ e : Array Nat, e.size = n → e.extract 0 n = e := fun e h => by subst h; simp
  rw [hx d hs, hx _ (p1.trans hs)] at p3
  refine fn_enter (hE.fn Tryz.func38) rfl rfl rfl (fun R => ?_)
  simp only [argsL, List.cons_append, List.nil_append]
  refine w_seq (wR ?_)
  refine lY (yM rfl) rfl ?_
  refine lY (y_len_slice rfl (hE.t rfl)) rfl ?_
  refine lY (yA rfl) rfl ?_
  refine l_nil (aT (wR ?_))
  refine lY (yM rfl) rfl ?_
  refine lY (yM rfl) rfl ?_
  refine lY (yM rfl) rfl ?_
  refine lY (y_conv rfl (hE.t rfl) (hE.t rfl) (by first | exact wrap_in (by omega) (by omega) | exact wrap_uu (by omega) (by omega))) rfl ?_
  apply lL (by kernel_rfl) rfl
  apply ld_call (ct_bitsLen hE hn) rfl (hE.f (by kernel_rfl))
  · ((repeat constructor); done)
  rintro _ _ ⟨rfl, rfl⟩
  simp only [List.cons_append, List.nil_append]
  refine lY (yM rfl) rfl ?_
  apply lL (by kernel_rfl) rfl
  apply ld_call (ct_pdq (a := 0) (b := n) (limit := bitsLen n) hE hf hc hO hn n hd (by omega) (Nat.zero_le _) (Nat.le_refl _) (by omega)) rfl (hE.f (by kernel_rfl))
  · ((repeat constructor); done)
  rintro _ _ ⟨rfl, rfl, hd2⟩
  simp only [List.cons_append, List.nil_append]
  refine l_nil ?_
  apply a_end
  · rfl
  · (exact Rs.nil)
  · exact ⟨_, rfl, rfl, hd2, p3, hl2⟩
  · (apply ent; (repeat constructor); done)
end
theorem ct_ins_nil (hE : Seat E) {C : Value} : Ct E 97 [.slice none 0 0, .int .i64 0, .int .i64 0, C] [] (fun v Q => v = .tuple #[] ∧ Q = []) := by
  refine fn_enter (hE.fn Tryz.func97) rfl rfl rfl (fun R => ?_)
  simp only [argsL, List.cons_append, List.nil_append]
  refine w_seq (wR ?_)
  refine lY (yM rfl) rfl ?_
  refine lY (y_add rfl rfl (by omega) (by omega)) rfl ?_
  refine lY (yA rfl) rfl ?_
  refine l_nil (aT (w_block ?_))
  refine w_rounds 1 ?_
  refine r_succ ?_
  refine w_seq (w_seq (wR ?_))
  refine lY (yM rfl) rfl ?_
  refine lY (yM rfl) rfl ?_
  refine lY (y_lt rfl rfl) rfl ?_
  refine l_nil (aT ?_)
  refine w_cond_f rfl ?_
  refine w_exit (a_then_exit (a_then_exit (a_block_exit ?_)))
  apply a_end
  · rfl
  · (exact Rs.nil)
  · exact ⟨rfl, rfl⟩
  · (apply ent; (repeat constructor); done)
theorem ct_pdq_nil (hE : Seat E) {C : Value} {l : Int} : Ct E 67 [.slice none 0 0, .int .i64 0, .int .i64 0, .int .i64 l, C] [] (fun v Q => v = .tuple #[] ∧ Q = []) := by
  refine fn_enter (hE.fn Tryz.func67) rfl rfl rfl (fun R => ?_)
  simp only [argsL, List.cons_append, List.nil_append]
  refine w_seq (wR ?_)
  refine lY (yA rfl) rfl ?_
  refine l_nil (aT (w_seq (wR ?_)))
  refine lY (yA rfl) rfl ?_
  refine l_nil (aT (w_block ?_))
  refine w_rounds 1 ?_
  refine r_succ ?_
  refine w_block (w_seq (wR ?_))
  refine lY (yM rfl) rfl ?_
  refine lY (yM rfl) rfl ?_
  refine lY (y_sub rfl rfl (by omega) (by omega)) rfl ?_
  refine lY (yA rfl) rfl ?_
  refine l_nil (aT (w_seq (w_seq (wR ?_))))
  refine lY (yM rfl) rfl ?_
  refine lY (y_le rfl rfl) rfl ?_
  refine l_nil (aT ?_)
  refine w_cond_t rfl ?_
  refine w_seq (wR ?_)
  refine lY (yM rfl) rfl ?_
  refine lY (yM rfl) rfl ?_
  refine lY (yM rfl) rfl ?_
  refine lY (yM rfl) rfl ?_
  apply lL (by kernel_rfl) rfl
  apply ld_call (ct_ins_nil hE) rfl (hE.f (by kernel_rfl))
  · ((repeat constructor); done)
  rintro _ _ ⟨rfl, rfl⟩
  simp only [List.cons_append, List.nil_append]
  refine l_nil (aT (w_ret (a_then_ret (a_block_ret (a_then_ret (a_block_ret ?_))))))
  apply a_ret
  · rfl
  · (exact Rs.nil)
  · exact ⟨rfl, rfl⟩
  · (apply ent; (repeat constructor); done)
theorem ct_SortFunc_nil (hE : Seat E) {C : Value} : Ct E 38 [.slice none 0 0, C] [] (fun v Q => v = .tuple #[] ∧ Q = []) := by
  refine fn_enter (hE.fn Tryz.func38) rfl rfl rfl (fun R => ?_)
  simp only [argsL, List.cons_append, List.nil_append]
  refine w_seq (wR ?_)
  refine lY (yM rfl) rfl ?_
  refine lY (y_len_slice rfl (hE.t rfl)) rfl ?_
  refine lY (yA rfl) rfl ?_
  refine l_nil (aT (wR ?_))
  refine lY (yM rfl) rfl ?_
  refine lY (yM rfl) rfl ?_
  refine lY (yM rfl) rfl ?_
  refine lY (y_conv rfl (hE.t rfl) (hE.t rfl) (by first | exact wrap_in (by omega) (by omega) | exact wrap_uu (by omega) (by omega))) rfl ?_
  apply lL (by kernel_rfl) rfl
  apply ld_call (ct_bitsLen (k := 0) hE (by decide)) rfl (hE.f (by kernel_rfl))
  · ((repeat constructor); done)
  rintro _ _ ⟨rfl, rfl⟩
  simp only [List.cons_append, List.nil_append]
  refine lY (yM rfl) rfl ?_
  apply lL (by kernel_rfl) rfl
  apply ld_call (ct_pdq_nil hE) rfl (hE.f (by kernel_rfl))
  · ((repeat constructor); done)
  rintro _ _ ⟨rfl, rfl⟩
  simp only [List.cons_append, List.nil_append]
  refine l_nil ?_
  apply a_end
  · rfl
  · (exact Rs.nil)
  · exact ⟨rfl, rfl⟩
  · (apply ent; (repeat constructor); done)
theorem ct_Sort1 (hE : Seat E) (hB : Base E.w0) {x y b2 : Nat} (hx : good (rls Es) x ∧ len (rls Es) x ≤ 4000000) (hy : good (rls Es) y ∧ len (rls Es) y ≤ 4000000) :
    Ct E 39 [.int .i64 (x : Nat), .int .i64 (y : Nat), .pointer (some ⟨b2, 0, none⟩)] [cells b2 [.pointer (some ⟨pp, 0, none⟩)] 22, cells pp [.pointer (some ⟨s, 0, none⟩), .pointer (some ⟨tb, 0, none⟩)] 59, tabP tb s (rls Es), storeP s most Es] (fun v Q => v = .int .i64 (cmpT (txt (rls Es) x) (txt (rls Es) y)) ∧ Q = [cells b2 [.pointer (some ⟨pp, 0, none⟩)] 22, cells pp [.pointer (some ⟨s, 0, none⟩), .pointer (some ⟨tb, 0, none⟩)] 59, tabP tb s (rls Es), storeP s most Es]) := by
  have h1 := hx.2
  have h2 := hy.2
  refine fn_enter (hE.fn Tryz.func39) rfl rfl rfl (fun R => ?_)
  simp only [argsL, List.cons_append, List.nil_append]
  refine w_seq (wR ?_)
  refine lY (yA rfl) rfl ?_
  refine l_nil (aT (w_seq (wR ?_)))
  apply lY
  · (first | (apply y_load rfl (hE.t rfl) rfl; (repeat (first | rfl | assumption | constructor)); done) | exact y_load_old rfl (hE.t rfl) rfl (by assumption) | (apply y_load_ro rfl (hE.t rfl) rfl; (focus ((repeat constructor); done)); (focus assumption)) | (apply y_load_q rfl (hE.t rfl) rfl (by assumption); (focus ((repeat constructor); done)); (first | ((focus exact f0); (focus omega)) | ((focus exact f1); (focus omega)) | ((focus assumption); (focus omega)))))
  · rfl
  refine lY (yM rfl) rfl ?_
  refine lY (yM rfl) rfl ?_
  apply lL (by kernel_rfl) rfl
  apply ld_call (ct_compare hE hB hx.1 hy.1 (by omega)) rfl (hE.f (by kernel_rfl))
  · ((repeat constructor); done)
  rintro _ _ ⟨rfl, rfl⟩
  simp only [List.cons_append, List.nil_append]
  refine lY (yA rfl) rfl ?_
  refine l_nil (aT (w_ret ?_))
  apply a_ret
  · rfl
  · (apply Rs.tmp rfl; exact Rs.nil)
  · exact ⟨rfl, rfl⟩
  · (apply ent; (repeat constructor); done)
theorem swo_txt (L : List Rl) : Go.Sort.SWO (ltF fun x y => cmpT (txt L x) (txt L y)) where
  irrefl x := by simp [ltF, cmpT_self]
  trans x y z h1 h2 := by
    simp only [ltF, decide_eq_true_eq] at h1 h2 ⊢
    have h3 := cmpT_trans (A := txt L x) (B := txt L y) (C := txt L z) (by omega) (by omega)
    have h4 : cmpT (txt L x) (txt L z) ≠ 0 := fun e => by
      have e := cmpT_zero.1 e
      rw [e] at h1
      have := cmpT_swap (txt L y) (txt L z)
      omega
    omega
  ntrans x y z h1 h2 := by
    simp only [ltF, decide_eq_false_iff_not, Int.not_lt] at h1 h2 ⊢
    have e1 := cmpT_swap (txt L x) (txt L y)
    have e2 := cmpT_swap (txt L y) (txt L z)
    have e3 := cmpT_swap (txt L x) (txt L z)
    have := cmpT_trans (A := txt L z) (B := txt L y) (C := txt L x) (by omega) (by omega)
    omega
theorem ct_spread2 {f : FuncId} {args : List Value} {p : HP} {l : List HP} {Φ : Value → HP → Prop} (h : Ct E f args [p, stars l] (fun v Q => ∃ p', Φ v p' ∧ Q = [p', stars l])) : Ct E f args (p :: l) (fun v Q => ∃ p', Φ v p' ∧ Q = p' :: l) := fun R w s =>
  (h R w (s.imp fun _ => stars_cons (fun _ => stars_pack (fun _ x => x)))).mono fun e w' ⟨v, Qs, h1, ⟨p', h2, h3⟩, h4⟩ => ⟨v, p' :: l, h1, ⟨p', h2, rfl⟩, by subst h3; exact h4.imp fun _ => stars_cons (fun _ => stars_unpack (ps := l) (r := [R]) (p := stars l) (fun _ x => x))⟩
theorem ct_Sort (hE : Seat E) (hB : Base E.w0) {ids : List Nat} (hg : ∀ x ∈ ids, good (rls Es) x) (hgl : ∀ x ∈ ids, len (rls Es) x ≤ 4000000) (h0 : 0 < ids.length) (hn : ids.length < 65536) {g c : Nat} :
    Ct E 17 [.pointer (some ⟨pp, 0, none⟩), .slice (some ⟨g, 0, none⟩) ids.length c] [cells pp [.pointer (some ⟨s, 0, none⟩), .pointer (some ⟨tb, 0, none⟩)] 59, tabP tb s (rls Es), storeP s most Es, sl (some ⟨g, 0, none⟩) c 27 1 ids.length (idC ids)]
      (fun v Q => ∃ g' c' out, v = .tuple #[.slice (some ⟨g', 0, none⟩) ids.length c', .nilIface] ∧ out.Perm ids ∧ Srt (out.map (txt (rls Es))) ∧ Q = [cells pp [.pointer (some ⟨s, 0, none⟩), .pointer (some ⟨tb, 0, none⟩)] 59, tabP tb s (rls Es), storeP s most Es, sl (some ⟨g', 0, none⟩) c' 27 1 ids.length (idC out)]) := by
  refine fn_enter (hE.fn Tryz.func17) rfl rfl rfl (fun R => ?_)
  simp only [argsL, List.cons_append, List.nil_append]
  refine w_seq (wR ?_)
  apply lL (by kernel_rfl) rfl
  refine ld_box rfl (fun b2 => ?_)
  refine lY (yA rfl) rfl ?_
  refine lY (yA rfl) rfl ?_
  refine l_nil (aT (w_seq (w_seq (wR ?_))))
  apply lY
  · (first | (apply y_load rfl (hE.t rfl) rfl; (repeat (first | rfl | assumption | constructor)); done) | exact y_load_old rfl (hE.t rfl) rfl (by assumption) | (apply y_load_ro rfl (hE.t rfl) rfl; (focus ((repeat constructor); done)); (focus assumption)) | (apply y_load_q rfl (hE.t rfl) rfl (by assumption); (focus ((repeat constructor); done)); (first | ((focus exact f0); (focus omega)) | ((focus exact f1); (focus omega)) | ((focus assumption); (focus omega)))))
  · rfl
  refine lY (yM rfl) rfl ?_
  apply lL (by kernel_rfl) rfl
  apply ld_call (ct_ocheck (q := sl (some ⟨g, 0, none⟩) c 27 1 ids.length (idC ids)) hE hB hg (fun _ => ⟨g, 0, rfl, rd_sl2 (fun _ _ h => h)⟩) (by omega)) rfl (hE.f (by kernel_rfl))
  · ((repeat constructor); done)
  rintro _ _ ⟨rfl, rfl⟩
  simp only [List.cons_append, List.nil_append]
  refine lY (yA rfl) rfl ?_
  refine l_nil (aT (w_seq (wR ?_)))
  refine lY (yM rfl) rfl ?_
  apply lY
  · (first | exact y_ok_ne rfl (hE.t rfl) | exact y_err_ne rfl (hE.t rfl))
  · rfl
  refine l_nil (aT ?_)
  refine w_cond_f rfl ?_
  refine w_skip (aT (w_seq (wR ?_)))
  refine lY (yM rfl) rfl ?_
  apply lL (by kernel_rfl) rfl
  apply ld_call (ct_cloneJ hE h0 (by omega)) rfl (hE.f (by kernel_rfl))
  · ((repeat constructor); done)
  rintro _ _ ⟨g', c', rfl, rfl⟩
  simp only [List.cons_append, List.nil_append]
  refine lY (yA rfl) rfl ?_
  refine l_nil (aT (w_seq (wR ?_)))
  refine lY (yM rfl) rfl ?_
  refine lY (y_makeFunc rfl) rfl ?_
  have hd : OkD (fun x => good (rls Es) x ∧ len (rls Es) x ≤ 4000000) ids.length ids.toArray := ⟨by simp, fun i hi => by
    have hm : ids.toArray[i]! ∈ ids := by simp [hi]
    exact ⟨hg _ hm, hgl _ hm⟩⟩
  have hc : Cmp E 39 [.pointer (some ⟨b2, 0, none⟩)] (stars [cells b2 [.pointer (some ⟨pp, 0, none⟩)] 22, cells pp [.pointer (some ⟨s, 0, none⟩), .pointer (some ⟨tb, 0, none⟩)] 59, tabP tb s (rls Es), storeP s most Es]) (fun x => good (rls Es) x ∧ len (rls Es) x ≤ 4000000) (fun x y => cmpT (txt (rls Es) x) (txt (rls Es) y)) := fun x y hx hy => ct_pack (ct_Sort1 hE hB hx hy)
  have hsf := ct_SortFunc (g := g') (c := c') (n := ids.length) hE (hE.f (by kernel_rfl)) hc (swo_txt (rls Es)) hn hd
  have hsg : Ct E 38 [.slice (some ⟨g', 0, none⟩) ids.length c', .func (.func 39) #[] ⟨[.pointer (some ⟨b2, 0, none⟩)]⟩] (sl (some ⟨g', 0, none⟩) c' 27 1 ids.length (idC ids) :: [cells b2 [.pointer (some ⟨pp, 0, none⟩)] 22, cells pp [.pointer (some ⟨s, 0, none⟩), .pointer (some ⟨tb, 0, none⟩)] 59, tabP tb s (rls Es), storeP s most Es])
      (fun v Q => ∃ p', (v = .tuple #[] ∧ ∃ out : List Nat, p' = sl (some ⟨g', 0, none⟩) c' 27 1 ids.length (idC out) ∧ out.Perm ids ∧ Srt (out.map (txt (rls Es)))) ∧ Q = p' :: [cells b2 [.pointer (some ⟨pp, 0, none⟩)] 22, cells pp [.pointer (some ⟨s, 0, none⟩), .pointer (some ⟨tb, 0, none⟩)] 59, tabP tb s (rls Es), storeP s most Es]) := by
    refine ct_spread2 (Φ := fun v p' => v = .tuple #[] ∧ ∃ out : List Nat, p' = sl (some ⟨g', 0, none⟩) c' 27 1 ids.length (idC out) ∧ out.Perm ids ∧ Srt (out.map (txt (rls Es)))) ?_
    intro R w s
    refine (hsf R w s).mono ?_
    rintro e w' ⟨v, Qs, h1, ⟨d', h2, h3, hd', hp, hso⟩, h4⟩
    refine ⟨v, Qs, h1, ⟨_, ⟨h2, d'.toList, rfl, by simpa using hp, ?_⟩, h3⟩, h4⟩
    intro j A B hA hB
    have hj := (List.getElem?_eq_some_iff.1 hB).1
    simp only [List.length_map, Array.length_toList] at hj
    have hsz := hd'.1
    have h5 := hso j (j + 1) (Nat.zero_le _) (by omega) (by omega)
    simp only [ltF, decide_eq_false_iff_not, Int.not_lt] at h5
    have eA : A = txt (rls Es) d'[j]! := by
      rw [List.getElem?_map, Array.getElem?_toList] at hA
      rw [Array.getElem?_eq_getElem (by omega)] at hA
      simp at hA
      rw [← hA, getElem!_pos d' j (by omega)]
    have eB : B = txt (rls Es) d'[j + 1]! := by
      rw [List.getElem?_map, Array.getElem?_toList] at hB
      rw [Array.getElem?_eq_getElem (by omega)] at hB
      simp at hB
      rw [← hB, getElem!_pos d' (j + 1) (by omega)]
    rw [eA, eB]
    have := cmpT_swap (txt (rls Es) d'[j + 1]!) (txt (rls Es) d'[j]!)
    omega
  apply lL (by kernel_rfl) rfl
  apply ld_call (hsg) rfl (hE.f (by kernel_rfl))
  · ((repeat constructor); done)
  rintro _ _ ⟨_, ⟨rfl, out, rfl, hp, hso⟩, rfl⟩
  simp only [List.cons_append, List.nil_append]
  refine l_nil (aT (w_seq (wR ?_)))
  refine lY (yM rfl) rfl ?_
  refine lY (yA rfl) rfl ?_
  refine lY (yA rfl) rfl ?_
  refine l_nil (aT (w_ret ?_))
  apply a_ret
  · rfl
  · (apply Rs.tmp rfl; apply Rs.tmp rfl; exact Rs.nil)
  · exact ⟨g', c', out, rfl, hp, hso, rfl⟩
  · (apply ent; (repeat constructor); done)
theorem ct_clone_nil (hE : Seat E) : Ct E 37 [.slice none 0 0] [] (fun v Q => v = .slice none 0 0 ∧ Q = []) := by
  refine fn_enter (hE.fn Tryz.func37) rfl rfl rfl (fun R => ?_)
  simp only [argsL, List.cons_append, List.nil_append]
  refine w_seq (wR ?_)
  refine lY (yA rfl) rfl ?_
  refine l_nil (aT (w_seq (w_seq (wR ?_))))
  refine lY (yM rfl) rfl ?_
  refine lY (y_eq_sl rfl (hE.t rfl)) rfl ?_
  refine l_nil (aT ?_)
  refine w_cond_t rfl ?_
  refine w_seq (wR ?_)
  refine lY (yA rfl) rfl ?_
  refine l_nil (aT (w_ret (a_then_ret ?_)))
  apply a_ret
  · rfl
  · (apply Rs.tmp rfl; exact Rs.nil)
  · exact ⟨rfl, rfl⟩
  · (apply ent; (repeat constructor); done)
theorem ct_Sort_nil (hE : Seat E) (hB : Base E.w0) : Ct E 17 [.pointer (some ⟨pp, 0, none⟩), .slice none 0 0] [cells pp [.pointer (some ⟨s, 0, none⟩), .pointer (some ⟨tb, 0, none⟩)] 59, tabP tb s (rls Es), storeP s most Es] (fun v Q => v = .tuple #[.slice none 0 0, .nilIface] ∧ Q = [cells pp [.pointer (some ⟨s, 0, none⟩), .pointer (some ⟨tb, 0, none⟩)] 59, tabP tb s (rls Es), storeP s most Es]) := by
  refine fn_enter (hE.fn Tryz.func17) rfl rfl rfl (fun R => ?_)
  simp only [argsL, List.cons_append, List.nil_append]
  refine w_seq (wR ?_)
  apply lL (by kernel_rfl) rfl
  refine ld_box rfl (fun b2 => ?_)
  refine lY (yA rfl) rfl ?_
  refine lY (yA rfl) rfl ?_
  refine l_nil (aT (w_seq (w_seq (wR ?_))))
  apply lY
  · (first | (apply y_load rfl (hE.t rfl) rfl; (repeat (first | rfl | assumption | constructor)); done) | exact y_load_old rfl (hE.t rfl) rfl (by assumption) | (apply y_load_ro rfl (hE.t rfl) rfl; (focus ((repeat constructor); done)); (focus assumption)) | (apply y_load_q rfl (hE.t rfl) rfl (by assumption); (focus ((repeat constructor); done)); (first | ((focus exact f0); (focus omega)) | ((focus exact f1); (focus omega)) | ((focus assumption); (focus omega)))))
  · rfl
  refine lY (yM rfl) rfl ?_
  refine l_heap ent_old ?_
  apply lL (by kernel_rfl) rfl
  apply ld_call (ct_ocheck (ids := []) (q := old) hE hB (fun x h => absurd h (by simp)) (fun h => absurd rfl h) (Nat.zero_le _)) rfl (hE.f (by kernel_rfl))
  · ((repeat constructor); done)
  rintro _ _ ⟨rfl, rfl⟩
  simp only [List.cons_append, List.nil_append]
  refine lY (yA rfl) rfl ?_
  refine l_nil (aT (w_seq (wR ?_)))
  refine lY (yM rfl) rfl ?_
  apply lY
  · (first | exact y_ok_ne rfl (hE.t rfl) | exact y_err_ne rfl (hE.t rfl))
  · rfl
  refine l_nil (aT ?_)
  refine w_cond_f rfl ?_
  refine w_skip (aT (w_seq (wR ?_)))
  refine lY (yM rfl) rfl ?_
  apply lL (by kernel_rfl) rfl
  apply ld_call (ct_clone_nil hE) rfl (hE.f (by kernel_rfl))
  · ((repeat constructor); done)
  rintro _ _ ⟨rfl, rfl⟩
  simp only [List.cons_append, List.nil_append]
  refine lY (yA rfl) rfl ?_
  refine l_nil (aT (w_seq (wR ?_)))
  refine lY (yM rfl) rfl ?_
  refine lY (y_makeFunc rfl) rfl ?_
  apply lL (by kernel_rfl) rfl
  apply ld_call (ct_SortFunc_nil hE) rfl (hE.f (by kernel_rfl))
  · ((repeat constructor); done)
  rintro _ _ ⟨rfl, rfl⟩
  simp only [List.cons_append, List.nil_append]
  refine l_nil (aT (w_seq (wR ?_)))
  refine lY (yM rfl) rfl ?_
  refine lY (yA rfl) rfl ?_
  refine lY (yA rfl) rfl ?_
  refine l_nil (aT (w_ret ?_))
  apply a_ret
  · rfl
  · (apply Rs.tmp rfl; apply Rs.tmp rfl; exact Rs.nil)
  · exact ⟨rfl, rfl⟩
  · (apply ent; (repeat constructor); done)
end Go.Proofs.YtekhbjlplfbdkaaGreatDoor
namespace Go.Proofs.YtekhbjlplfbdkaaGreatDoor
open Go Go.RowKit Sl Eg
set_option maxRecDepth 10000
variable {E : Env}
def bsL (ts : List Tx) : List (List UInt8) := ts.map Tx.bs
theorem bsL_get {ts : List Tx} {k : Nat} {t : Tx} (h : ts[k]? = some t) : (bsL ts)[k]? = some t.bs := by simp [bsL, h]
theorem txV_one (ts : List Tx) : ∀ u ∈ ts.map txV, u.oneCell' = true := fun u h => by
  obtain ⟨x, _, rfl⟩ := List.mem_map.1 h; rfl
theorem srt_ins {o : List Tx} {x : Tx} {at_ : Nat} (hs : Srt (bsL o)) (ha : at_ ≤ o.length) (h1 : ∀ j A, j < at_ → (bsL o)[j]? = some A → cmpT A x.bs ≤ 0) (h2 : ∀ A, (bsL o)[at_]? = some A → 0 ≤ cmpT A x.bs) : Srt (bsL (o.take at_ ++ [x] ++ o.drop at_)) := by
  have hl : (bsL o).length = o.length := by simp [bsL]
  have e : bsL (o.take at_ ++ [x] ++ o.drop at_) = (bsL o).take at_ ++ [x.bs] ++ (bsL o).drop at_ := by simp [bsL, List.map_take, List.map_drop]
  rw [e]
  generalize bsL o = l at *
  have hlt : (l.take at_).length = at_ := by rw [List.length_take]; omega
  intro k A B hA hB
  rw [List.append_assoc] at hA hB
  by_cases c1 : k + 1 < at_
  · rw [List.getElem?_append_left (by omega), List.getElem?_take_of_lt (by omega)] at hA hB
    exact hs k A B hA hB
  · by_cases c2 : k + 1 = at_
    · rw [List.getElem?_append_left (by omega), List.getElem?_take_of_lt (by omega)] at hA
      rw [List.getElem?_append_right (by omega), hlt, show k + 1 - at_ = 0 by omega] at hB
      simp at hB
      subst hB
      exact h1 k A (by omega) hA
    · rw [List.getElem?_append_right (by omega), hlt] at hA hB
      rw [show k + 1 - at_ = (k - at_) + 1 by omega] at hB
      simp only [List.singleton_append, List.getElem?_cons_succ] at hB
      rw [List.getElem?_drop] at hB
      by_cases c3 : k = at_
      · subst c3
        simp at hA hB
        subst hA
        have := h2 B hB
        have := cmpT_swap B x.bs
        omega
      · rw [show k - at_ = (k - at_ - 1) + 1 by omega] at hA
        simp only [List.singleton_append, List.getElem?_cons_succ] at hA
        rw [List.getElem?_drop] at hA
        exact hs (at_ + (k - at_ - 1)) A B hA (by rw [show at_ + (k - at_ - 1) + 1 = at_ + (k - at_) by omega]; exact hB)
structure InG where
  o : List Tx
  p : Option Addr
  c : Nat
theorem rdb_take {w0 : World} {p : Option Addr} {c : Nat} {o : List Tx} {k : Nat} {T : TypeId} (hpp : o ≠ [] → ∃ g, p = some ⟨g, 0, none⟩) : Rdb w0 p ((o.take k).map txV) (sl p c T 1 o.length (o.map txV)) := fun hne => by
  obtain ⟨g, rfl⟩ := hpp (by rintro rfl; simp at hne)
  refine ⟨g, 0, rfl, rd_sl2 (fun i v hv => ?_)⟩
  rw [List.map_take, List.getElem?_take] at hv
  split at hv
  · exact hv
  · cases hv
theorem rdb_drop {w0 : World} {p : Option Addr} {c : Nat} {o : List Tx} {k : Nat} {T : TypeId} (hpp : o ≠ [] → ∃ g, p = some ⟨g, 0, none⟩) (hcap : o.length ≤ c) : Rdb w0 (if c = k then p else p.map (·.add (k * 1))) ((o.drop k).map txV) (sl p c T 1 o.length (o.map txV)) := fun hne => by
  have hk : k < o.length := by
    apply Classical.byContradiction
    intro h
    rw [List.drop_of_length_le (by omega)] at hne
    exact hne rfl
  obtain ⟨g, rfl⟩ := hpp (by rintro rfl; simp at hne)
  rw [if_neg (by omega)]
  refine ⟨g, k * 1, ?_, fun K hK i v hv => ?_⟩
  · simp only [Option.map_some, addr_add, Nat.zero_add]
  · rw [List.map_drop, List.getElem?_drop] at hv
    have := rd_sl2 (w0 := w0) (vs := o.map txV) (fun _ _ h => h) K hK (k + i) v hv
    rw [Nat.zero_add] at this
    rw [Nat.mul_one]
    exact this
theorem ct_refSort (hE : Seat E) {ts : List Tx} {A : Option Addr} {C : Nat} {q : HP} (hq : Rdb E.w0 A (ts.map txV) q) (hok : ∀ t ∈ ts, OkT E.w0 t) (hn : ts.length ≤ 2000) :
    Ct E 18 [.slice A ts.length C] [q] (fun v Q => ∃ p c W, v = .slice p W.length c ∧ W.Perm ts ∧ Srt (bsL W) ∧ Q = [sl p c 32 1 W.length (W.map txV), q]) := by
  refine fn_enter (hE.fn Tryz.func18) rfl rfl rfl (fun R => ?_)
  simp only [argsL, List.cons_append, List.nil_append]
  refine w_seq (wR ?_)
  refine lY (yA rfl) rfl ?_
  refine l_nil (aT (w_seq (wR ?_)))
  refine lY (yA rfl) rfl ?_
  refine l_nil (aT (w_seq (w_seq (wR ?_))))
  refine lY (yA rfl) rfl ?_
  refine l_nil (aT (w_block ?_))
  skip
  refine w_loop (fun x : InG => [(0, .slice A ts.length C), (3, .slice x.p x.o.length x.c), (4, .int .i64 (x.o.length : Nat))]) (fun x => [sl x.p x.c 32 1 x.o.length (x.o.map txV), q, R]) (fun x => ts.length - x.o.length) (fun x => x.o.Perm (ts.take x.o.length) ∧ Srt (bsL x.o) ∧ x.o.length ≤ ts.length) ⟨[], none, 0⟩ ?_ ?_ ?_ ?_
  · exact ⟨by simp, fun k A B h => by simp [bsL] at h, Nat.zero_le _⟩
  · exact ⟨rfl, rfl, rfl, trivial⟩
  · apply ent_trans (ent_nil (t := 32) (sz := 1))
    (apply ent; (repeat constructor); done)
  rintro ⟨o, p, c⟩ ⟨hp, hs, hl⟩
  simp only at hp hs hl ⊢
  refine w_say (p := sl p c 32 1 o.length (o.map txV)) (by ((repeat constructor); done)) (fun _ h => (show o ≠ [] → ∃ g, p = some ⟨g, 0, none⟩ from fun hn => sl_form h (List.length_pos_iff.2 hn))) ?_
  intro hpp
  refine w_say (p := sl p c 32 1 o.length (o.map txV)) (by ((repeat constructor); done)) (fun _ h => (show o.length ≤ c from (sl_cap h).1)) ?_
  intro hcap
  skip
  refine w_seq (w_seq (wR ?_))
  refine lY (yM rfl) rfl ?_
  refine lY (yM rfl) rfl ?_
  refine lY (y_len_slice rfl (hE.t rfl)) rfl ?_
  refine lY (y_lt rfl rfl) rfl ?_
  refine l_nil (aT ?_)
  refine w_cond_d rfl (fun h1 => ?_) (fun h1 => ?_)
  · skip
    have hkl : o.length < ts.length := by omega
    obtain ⟨G, O, rfl, hqq⟩ := hq (by intro e; rw [List.map_eq_nil_iff] at e; rw [e] at hkl; simp at hkl)
    obtain ⟨x, hx⟩ : ∃ x, ts[o.length]? = some x := ⟨_, List.getElem?_eq_getElem hkl⟩
    have hox := hok x (List.mem_of_getElem? hx)
    have f0 := txV_get hx
    refine w_skip (aT (w_seq (w_block (w_seq (wR ?_)))))
    refine lY (yA rfl) rfl ?_
    refine l_nil (aT (w_seq (w_block ?_)))
    skip
    refine w_loop (fun k : Nat => [(0, .slice (some ⟨G, O, none⟩) ts.length C), (3, .slice p o.length c), (4, .int .i64 (o.length : Nat)), (5, .int .i64 (k : Nat))]) (fun k => [sl p c 32 1 o.length (o.map txV), q, R]) (fun k => o.length - k) (fun k => k ≤ o.length ∧ ∀ j A, j < k → (bsL o)[j]? = some A → cmpT A x.bs ≤ 0) 0 ?_ ?_ ?_ ?_
    · exact ⟨Nat.zero_le _, fun j A h => absurd h (by omega)⟩
    · exact ⟨rfl, rfl, rfl, rfl, trivial⟩
    · (apply ent; (repeat constructor); done)
    rintro k ⟨hk, hle⟩
    skip
    refine w_seq (w_seq (w_draws (by kernel_rfl) ?_))
    refine lY (yM rfl) rfl ?_
    refine lY (yM rfl) rfl ?_
    refine lY (y_len_slice rfl (hE.t rfl)) rfl ?_
    refine lY (y_lt rfl rfl) rfl ?_
    refine lY (yM rfl) rfl ?_
    refine l_split 17 rfl (fun h2 => ?_) (fun h2 => ?_)
    · skip
      have hko : k < o.length := by omega
      obtain ⟨g, rfl⟩ := hpp (by intro e; rw [e] at hko; simp at hko)
      obtain ⟨y, hy⟩ : ∃ y, o[k]? = some y := ⟨_, List.getElem?_eq_getElem hko⟩
      have hoy := hok y (List.mem_of_mem_take (hp.subset (List.mem_of_getElem? hy)))
      have f1 : (o.map txV)[((k : Nat) : Int).toNat]? = some (.slice y.a y.bs.length y.c) := txV_get hy
      refine l_on rfl rfl ?_
      refine lY (yM rfl) rfl ?_
      refine l_on rfl rfl ?_
      refine lY (yM rfl) rfl ?_
      refine l_on rfl rfl ?_
      apply lY
      · (first | exact y_indexAddr1 rfl rfl (hE.t rfl) (by omega) (by omega) | exact y_indexAddr rfl rfl (hE.t rfl) (by omega) (by omega))
      · rfl
      refine l_on rfl rfl ?_
      apply lY
      · (first | (apply y_load rfl (hE.t rfl) rfl; (repeat (first | rfl | assumption | constructor)); done) | exact y_load_old rfl (hE.t rfl) rfl (by assumption) | (apply y_load_ro rfl (hE.t rfl) rfl; (focus ((repeat constructor); done)); (focus assumption)) | (apply y_load_q rfl (hE.t rfl) rfl (by assumption); (focus ((repeat constructor); done)); (first | ((focus exact f0); (focus omega)) | ((focus exact f1); (focus omega)) | ((focus assumption); (focus omega)))))
      · rfl
      refine l_on rfl rfl ?_
      refine lY (yM rfl) rfl ?_
      refine l_on rfl rfl ?_
      refine lY (yM rfl) rfl ?_
      refine l_on rfl rfl ?_
      apply lY
      · (first | exact y_indexAddr1 rfl rfl (hE.t rfl) (by omega) (by omega) | exact y_indexAddr rfl rfl (hE.t rfl) (by omega) (by omega))
      · rfl
      refine l_on rfl rfl ?_
      apply lY
      · (first | (apply y_load rfl (hE.t rfl) rfl; (repeat (first | rfl | assumption | constructor)); done) | exact y_load_old rfl (hE.t rfl) rfl (by assumption) | (apply y_load_ro rfl (hE.t rfl) rfl; (focus ((repeat constructor); done)); (focus assumption)) | (apply y_load_q rfl (hE.t rfl) rfl (by assumption); (focus ((repeat constructor); done)); (first | ((focus exact f0); (focus omega)) | ((focus exact f1); (focus omega)) | ((focus assumption); (focus omega)))))
      · rfl
      refine l_on rfl rfl ?_
      apply lL (by kernel_rfl) rfl
      apply ld_call (ct_refCompare hE hoy.1 hox.1 hoy.2.1 hox.2.1) rfl (hE.f (by kernel_rfl))
      · ((repeat constructor); done)
      rintro _ _ ⟨rfl, rfl⟩
      simp only [List.cons_append, List.nil_append]
      refine l_on rfl rfl ?_
      refine lY (y_le rfl rfl) rfl ?_
      apply lY
      · (first | exact y_pick_t rfl rfl | exact y_pick_f rfl rfl)
      · rfl
      refine l_nil (aT ?_)
      refine w_cond_d rfl (fun h3 => ?_) (fun h3 => ?_)
      · skip
        refine w_skip (aT (w_block (wR ?_)))
        refine lY (yM rfl) rfl ?_
        refine lY (y_add rfl rfl (by omega) (by omega)) rfl ?_
        refine lY (yA rfl) rfl ?_
        refine l_nil (a_block ?_)
        refine a_round (k + 1) ⟨by omega, fun j A hj hA => ?_⟩ (by omega) ⟨rfl, rfl, rfl, congrArg some (int_eq (by omega)), trivial⟩ (by (apply ent; (repeat constructor); done))
        by_cases e : j = k
        · subst e
          rw [bsL_get hy] at hA
          cases hA
          exact h3
        · exact hle j A (by omega) hA
      · skip
        have hz : ∀ A, (bsL o)[k]? = some A → 0 ≤ cmpT A x.bs := fun A hA => by
          rw [bsL_get hy] at hA
          cases hA
          omega
        have hs' := srt_ins hs hk hle (hz)
        refine w_exit (a_then_exit (a_then_exit (a_block_exit (aT (w_seq (wR ?_))))))
        refine lY (yA rfl) rfl ?_
        refine l_nil (aT (w_seq (wR ?_)))
        refine lY (yM rfl) rfl ?_
        refine lY (yM rfl) rfl ?_
        refine lY (yM rfl) rfl ?_
        apply lY
        · exact y_slice_hi k rfl rfl (hE.t rfl) rfl (by omega)
        · rfl
        refine l_heap (ent_nil (t := 32) (sz := 1)) ?_
        have lk : (o.take k).length = k := by rw [List.length_take]; omega
        apply lL (by kernel_rfl) rfl
        apply ld_append_any (us := (o.take k).map txV) (hE.t rfl) (hE.t rfl) rfl rfl rfl
        · rw [List.length_map, lk]
        · exact rdb_take (c := c) (T := 32) hpp
        · ((repeat constructor); done)
        · ((repeat constructor); done)
        · exact txV_one _
        · rw [List.length_map, lk]; omega
        · rw [List.length_map, lk]; unfold maxLen; omega
        intro p2 c2 m2 xs2 hm2 hx2
        obtain rfl : m2 = k := by rw [hm2, List.length_map, lk]; omega
        obtain rfl : xs2 = (o.take m2).map txV := by rw [hx2]; rfl
        refine lY (yA rfl) rfl ?_
        refine l_nil (aT (w_seq (wR ?_)))
        refine lY (yM rfl) rfl ?_
        refine lY (yM rfl) rfl ?_
        refine lY (yM rfl) rfl ?_
        apply lY
        · (first | exact y_indexAddr1 rfl rfl (hE.t rfl) (by omega) (by omega) | exact y_indexAddr rfl rfl (hE.t rfl) (by omega) (by omega))
        · rfl
        apply lY
        · (first | (apply y_load rfl (hE.t rfl) rfl; (repeat (first | rfl | assumption | constructor)); done) | exact y_load_old rfl (hE.t rfl) rfl (by assumption) | (apply y_load_ro rfl (hE.t rfl) rfl; (focus ((repeat constructor); done)); (focus assumption)) | (apply y_load_q rfl (hE.t rfl) rfl (by assumption); (focus ((repeat constructor); done)); (first | ((focus exact f0); (focus omega)) | ((focus exact f1); (focus omega)) | ((focus assumption); (focus omega)))))
        · rfl
        apply lL (by kernel_rfl) rfl
        refine ld_buildSlice (hE.t rfl) (hE.t rfl) rfl rfl rfl (fun b41 => ?_)
        apply lL (by kernel_rfl) rfl
        apply ld_append (hE.t rfl) (hE.t rfl) rfl rfl rfl
        · ((repeat constructor); done)
        · ((repeat constructor); done)
        · rfl
        · rfl
        · omega
        · omega
        · (unfold maxLen; omega)
        intro g42 c42 n42 x42 hn42 hx42
        refine lY (yA rfl) rfl ?_
        refine l_nil (aT (wR ?_))
        refine lY (yM rfl) rfl ?_
        refine lY (yM rfl) rfl ?_
        refine lY (yM rfl) rfl ?_
        obtain rfl : n42 = m2 + 1 := by rw [hn42]
        obtain rfl : x42 = (o.take m2 ++ [x]).map txV := by rw [hx42]; simp [txV]; rfl
        apply lY
        · exact y_slice (l := m2) (h := o.length) rfl (hE.t rfl) ⟨_, rfl⟩ rfl hk hcap
        · rfl
        have ld : (o.drop m2).length = o.length - m2 := List.length_drop
        apply lL (by kernel_rfl) rfl
        apply ld_append_any (us := (o.drop m2).map txV) (hE.t rfl) (hE.t rfl) rfl rfl rfl
        · rw [List.length_map, ld]
        · exact rdb_drop (c := c) (T := 32) hpp hcap
        · ((repeat constructor); done)
        · ((repeat constructor); done)
        · exact txV_one _
        · rw [List.length_map, ld]; omega
        · rw [List.length_map, ld]; unfold maxLen; omega
        intro p3 c3 m3 xs3 hm3 hx3
        have hol : (o.take m2 ++ [x] ++ o.drop m2).length = o.length + 1 := by simp [lk, ld]; omega
        obtain rfl : m3 = (o.take m2 ++ [x] ++ o.drop m2).length := by rw [hm3, List.length_map, ld, hol]; omega
        obtain rfl : xs3 = (o.take m2 ++ [x] ++ o.drop m2).map txV := by rw [hx3]; simp
        refine lY (yA rfl) rfl ?_
        refine l_nil (a_block (aT (wR ?_)))
        refine lY (yM rfl) rfl ?_
        refine lY (y_add rfl rfl (by omega) (by omega)) rfl ?_
        refine lY (yA rfl) rfl ?_
        refine l_nil ?_
        refine a_round (ι := InG) (j := ⟨o.take m2 ++ [x] ++ o.drop m2, p3, c3⟩) ⟨?_, hs', ?_⟩ ?_ ⟨rfl, rfl, congrArg some (int_eq ?_), trivial⟩ (by (apply ent; (repeat constructor); done))
        · show (o.take m2 ++ [x] ++ o.drop m2).Perm (ts.take (o.take m2 ++ [x] ++ o.drop m2).length)
          rw [hol, List.take_add_one, hx]
          have e : (o.take m2 ++ o.drop m2) = o := List.take_append_drop m2 o
          have h4 : (o.take m2 ++ [x] ++ o.drop m2).Perm (x :: (o.take m2 ++ o.drop m2)) := by rw [List.append_assoc]; exact List.perm_middle
          rw [e] at h4
          refine h4.trans ?_
          show (x :: o).Perm (ts.take o.length ++ [x])
          exact (List.Perm.cons x hp).trans (List.perm_append_singleton x _).symm
        · show (o.take m2 ++ [x] ++ o.drop m2).length ≤ ts.length
          omega
        · show ts.length - (o.take m2 ++ [x] ++ o.drop m2).length < ts.length - o.length
          omega
        · show _ = (((o.take m2 ++ [x] ++ o.drop m2).length : Nat) : Int)
          omega
    · skip
      refine l_off rfl rfl rfl rfl (l_off rfl rfl rfl rfl (l_off rfl rfl rfl rfl (l_off rfl rfl rfl rfl (l_off rfl rfl rfl rfl (l_off rfl rfl rfl rfl (l_off rfl rfl rfl rfl (l_off rfl rfl rfl rfl ?_)))))))
      refine l_off rfl rfl rfl rfl (l_off rfl rfl rfl rfl ?_)
      apply lY
      · (first | exact y_pick_t rfl rfl | exact y_pick_f rfl rfl)
      · rfl
      refine l_nil (aT ?_)
      refine w_cond_f rfl ?_
      have hz : ∀ A, (bsL o)[k]? = some A → 0 ≤ cmpT A x.bs := fun A hA => by
        have := (List.getElem?_eq_some_iff.1 hA).1
        simp [bsL] at this
        omega
      have hs' := srt_ins hs hk hle (hz)
      refine w_exit (a_then_exit (a_then_exit (a_block_exit (aT (w_seq (wR ?_))))))
      refine lY (yA rfl) rfl ?_
      refine l_nil (aT (w_seq (wR ?_)))
      refine lY (yM rfl) rfl ?_
      refine lY (yM rfl) rfl ?_
      refine lY (yM rfl) rfl ?_
      apply lY
      · exact y_slice_hi k rfl rfl (hE.t rfl) rfl (by omega)
      · rfl
      refine l_heap (ent_nil (t := 32) (sz := 1)) ?_
      have lk : (o.take k).length = k := by rw [List.length_take]; omega
      apply lL (by kernel_rfl) rfl
      apply ld_append_any (us := (o.take k).map txV) (hE.t rfl) (hE.t rfl) rfl rfl rfl
      · rw [List.length_map, lk]
      · exact rdb_take (c := c) (T := 32) hpp
      · ((repeat constructor); done)
      · ((repeat constructor); done)
      · exact txV_one _
      · rw [List.length_map, lk]; omega
      · rw [List.length_map, lk]; unfold maxLen; omega
      intro p2 c2 m2 xs2 hm2 hx2
      obtain rfl : m2 = k := by rw [hm2, List.length_map, lk]; omega
      obtain rfl : xs2 = (o.take m2).map txV := by rw [hx2]; rfl
      refine lY (yA rfl) rfl ?_
      refine l_nil (aT (w_seq (wR ?_)))
      refine lY (yM rfl) rfl ?_
      refine lY (yM rfl) rfl ?_
      refine lY (yM rfl) rfl ?_
      apply lY
      · (first | exact y_indexAddr1 rfl rfl (hE.t rfl) (by omega) (by omega) | exact y_indexAddr rfl rfl (hE.t rfl) (by omega) (by omega))
      · rfl
      apply lY
      · (first | (apply y_load rfl (hE.t rfl) rfl; (repeat (first | rfl | assumption | constructor)); done) | exact y_load_old rfl (hE.t rfl) rfl (by assumption) | (apply y_load_ro rfl (hE.t rfl) rfl; (focus ((repeat constructor); done)); (focus assumption)) | (apply y_load_q rfl (hE.t rfl) rfl (by assumption); (focus ((repeat constructor); done)); (first | ((focus exact f0); (focus omega)) | ((focus exact f1); (focus omega)) | ((focus assumption); (focus omega)))))
      · rfl
      apply lL (by kernel_rfl) rfl
      refine ld_buildSlice (hE.t rfl) (hE.t rfl) rfl rfl rfl (fun b41 => ?_)
      apply lL (by kernel_rfl) rfl
      apply ld_append (hE.t rfl) (hE.t rfl) rfl rfl rfl
      · ((repeat constructor); done)
      · ((repeat constructor); done)
      · rfl
      · rfl
      · omega
      · omega
      · (unfold maxLen; omega)
      intro g42 c42 n42 x42 hn42 hx42
      refine lY (yA rfl) rfl ?_
      refine l_nil (aT (wR ?_))
      refine lY (yM rfl) rfl ?_
      refine lY (yM rfl) rfl ?_
      refine lY (yM rfl) rfl ?_
      obtain rfl : n42 = m2 + 1 := by rw [hn42]
      obtain rfl : x42 = (o.take m2 ++ [x]).map txV := by rw [hx42]; simp [txV]; rfl
      apply lY
      · exact y_slice (l := m2) (h := o.length) rfl (hE.t rfl) ⟨_, rfl⟩ rfl hk hcap
      · rfl
      have ld : (o.drop m2).length = o.length - m2 := List.length_drop
      apply lL (by kernel_rfl) rfl
      apply ld_append_any (us := (o.drop m2).map txV) (hE.t rfl) (hE.t rfl) rfl rfl rfl
      · rw [List.length_map, ld]
      · exact rdb_drop (c := c) (T := 32) hpp hcap
      · ((repeat constructor); done)
      · ((repeat constructor); done)
      · exact txV_one _
      · rw [List.length_map, ld]; omega
      · rw [List.length_map, ld]; unfold maxLen; omega
      intro p3 c3 m3 xs3 hm3 hx3
      have hol : (o.take m2 ++ [x] ++ o.drop m2).length = o.length + 1 := by simp [lk, ld]; omega
      obtain rfl : m3 = (o.take m2 ++ [x] ++ o.drop m2).length := by rw [hm3, List.length_map, ld, hol]; omega
      obtain rfl : xs3 = (o.take m2 ++ [x] ++ o.drop m2).map txV := by rw [hx3]; simp
      refine lY (yA rfl) rfl ?_
      refine l_nil (a_block (aT (wR ?_)))
      refine lY (yM rfl) rfl ?_
      refine lY (y_add rfl rfl (by omega) (by omega)) rfl ?_
      refine lY (yA rfl) rfl ?_
      refine l_nil ?_
      refine a_round (ι := InG) (j := ⟨o.take m2 ++ [x] ++ o.drop m2, p3, c3⟩) ⟨?_, hs', ?_⟩ ?_ ⟨rfl, rfl, congrArg some (int_eq ?_), trivial⟩ (by (apply ent; (repeat constructor); done))
      · show (o.take m2 ++ [x] ++ o.drop m2).Perm (ts.take (o.take m2 ++ [x] ++ o.drop m2).length)
        rw [hol, List.take_add_one, hx]
        have e : (o.take m2 ++ o.drop m2) = o := List.take_append_drop m2 o
        have h4 : (o.take m2 ++ [x] ++ o.drop m2).Perm (x :: (o.take m2 ++ o.drop m2)) := by rw [List.append_assoc]; exact List.perm_middle
        rw [e] at h4
        refine h4.trans ?_
        show (x :: o).Perm (ts.take o.length ++ [x])
        exact (List.Perm.cons x hp).trans (List.perm_append_singleton x _).symm
      · show (o.take m2 ++ [x] ++ o.drop m2).length ≤ ts.length
        omega
      · show ts.length - (o.take m2 ++ [x] ++ o.drop m2).length < ts.length - o.length
        omega
      · show _ = (((o.take m2 ++ [x] ++ o.drop m2).length : Nat) : Int)
        omega
  · skip
    rw [show o.length = ts.length by omega, List.take_length] at hp
    refine w_exit (a_then_exit (a_then_exit (a_block_exit (aT (w_seq (wR ?_))))))
    refine lY (yM rfl) rfl ?_
    refine lY (yA rfl) rfl ?_
    refine l_nil (aT (w_ret ?_))
    apply a_ret
    · rfl
    · (apply Rs.tmp rfl; exact Rs.nil)
    · exact ⟨p, c, o, rfl, hp, hs, rfl⟩
    · (apply ent; (repeat constructor); done)
end Go.Proofs.YtekhbjlplfbdkaaGreatDoor
namespace Go.Proofs.YtekhbjlplfbdkaaGreatDoor
open Go Go.RowKit Sl Eg
set_option maxRecDepth 10000
variable {E : Env} {Es : List Ent} {pp tb s most : Nat}
theorem ct_begun_nil (hE : Seat E) (hB : Base E.w0) {A : Option Addr} {C : Nat} :
    Ct E 16 [.slice A 0 C] [] (fun v Q => ∃ pp s tb M, v = .tuple #[.pointer (some ⟨pp, 0, none⟩), .slice none 0 0, .bool true] ∧ M.length ≤ 8 ∧ Q = [cells pp [.pointer (some ⟨s, 0, none⟩), .pointer (some ⟨tb, 0, none⟩)] 59, tabP tb s (rls M), storeP s 1048576 M]) := by
  refine fn_enter (hE.fn Tryz.func16) rfl rfl rfl (fun R => ?_)
  simp only [argsL, List.cons_append, List.nil_append]
  refine w_seq (wR ?_)
  refine lY (yA rfl) rfl ?_
  refine lY (yA rfl) rfl ?_
  refine lY (yA rfl) rfl ?_
  refine l_nil (aT (w_seq (wR ?_)))
  apply lL (by kernel_rfl) rfl
  apply ld_call (ct_intNew (most := 1048576) hE (Nat.le_refl _)) rfl (hE.f (by kernel_rfl))
  · ((repeat constructor); done)
  rintro _ _ ⟨s, rfl, rfl⟩
  simp only [List.cons_append, List.nil_append]
  skip
  apply lL (by kernel_rfl) rfl
  apply ld_call (ct_sigNew hE) rfl (hE.f (by kernel_rfl))
  · ((repeat constructor); done)
  rintro _ _ ⟨pp, tb, rfl, rfl⟩
  simp only [List.cons_append, List.nil_append]
  refine lY (yA rfl) rfl ?_
  refine l_nil (aT (w_seq (wR ?_)))
  refine lY (yM rfl) rfl ?_
  apply lL (by kernel_rfl) rfl
  refine ld_buildSlice (hE.t rfl) (hE.t rfl) rfl rfl rfl (fun b21 => ?_)
  apply lL (by kernel_rfl) rfl
  refine ld_mark rfl (hE.t rfl) (hE.t rfl) (by ((repeat constructor); done)) ?_
  skip
  have n1 : ([97, 98] : List UInt8).length ≤ 65536 := by decide
  have r1 : ([] : List Ent).length + 2 * ([97, 98] : List UInt8).length ≤ 1048576 := by decide
  apply lL (by kernel_rfl) rfl
  apply ld_call (ct_Of (bs := [97, 98]) hE hB n1 r1) rfl (hE.f (by kernel_rfl))
  · ((repeat constructor); done)
  rintro _ _ ⟨M1, x, rfl, hM1, tx1, gx, -, rfl⟩
  simp only [List.cons_append, List.nil_append]
  refine lY (yM rfl) rfl ?_
  refine lY (y_extract rfl rfl) rfl ?_
  refine lY (y_extract rfl rfl) rfl ?_
  refine lY (yA rfl) rfl ?_
  refine lY (yA rfl) rfl ?_
  refine l_nil (aT (w_seq (wR ?_)))
  refine lY (yM rfl) rfl ?_
  apply lL (by kernel_rfl) rfl
  refine ld_buildSlice (hE.t rfl) (hE.t rfl) rfl rfl rfl (fun b28 => ?_)
  apply lL (by kernel_rfl) rfl
  refine ld_mark rfl (hE.t rfl) (hE.t rfl) (by ((repeat constructor); done)) ?_
  skip
  have n2 : ([98] : List UInt8).length ≤ 65536 := by decide
  have r2 : ([] ++ M1 : List Ent).length + 2 * ([98] : List UInt8).length ≤ 1048576 := by simp at hM1 ⊢; omega
  apply lL (by kernel_rfl) rfl
  apply ld_call (ct_Of (bs := [98]) hE hB n2 r2) rfl (hE.f (by kernel_rfl))
  · ((repeat constructor); done)
  rintro _ _ ⟨M2, y, rfl, hM2, ty1, gy, -, rfl⟩
  simp only [List.cons_append, List.nil_append]
  simp only [List.nil_append] at tx1 gx ty1 gy
  have gx' : good (rls (M1 ++ M2)) x := by rw [rls_append]; exact good_more _ gx
  have tx2 : txt (rls (M1 ++ M2)) x = [97, 98] := by rw [rls_append, txt_ext _ gx.1]; exact tx1
  have lx : len (rls (M1 ++ M2)) x = 2 := by unfold len; rw [tx2]; rfl
  have ly : len (rls (M1 ++ M2)) y = 1 := by unfold len; rw [ty1]; rfl
  have hMM : (M1 ++ M2 : List Ent).length ≤ 8 := by simp at hM1 hM2 ⊢; omega
  refine lY (yM rfl) rfl ?_
  refine lY (y_extract rfl rfl) rfl ?_
  refine lY (y_extract rfl rfl) rfl ?_
  refine lY (yA rfl) rfl ?_
  refine lY (yA rfl) rfl ?_
  refine l_nil (aT (w_seq (wR ?_)))
  refine lY (yM rfl) rfl ?_
  refine lY (yM rfl) rfl ?_
  refine lY (yM rfl) rfl ?_
  apply lL (by kernel_rfl) rfl
  apply ld_call (ct_Compare hE hB gy gx' (by omega)) rfl (hE.f (by kernel_rfl))
  · ((repeat constructor); done)
  rintro _ _ ⟨rfl, rfl⟩
  rw [tx2, ty1, lit6]
  simp only [List.cons_append, List.nil_append]
  refine lY (yM rfl) rfl ?_
  refine lY (y_extract rfl rfl) rfl ?_
  refine lY (y_extract rfl rfl) rfl ?_
  refine lY (yA rfl) rfl ?_
  refine lY (yA rfl) rfl ?_
  refine l_nil (aT (w_seq (w_seq (wR ?_))))
  refine lY (yM rfl) rfl ?_
  apply lY
  · (first | exact y_eq_ptr rfl (hE.t rfl) | exact y_eq_nil rfl (hE.t rfl))
  · rfl
  refine lY (yM rfl) rfl ?_
  skip
  refine l_on rfl rfl ?_
  refine lY (yM rfl) rfl ?_
  refine l_on rfl rfl ?_
  apply lY
  · (first | exact y_ok_ne rfl (hE.t rfl) | exact y_err_ne rfl (hE.t rfl))
  · rfl
  apply lY
  · (first | exact y_pick_t rfl rfl | exact y_pick_f rfl rfl)
  · rfl
  refine lY (yM rfl) rfl ?_
  skip
  refine l_on rfl rfl ?_
  refine lY (yM rfl) rfl ?_
  refine l_on rfl rfl ?_
  apply lY
  · (first | exact y_ok_ne rfl (hE.t rfl) | exact y_err_ne rfl (hE.t rfl))
  · rfl
  apply lY
  · (first | exact y_pick_t rfl rfl | exact y_pick_f rfl rfl)
  · rfl
  refine lY (yM rfl) rfl ?_
  skip
  refine l_on rfl rfl ?_
  refine lY (yM rfl) rfl ?_
  refine l_on rfl rfl ?_
  apply lY
  · (first | exact y_ok_ne rfl (hE.t rfl) | exact y_err_ne rfl (hE.t rfl))
  · rfl
  apply lY
  · (first | exact y_pick_t rfl rfl | exact y_pick_f rfl rfl)
  · rfl
  refine lY (yM rfl) rfl ?_
  skip
  refine l_on rfl rfl ?_
  refine lY (yM rfl) rfl ?_
  refine l_on rfl rfl ?_
  refine lY (y_ne rfl rfl) rfl ?_
  apply lY
  · (first | exact y_pick_t rfl rfl | exact y_pick_f rfl rfl)
  · rfl
  refine l_nil (aT ?_)
  refine w_cond_f rfl ?_
  refine w_skip (aT (w_seq (wR ?_)))
  refine lY (yA rfl) rfl ?_
  refine l_nil (aT (w_seq (w_seq (wR ?_))))
  refine lY (yM rfl) rfl ?_
  refine lY (y_len_slice rfl (hE.t rfl)) rfl ?_
  refine lY (yM rfl) rfl ?_
  refine l_nil (aT (w_block ?_))
  refine w_rounds 1 ?_
  refine r_succ ?_
  refine w_seq (wR ?_)
  refine lY (y_lt rfl rfl) rfl ?_
  refine l_nil (aT (w_seq ?_))
  refine w_cond_f rfl ?_
  refine w_exit (a_then_exit (a_then_exit (a_block_exit (aT (w_seq (wR ?_))))))
  refine lY (yM rfl) rfl ?_
  refine lY (yM rfl) rfl ?_
  refine lY (yA rfl) rfl ?_
  refine lY (yA rfl) rfl ?_
  refine lY (yA rfl) rfl ?_
  refine l_nil (aT (w_ret ?_))
  apply a_ret
  · rfl
  · (apply Rs.tmp rfl; apply Rs.tmp rfl; apply Rs.tmp rfl; exact Rs.nil)
  · exact ⟨pp, s, tb, M1 ++ M2, rfl, hMM, rfl⟩
  · (apply ent; (repeat constructor); done)
theorem srt_pw {l : List (List UInt8)} (h : Srt l) : l.Pairwise (fun A B => cmpT A B ≤ 0) := by
  rw [List.pairwise_iff_getElem]
  intro i j hi hj hij
  exact h.le (i := i) (j := j) (by omega) (List.getElem?_eq_getElem hi) (List.getElem?_eq_getElem hj)
theorem out_eq {L : List Rl} {ts W : List Tx} {ids out : List Nat} (hs : Sgs L ts ids) (hp : out.Perm ids) (ho : Srt (out.map (txt L))) (hW : W.Perm ts) (hWs : Srt (bsL W)) : out.map (txt L) = bsL W := by
  have e : ids.map (txt L) = bsL ts := by
    apply List.ext_getElem?
    intro k
    unfold bsL
    rw [List.getElem?_map, List.getElem?_map]
    rcases Nat.lt_or_ge k ts.length with h | h
    · obtain ⟨t, ht⟩ : ∃ t, ts[k]? = some t := ⟨_, List.getElem?_eq_getElem h⟩
      obtain ⟨x, hx⟩ : ∃ x, ids[k]? = some x := ⟨_, List.getElem?_eq_getElem (by rw [hs.len]; exact h)⟩
      rw [ht, hx]
      simp [(hs.at_ k t x ht hx).1]
    · rw [List.getElem?_eq_none h, List.getElem?_eq_none (by rw [hs.len]; exact h)]
      rfl
  refine List.Perm.eq_of_pairwise (le := fun A B => cmpT A B ≤ 0) (fun A B _ _ h1 h2 => ?_) (srt_pw ho) (srt_pw hWs) ?_
  · have := cmpT_swap A B
    exact cmpT_zero.1 (by omega)
  · have h1 := hp.map (txt L)
    rw [e] at h1
    exact h1.trans (hW.map Tx.bs).symm
theorem ct_OrderSorts (hE : Seat E) (hB : Base E.w0) {ts : List Tx} {A : Option Addr} {C : Nat} (hT : Rdb E.w0 A (ts.map txV) old) (hok0 : ∀ t ∈ ts, OkT E.w0 t) (hn : ts.length ≤ 140737488355328) :
    Ct E 4 [.slice A ts.length C] [] (fun v Q => v = .bool true ∧ Q = []) := by
  refine fn_enter (hE.fn Tryz.func4) rfl rfl rfl (fun R => ?_)
  simp only [argsL, List.cons_append, List.nil_append]
  refine w_seq (wR ?_)
  refine lY (yA rfl) rfl ?_
  refine l_nil (aT (w_seq (w_seq (wR ?_))))
  refine lY (yM rfl) rfl ?_
  refine l_heap ent_old ?_
  apply lL (by kernel_rfl) rfl
  apply ld_call (ct_long hE hT hok0 hn) rfl (hE.f (by kernel_rfl))
  · ((repeat constructor); done)
  rintro _ _ ⟨rfl, rfl⟩
  simp only [List.cons_append, List.nil_append]
  refine l_nil (aT ?_)
  refine w_cond_d rfl (fun h1 => ?_) (fun h1 => ?_)
  · skip
    refine w_seq (wR ?_)
    refine lY (yA rfl) rfl ?_
    refine l_nil (aT (w_ret (a_then_ret ?_)))
    apply a_ret
    · rfl
    · (apply Rs.tmp rfl; exact Rs.nil)
    · exact ⟨rfl, rfl⟩
    · (apply ent; (repeat constructor); done)
  skip
  have hn2 : ts.length + lens ts ≤ 2000 := by omega
  skip
  by_cases hts : ts = []
  · subst hts
    refine w_skip (aT (w_seq (wR ?_)))
    refine lY (yM rfl) rfl ?_
    apply lL (by kernel_rfl) rfl
    apply ld_call (ct_begun_nil hE hB) rfl (hE.f (by kernel_rfl))
    · ((repeat constructor); done)
    rintro _ _ ⟨pp, s, tb, M, rfl, hM, rfl⟩
    simp only [List.cons_append, List.nil_append]
    refine lY (yM rfl) rfl ?_
    refine lY (y_extract rfl rfl) rfl ?_
    refine lY (y_extract rfl rfl) rfl ?_
    refine lY (y_extract rfl rfl) rfl ?_
    refine lY (yA rfl) rfl ?_
    refine lY (yA rfl) rfl ?_
    refine lY (yA rfl) rfl ?_
    refine l_nil (aT (w_seq (w_seq (wR ?_))))
    refine lY (yM rfl) rfl ?_
    refine lY (y_not rfl) rfl ?_
    refine l_nil (aT ?_)
    refine w_cond_f rfl ?_
    refine w_skip (aT (w_seq (wR ?_)))
    refine lY (yM rfl) rfl ?_
    refine lY (yM rfl) rfl ?_
    apply lL (by kernel_rfl) rfl
    apply ld_call (ct_Sort_nil hE hB) rfl (hE.f (by kernel_rfl))
    · ((repeat constructor); done)
    rintro _ _ ⟨rfl, rfl⟩
    simp only [List.cons_append, List.nil_append]
    refine lY (yM rfl) rfl ?_
    refine lY (y_extract rfl rfl) rfl ?_
    refine lY (y_extract rfl rfl) rfl ?_
    refine lY (yA rfl) rfl ?_
    refine lY (yA rfl) rfl ?_
    refine l_nil (aT (w_seq (wR ?_)))
    refine lY (yM rfl) rfl ?_
    apply lL (by kernel_rfl) rfl
    apply ld_call (ct_refSort (ts := []) hE hT hok0 (by decide)) rfl (hE.f (by kernel_rfl))
    · ((repeat constructor); done)
    rintro _ _ ⟨p, c, W, rfl, hW, hWs, rfl⟩
    obtain rfl : W = [] := hW.eq_nil
    simp only [List.cons_append, List.nil_append]
    refine lY (yA rfl) rfl ?_
    refine l_nil (aT (w_seq (w_seq (wR ?_))))
    refine lY (yM rfl) rfl ?_
    apply lY
    · (first | exact y_ok_ne rfl (hE.t rfl) | exact y_err_ne rfl (hE.t rfl))
    · rfl
    refine lY (yM rfl) rfl ?_
    skip
    refine l_on rfl rfl ?_
    refine lY (yM rfl) rfl ?_
    refine l_on rfl rfl ?_
    refine lY (y_len_slice rfl (hE.t rfl)) rfl ?_
    refine l_on rfl rfl ?_
    refine lY (yM rfl) rfl ?_
    refine l_on rfl rfl ?_
    refine lY (y_len_slice rfl (hE.t rfl)) rfl ?_
    refine l_on rfl rfl ?_
    refine lY (y_ne rfl rfl) rfl ?_
    apply lY
    · (first | exact y_pick_t rfl rfl | exact y_pick_f rfl rfl)
    · rfl
    refine l_nil (aT ?_)
    refine w_cond_f rfl ?_
    refine w_skip (aT (w_seq (w_seq (wR ?_))))
    refine lY (yM rfl) rfl ?_
    refine lY (y_len_slice rfl (hE.t rfl)) rfl ?_
    refine lY (yM rfl) rfl ?_
    refine l_nil (aT (w_block ?_))
    refine w_rounds 1 ?_
    refine r_succ ?_
    refine w_seq (wR ?_)
    refine lY (y_lt rfl rfl) rfl ?_
    refine l_nil (aT (w_seq ?_))
    refine w_cond_f rfl ?_
    refine w_exit (a_then_exit (a_then_exit (a_block_exit (aT (w_seq (wR ?_))))))
    refine lY (yA rfl) rfl ?_
    refine l_nil (aT (w_ret ?_))
    apply a_ret
    · rfl
    · (apply Rs.tmp rfl; exact Rs.nil)
    · exact ⟨rfl, rfl⟩
    · (apply ent; (repeat constructor); done)
  · skip
    have h0 : 0 < ts.length := List.length_pos_iff.2 hts
    refine w_skip (aT (w_seq (wR ?_)))
    refine lY (yM rfl) rfl ?_
    apply lL (by kernel_rfl) rfl
    apply ld_call (ct_begun hE hB hT hok0 hn2) rfl (hE.f (by kernel_rfl))
    · ((repeat constructor); done)
    rintro _ _ ⟨pp, s, tb, M, ids, p, c, rfl, hM, hsg, rfl⟩
    have hlen := hsg.len
    simp only [List.cons_append, List.nil_append]
    refine l_say (p := sl p c 27 1 ids.length (idC ids)) (by ((repeat constructor); done)) (fun _ h => sl_form h (by omega)) ?_
    rintro ⟨g, rfl⟩
    have hat : ∀ x ∈ ids, ∃ t ∈ ts, txt (rls M) x = t.bs ∧ good (rls M) x ∧ Sg (rls M) t.bs x := fun x hx => by
      obtain ⟨k, hk⟩ := List.getElem?_of_mem hx
      obtain ⟨t, ht⟩ : ∃ t, ts[k]? = some t := ⟨_, List.getElem?_eq_getElem (by have := (List.getElem?_eq_some_iff.1 hk).1; omega)⟩
      exact ⟨t, List.mem_of_getElem? ht, hsg.at_ k t x ht hk⟩
    have hg : ∀ x ∈ ids, good (rls M) x := fun x hx => by obtain ⟨t, _, h⟩ := hat x hx; exact h.2.1
    have hgl : ∀ x ∈ ids, len (rls M) x ≤ 4000000 := fun x hx => by
      obtain ⟨t, ht, h, _⟩ := hat x hx
      have := len_le_lens ht
      unfold len
      rw [h]
      omega
    refine lY (yM rfl) rfl ?_
    refine lY (y_extract rfl rfl) rfl ?_
    refine lY (y_extract rfl rfl) rfl ?_
    refine lY (y_extract rfl rfl) rfl ?_
    refine lY (yA rfl) rfl ?_
    refine lY (yA rfl) rfl ?_
    refine lY (yA rfl) rfl ?_
    refine l_nil (aT (w_seq (w_seq (wR ?_))))
    refine lY (yM rfl) rfl ?_
    refine lY (y_not rfl) rfl ?_
    refine l_nil (aT ?_)
    refine w_cond_f rfl ?_
    refine w_skip (aT (w_seq (wR ?_)))
    refine lY (yM rfl) rfl ?_
    refine lY (yM rfl) rfl ?_
    apply lL (by kernel_rfl) rfl
    apply ld_call (ct_Sort (c := c) hE hB hg hgl (by omega) (by omega)) rfl (hE.f (by kernel_rfl))
    · ((repeat constructor); done)
    rintro _ _ ⟨g', c', out, rfl, hp, hso, rfl⟩
    simp only [List.cons_append, List.nil_append]
    refine lY (yM rfl) rfl ?_
    refine lY (y_extract rfl rfl) rfl ?_
    refine lY (y_extract rfl rfl) rfl ?_
    refine lY (yA rfl) rfl ?_
    refine lY (yA rfl) rfl ?_
    refine l_nil (aT (w_seq (wR ?_)))
    refine lY (yM rfl) rfl ?_
    refine l_heap ent_old ?_
    apply lL (by kernel_rfl) rfl
    apply ld_call (ct_refSort hE hT hok0 (by omega)) rfl (hE.f (by kernel_rfl))
    · ((repeat constructor); done)
    rintro _ _ ⟨pw, cw, W, rfl, hW, hWs, rfl⟩
    simp only [List.cons_append, List.nil_append]
    have hWl := hW.length_eq
    have hol := hp.length_eq
    refine lY (yA rfl) rfl ?_
    refine l_nil (aT (w_seq (w_seq (wR ?_))))
    refine lY (yM rfl) rfl ?_
    apply lY
    · (first | exact y_ok_ne rfl (hE.t rfl) | exact y_err_ne rfl (hE.t rfl))
    · rfl
    refine lY (yM rfl) rfl ?_
    skip
    refine l_on rfl rfl ?_
    refine lY (yM rfl) rfl ?_
    refine l_on rfl rfl ?_
    refine lY (y_len_slice rfl (hE.t rfl)) rfl ?_
    refine l_on rfl rfl ?_
    refine lY (yM rfl) rfl ?_
    refine l_on rfl rfl ?_
    refine lY (y_len_slice rfl (hE.t rfl)) rfl ?_
    refine l_on rfl rfl ?_
    refine lY (y_ne rfl rfl) rfl ?_
    apply lY
    · (first | exact y_pick_t rfl rfl | exact y_pick_f rfl rfl)
    · rfl
    refine l_nil (aT ?_)
    refine w_cond_d rfl (fun h2 => ?_) (fun h2 => ?_)
    · exfalso; omega
    skip
    have heq := out_eq hsg hp hso hW hWs
    have hlw : lens W = lens ts := by unfold lens; exact (hW.map _).sum_nat
    refine w_say (p := storeP s 1048576 M) (by ((repeat constructor); done)) (fun _ h => storeP_says h) (fun hsay => ?_)
    refine w_say (p := sl pw cw 32 1 W.length (W.map txV)) (by ((repeat constructor); done)) (fun _ h => sl_form h (by omega)) ?_
    rintro ⟨gw, rfl⟩
    refine w_skip (aT (w_seq (w_seq (wR ?_))))
    refine lY (yM rfl) rfl ?_
    refine lY (y_len_slice rfl (hE.t rfl)) rfl ?_
    refine lY (yM rfl) rfl ?_
    refine l_nil (aT (w_block ?_))
    skip
    refine w_loop (fun x : Nat × List Ent => [(3, .pointer (some ⟨pp, 0, none⟩)), (8, .slice (some ⟨gw, 0, none⟩) W.length cw), (40, .slice (some ⟨g', 0, none⟩) ids.length c'), (41, .int .i64 (ids.length : Nat)), (42, .int .i64 (x.1 : Nat))]) (fun x => [cells pp [.pointer (some ⟨s, 0, none⟩), .pointer (some ⟨tb, 0, none⟩)] 59, tabP tb s (rls (M ++ x.2)), storeP s 1048576 (M ++ x.2), sl (some ⟨g', 0, none⟩) c' 27 1 ids.length (idC out), sl (some ⟨gw, 0, none⟩) cw 32 1 W.length (W.map txV), R]) (fun x => ids.length - x.1) (fun x => x.1 ≤ ids.length ∧ x.2.length ≤ 2 * lens (W.take x.1)) (0, []) ?_ ?_ ?_ ?_
    · exact ⟨Nat.zero_le _, Nat.zero_le _⟩
    · exact ⟨rfl, rfl, rfl, rfl, rfl, trivial⟩
    · show ∀ k, _ → stars [cells pp [.pointer (some ⟨s, 0, none⟩), .pointer (some ⟨tb, 0, none⟩)] 59, tabP tb s (rls (M ++ [])), storeP s 1048576 (M ++ []), _, _, R] k
      rw [List.append_nil]
      (apply ent; (repeat constructor); done)
    rintro ⟨k, M2⟩ ⟨hk, hM2⟩
    simp only at hk hM2 ⊢
    skip
    refine w_seq (wR ?_)
    refine lY (y_lt rfl rfl) rfl ?_
    refine l_nil (aT (w_seq ?_))
    refine w_cond_d rfl (fun h3 => ?_) (fun h3 => ?_)
    · skip
      have hkl : k < ids.length := by omega
      obtain ⟨y, hy⟩ : ∃ y, out[k]? = some y := ⟨_, List.getElem?_eq_getElem (by omega)⟩
      obtain ⟨w, hw⟩ : ∃ w, W[k]? = some w := ⟨_, List.getElem?_eq_getElem (by omega)⟩
      have f0 := idC_get hy k rfl
      have f1 : (W.map txV)[((k : Nat) : Int).toNat]? = some (.slice w.a w.bs.length w.c) := txV_get hw
      have how := hok0 w (hW.subset (List.mem_of_getElem? hw))
      have hwl := len_le_lens (List.mem_of_getElem? hw)
      have hsy : Sg (rls M) w.bs y := by
        obtain ⟨t, ht, e1, e2, e3⟩ := hat y (hp.subset (List.mem_of_getElem? hy))
        have e4 : (out.map (txt (rls M)))[k]? = (bsL W)[k]? := by rw [heq]
        rw [List.getElem?_map, hy, bsL_get hw] at e4
        simp only [Option.map_some, Option.some.injEq] at e4
        rw [← e4, e1]
        exact e3
      have hlt := lens_take hw
      have hle1 := lens_take_le W k
      have hroom : (M ++ M2).length + 2 * w.bs.length ≤ 1048576 := by
        rw [List.length_append]
        omega
      refine w_skip (aT (w_seq (w_block (w_seq (wR ?_)))))
      refine lY (yM rfl) rfl ?_
      apply lY
      · (first | exact y_indexAddr1 rfl rfl (hE.t rfl) (by omega) (by omega) | exact y_indexAddr rfl rfl (hE.t rfl) (by omega) (by omega))
      · rfl
      apply lY
      · (first | (apply y_load rfl (hE.t rfl) rfl; (repeat (first | rfl | assumption | constructor)); done) | exact y_load_old rfl (hE.t rfl) rfl (by assumption) | (apply y_load_ro rfl (hE.t rfl) rfl; (focus ((repeat constructor); done)); (focus assumption)) | (apply y_load_q rfl (hE.t rfl) rfl (by assumption); (focus ((repeat constructor); done)); (first | ((focus exact f0); (focus omega)) | ((focus exact f1); (focus omega)) | ((focus assumption); (focus omega)))))
      · rfl
      refine lY (yA rfl) rfl ?_
      refine lY (yA rfl) rfl ?_
      refine l_nil (aT (w_seq (wR ?_)))
      refine lY (yM rfl) rfl ?_
      refine lY (yM rfl) rfl ?_
      refine lY (yM rfl) rfl ?_
      apply lY
      · (first | exact y_indexAddr1 rfl rfl (hE.t rfl) (by omega) (by omega) | exact y_indexAddr rfl rfl (hE.t rfl) (by omega) (by omega))
      · rfl
      apply lY
      · (first | (apply y_load rfl (hE.t rfl) rfl; (repeat (first | rfl | assumption | constructor)); done) | exact y_load_old rfl (hE.t rfl) rfl (by assumption) | (apply y_load_ro rfl (hE.t rfl) rfl; (focus ((repeat constructor); done)); (focus assumption)) | (apply y_load_q rfl (hE.t rfl) rfl (by assumption); (focus ((repeat constructor); done)); (first | ((focus exact f0); (focus omega)) | ((focus exact f1); (focus omega)) | ((focus assumption); (focus omega)))))
      · rfl
      refine l_heap ent_old ?_
      apply lL (by kernel_rfl) rfl
      apply ld_call (ct_OfQ (Es := M ++ M2) (most := 1048576) (bs := w.bs) hE hB how.1.rd (by omega) hroom) rfl (hE.f (by kernel_rfl))
      · ((repeat constructor); done)
      rintro _ _ ⟨M3, id, rfl, hM3, tx3, g3, s3, rfl⟩
      simp only [List.cons_append, List.nil_append]
      refine l_say (p := storeP s 1048576 ((M ++ M2) ++ M3)) (by ((repeat constructor); done)) (fun _ h => storeP_says h) (fun hsay2 => ?_)
      have hid : id = y := by
        have hs4 : Sg (rls ((M ++ M2) ++ M3)) w.bs y := by
          rw [List.append_assoc, rls_append]
          exact hsy.ext _
        exact Sg.fn hsay2.1 s3 hs4
      subst hid
      refine lY (yM rfl) rfl ?_
      refine lY (y_extract rfl rfl) rfl ?_
      refine lY (y_extract rfl rfl) rfl ?_
      refine lY (yA rfl) rfl ?_
      refine lY (yA rfl) rfl ?_
      refine l_nil (aT (w_seq (wR ?_)))
      refine lY (yM rfl) rfl ?_
      apply lY
      · (first | exact y_ok_ne rfl (hE.t rfl) | exact y_err_ne rfl (hE.t rfl))
      · rfl
      refine lY (yM rfl) rfl ?_
      skip
      refine l_on rfl rfl ?_
      refine lY (yM rfl) rfl ?_
      refine l_on rfl rfl ?_
      refine lY (yM rfl) rfl ?_
      refine l_on rfl rfl ?_
      refine lY (y_ne rfl rfl) rfl ?_
      apply lY
      · (first | exact y_pick_t rfl rfl | exact y_pick_f rfl rfl)
      · rfl
      refine l_nil (aT ?_)
      refine w_cond_d rfl (fun h4 => ?_) (fun h4 => ?_)
      · exact absurd rfl h4
      skip
      refine w_skip (a_block (aT (wR ?_)))
      refine lY (y_add rfl rfl (by omega) (by omega)) rfl ?_
      refine lY (yM rfl) rfl ?_
      refine l_nil ?_
      refine a_round (ι := Nat × List Ent) (j := (k + 1, M2 ++ M3)) ⟨by show k + 1 ≤ ids.length; omega, ?_⟩ (by show ids.length - (k + 1) < ids.length - k; omega) ⟨rfl, rfl, rfl, rfl, congrArg some (int_eq (by simp only; omega)), trivial⟩ ?_
      · show (M2 ++ M3).length ≤ 2 * lens (W.take (k + 1))
        rw [List.length_append]
        omega
      · show ∀ k, _ → stars [cells pp [.pointer (some ⟨s, 0, none⟩), .pointer (some ⟨tb, 0, none⟩)] 59, tabP tb s (rls (M ++ (M2 ++ M3))), storeP s 1048576 (M ++ (M2 ++ M3)), _, _, R] k
        rw [← List.append_assoc]
        (apply ent; (repeat constructor); done)
    · skip
      refine w_exit (a_then_exit (a_then_exit (a_block_exit (aT (w_seq (wR ?_))))))
      refine lY (yA rfl) rfl ?_
      refine l_nil (aT (w_ret ?_))
      apply a_ret
      · rfl
      · (apply Rs.tmp rfl; exact Rs.nil)
      · exact ⟨rfl, rfl⟩
      · (apply ent; (repeat constructor); done)
end Go.Proofs.YtekhbjlplfbdkaaGreatDoor
