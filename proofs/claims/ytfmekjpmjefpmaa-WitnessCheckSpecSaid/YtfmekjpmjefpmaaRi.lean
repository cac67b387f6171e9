/- ref.shown and ref.Check, walked: for few clubs they say what Check says. -/
import Derived.Test.YtfmekjpmjefpmaaRh
import Derived.Test.YtfmekjpmjefpmaaRf
import Derived.Test.YtfmekjpmjefpmaaRe
import Derived.Test.YtfmekjpmjefpmaaLone
set_option linter.unusedSimpArgs false
set_option linter.unusedVariables false
namespace Go.Proofs.Ytfmekjpmjefpmaa
open Go.RowKit

theorem alwaysN_iff (q : Race) (ce : Bool) : ∀ (k : Nat) (o : List Int), alwaysN q ce k o = true ↔ ∀ t : List Int, t.length = k → (∀ x ∈ t, 1 ≤ x ∧ x ≤ 3) → against q ce (o ++ t) = false
  | 0, o => by
    constructor
    · intro h t ht _
      have : t = [] := List.eq_nil_of_length_eq_zero ht
      subst this
      simpa [alwaysN] using h
    · intro h
      have := h [] rfl (by simp)
      simpa [alwaysN] using this
  | k + 1, o => by
    simp only [alwaysN, Bool.and_eq_true, alwaysN_iff q ce k]
    constructor
    · rintro ⟨h1, h2, h3⟩ t ht hx
      cases t with
      | nil => simp at ht
      | cons x t =>
        have hx1 := hx x List.mem_cons_self
        have ht' : t.length = k := by simpa using ht
        have hx' := fun y hy => hx y (List.mem_cons_of_mem _ hy)
        have hcase : x = 1 ∨ x = 2 ∨ x = 3 := by omega
        rcases hcase with rfl | rfl | rfl
        · simpa using h1 t ht' hx'
        · simpa using h2 t ht' hx'
        · simpa using h3 t ht' hx'
    · intro h
      have go : ∀ x : Int, 1 ≤ x ∧ x ≤ 3 → ∀ t : List Int, t.length = k → (∀ y ∈ t, 1 ≤ y ∧ y ≤ 3) → against q ce (o ++ [x] ++ t) = false := fun x hx t ht hy => by
        have := h (x :: t) (by simp [ht]) (fun y hm => by
          rcases List.mem_cons.1 hm with rfl | hm
          · exact hx
          · exact hy y hm)
        simpa using this
      exact ⟨go 1 (by omega), go 2 (by omega), go 3 (by omega)⟩
theorem always_search (q : Race) (ce : Bool) : alwaysN q ce q.games.length [] = searchB q ce := by
  rw [Bool.eq_iff_iff, alwaysN_iff]
  unfold searchB
  rw [decide_eq_true_iff]
  constructor
  · intro h o ho
    have := counts_len _ _ ho
    simpa using h o this.1 this.2
  · intro h t ht hx
    have := h t (by rw [← ht]; exact counts_mem t hx)
    simpa using this
theorem fewB_few {q : Race} (h6 : q.clubs.length ≤ 6) (k : Int) : fewB q k = true := by
  have := setsGe_len q k.toNat 0 h6
  rw [setsGe_zero] at this
  exact decide_eq_true (by omega)
theorem byFlow_few {q : Race} (h6 : q.clubs.length ≤ 6) : byFlow q = halves q := by
  rw [byFlow, fewB_few h6, fewB_few h6, Bool.and_true, Bool.and_true]

theorem len0 {α : Type} (l : List α) : ((l.length : Int) == 0) = decide (l.length = 0) := by
  rw [Bool.eq_iff_iff]; simp
theorem shown_flow {q : Race} {ce : Bool} {v : Verdict} (hf : byFlow q = true) : (((v.reached.length : Int) == 0) && ((v.missed.length : Int) == 0) && cutsB q ce v.cuts) = shownB q ce v := by
  unfold shownB
  rw [hf, if_pos rfl, len0, len0]
  by_cases h : 0 < v.reached.length + v.missed.length
  · rw [if_pos h]
    by_cases h1 : v.reached.length = 0
    · rw [decide_eq_false (show ¬ v.missed.length = 0 by omega)]; simp
    · rw [decide_eq_false h1]; simp
  · rw [if_neg h, decide_eq_true (show v.reached.length = 0 by omega), decide_eq_true (show v.missed.length = 0 by omega)]
    simp
theorem shown_search {q : Race} {ce : Bool} {v : Verdict} (hf : byFlow q = false) : ((((((v.reached.length : Int) == 0) && ((v.missed.length : Int) == 0)) && ((v.cuts.length : Int) == 0)) && bySearch q) && alwaysN q ce q.games.length []) = shownB q ce v := by
  unfold shownB
  rw [hf, if_neg (by simp : ¬ (false = true)), len0, len0, len0, always_search]
  by_cases h : 0 < v.reached.length + v.missed.length
  · rw [if_pos h]
    by_cases h1 : v.reached.length = 0
    · rw [decide_eq_false (show ¬ v.missed.length = 0 by omega)]; simp
    · rw [decide_eq_false h1]; simp
  · rw [if_neg h, decide_eq_true (show v.reached.length = 0 by omega), decide_eq_true (show v.missed.length = 0 by omega)]
    by_cases hc : v.cuts.length = 0
    · rw [decide_eq_true hc, decide_eq_false (show ¬ 0 < v.cuts.length by omega)]
      cases bySearch q <;> simp
    · rw [decide_eq_false hc, decide_eq_true (show 0 < v.cuts.length by omega)]
      simp
theorem unknown_ref {q : Race} {v : Verdict} {h : Bool} (hf : byFlow q = h) : ((((((v.reached.length : Int) == 0) && ((v.missed.length : Int) == 0)) && ((v.cuts.length : Int) == 0)) && !h) && !bySearch q) = unknownB q v := by
  unfold unknownB
  rw [hf]
  congr 2
  rw [Bool.eq_iff_iff]
  simp only [Bool.and_eq_true, beq_iff_eq]
  omega

set_option maxHeartbeats 8000000 in
set_option maxRecDepth 100000 in
theorem rshown_any (m : RaceM) (v : VerdictM) (w : World) (hq : RaceIn w m) (hv : VerdictIn w v) (hg : Good m.q) (h6 : m.q.clubs.length ≤ 6) :
    Calls Try.prog 26 #[m.v, v.val] w fun e w' => e = .returned (.bool (showsB m.q v.v)) ∧ Below w.heap.size w w' := by
  obtain ⟨q, A2, c2, A3, c3, A4, c4⟩ := m
  obtain ⟨⟨kd, re, mi, cu⟩, B1, d1, B2, d2, B3, d3⟩ := v
  dsimp only [RaceM.v, VerdictM.val] at *
  have HG := Lib.hid hg
  clear hg
  by_cases hk3 : kd = 3
  · subst hk3
    generalize hres : (Ending.returned (.bool (showsB q ⟨3, re, mi, cu⟩))) = R
    have HRes := Lib.hid hres
    clear hres
    go_enter Try.func26, Try.ntmps26
    go_upto_region 1 with (fail)
    obtain ⟨W0, hW0, hB0, X0, V0⟩ := box2 w #[.int .i64 q.win, .int .i64 q.draw, .slice A2 q.clubs.length c2, .slice A3 q.points.length c3, .slice A4 q.games.length c4, .int .i64 q.club, .int .i64 q.place] #[.int .i64 3, .slice B1 re.length d1, .slice B2 mi.length d2, .slice B3 cu.length d3] 25 28
    rw [hW0]
    clear hW0
    have hq0 := hq.below hB0
    have hv0 := hv.below hB0
    obtain ⟨lx, cx, fx⟩ := id X0
    obtain ⟨lv, kv, fv⟩ := id V0
    repeat (first | (with_reducible refine Seg.plainE ?_) | go_step)
    repeat (first
      | (refine' Seg.pick_or (b := _) (x := _) (c := _) (y := _) rfl rfl rfl rfl ?_; simp only [Act.put, List.setIfInBounds_toArray, List.set_cons_zero, List.set_cons_succ])
      | (refine' Seg.pick_and (b := _) (x := _) (c := _) (y := _) rfl rfl rfl rfl ?_; simp only [Act.put, List.setIfInBounds_toArray, List.set_cons_zero, List.set_cons_succ])
      | (refine' Seg.val (v := _) rfl (fun w' hw => ?_) ?_; rotate_left 1; (subst hw; go_simp; rfl); simp only [Act.put, List.setIfInBounds_toArray, List.set_cons_zero, List.set_cons_succ])
      | (refine' Seg.skip ?_ ?_; (focus (first | (rw [Seg.wanted1 rfl rfl]; simp; done) | (rw [Seg.wanted2 rfl rfl]; simp; done))); simp only [Act.put, List.setIfInBounds_toArray, List.set_cons_zero, List.set_cons_succ])
      | (refine' Seg.pick_or_if (b := _) (x := _) (G := _) (c := _) (y := _) (by first | exact Seg.wanted1 rfl rfl | exact Seg.wanted2 rfl rfl) rfl rfl rfl ?_; simp only [Act.put, List.setIfInBounds_toArray, List.set_cons_zero, List.set_cons_succ])
      | (refine' Seg.pick_and_if (b := _) (x := _) (G := _) (c := _) (y := _) (by first | exact Seg.wanted1 rfl rfl | exact Seg.wanted2 rfl rfl) rfl rfl rfl ?_; simp only [Act.put, List.setIfInBounds_toArray, List.set_cons_zero, List.set_cons_succ])
      | (refine' Seg.val_if (v := _) (G := _) (by first | exact Seg.wanted1 rfl rfl | exact Seg.wanted2 rfl rfl) (fun hb w' hw => ?_) ?_; rotate_left 1; (simp only [Bool.and_eq_true, beq_iff_eq] at hb; subst hw; go_simp; rfl); simp only [Act.put, List.setIfInBounds_toArray, List.set_cons_zero, List.set_cons_succ]))
    refine Seg.done ?_
    repeat ((conv in Seg.opt _ _ => skip); generalize Seg.opt _ _ = u)
    go_upto_region 4 with (fail)
    repeat (first | (with_reducible refine Seg.plainB ?_) | go_step)
    repeat (first
      | (refine' Seg.pick_or (b := _) (x := _) (c := _) (y := _) rfl rfl rfl rfl ?_; simp only [Act.put, List.setIfInBounds_toArray, List.set_cons_zero, List.set_cons_succ])
      | (refine' Seg.pick_and (b := _) (x := _) (c := _) (y := _) rfl rfl rfl rfl ?_; simp only [Act.put, List.setIfInBounds_toArray, List.set_cons_zero, List.set_cons_succ])
      | (refine' Seg.val (v := _) rfl (fun w' hw => ?_) ?_; rotate_left 1; (obtain ⟨hbc, _⟩ := bcell hw; go_simp; rfl); simp only [Act.put, List.setIfInBounds_toArray, List.set_cons_zero, List.set_cons_succ])
      | (refine' Seg.skip ?_ ?_; (focus (first | (rw [Seg.wanted1 rfl rfl]; simp; done) | (rw [Seg.wanted2 rfl rfl]; simp; done))); simp only [Act.put, List.setIfInBounds_toArray, List.set_cons_zero, List.set_cons_succ])
      | (refine' Seg.pick_or_if (b := _) (x := _) (G := _) (c := _) (y := _) (by first | exact Seg.wanted1 rfl rfl | exact Seg.wanted2 rfl rfl) rfl rfl rfl ?_; simp only [Act.put, List.setIfInBounds_toArray, List.set_cons_zero, List.set_cons_succ])
      | (refine' Seg.pick_and_if (b := _) (x := _) (G := _) (c := _) (y := _) (by first | exact Seg.wanted1 rfl rfl | exact Seg.wanted2 rfl rfl) rfl rfl rfl ?_; simp only [Act.put, List.setIfInBounds_toArray, List.set_cons_zero, List.set_cons_succ])
      | (refine' Seg.val_if (v := _) (G := _) (by first | exact Seg.wanted1 rfl rfl | exact Seg.wanted2 rfl rfl) (fun hb w' hw => ?_) ?_; rotate_left 1; (simp only [Bool.and_eq_true, beq_iff_eq] at hb; obtain ⟨hbc, _⟩ := bcell hw; go_simp; rfl); simp only [Act.put, List.setIfInBounds_toArray, List.set_cons_zero, List.set_cons_succ]))
    refine' Seg.call_if (v := _) (G := _) (f := _) (args := _) (by first | exact Seg.wanted1 rfl rfl | exact Seg.wanted2 rfl rfl) (fun hb w' => ?_) (fun hb w' hw => callB hw (rreached_any ⟨q, A2, c2, A3, c3, A4, c4⟩ B1 d1 re w' (hq0.below hw) (hv0.below hw).h1)) ?_
    · simp only [Bool.and_eq_true, beq_iff_eq] at hb
      go_simp
    simp only [Act.put, List.setIfInBounds_toArray, List.set_cons_zero, List.set_cons_succ]
    repeat (first
      | (refine' Seg.pick_or (b := _) (x := _) (c := _) (y := _) rfl rfl rfl rfl ?_; simp only [Act.put, List.setIfInBounds_toArray, List.set_cons_zero, List.set_cons_succ])
      | (refine' Seg.pick_and (b := _) (x := _) (c := _) (y := _) rfl rfl rfl rfl ?_; simp only [Act.put, List.setIfInBounds_toArray, List.set_cons_zero, List.set_cons_succ])
      | (refine' Seg.val (v := _) rfl (fun w' hw => ?_) ?_; rotate_left 1; (obtain ⟨hbc, _⟩ := bcell hw; go_simp; rfl); simp only [Act.put, List.setIfInBounds_toArray, List.set_cons_zero, List.set_cons_succ])
      | (refine' Seg.skip ?_ ?_; (focus (first | (rw [Seg.wanted1 rfl rfl]; simp; done) | (rw [Seg.wanted2 rfl rfl]; simp; done))); simp only [Act.put, List.setIfInBounds_toArray, List.set_cons_zero, List.set_cons_succ])
      | (refine' Seg.pick_or_if (b := _) (x := _) (G := _) (c := _) (y := _) (by first | exact Seg.wanted1 rfl rfl | exact Seg.wanted2 rfl rfl) rfl rfl rfl ?_; simp only [Act.put, List.setIfInBounds_toArray, List.set_cons_zero, List.set_cons_succ])
      | (refine' Seg.pick_and_if (b := _) (x := _) (G := _) (c := _) (y := _) (by first | exact Seg.wanted1 rfl rfl | exact Seg.wanted2 rfl rfl) rfl rfl rfl ?_; simp only [Act.put, List.setIfInBounds_toArray, List.set_cons_zero, List.set_cons_succ])
      | (refine' Seg.val_if (v := _) (G := _) (by first | exact Seg.wanted1 rfl rfl | exact Seg.wanted2 rfl rfl) (fun hb w' hw => ?_) ?_; rotate_left 1; (simp only [Bool.and_eq_true, beq_iff_eq] at hb; obtain ⟨hbc, _⟩ := bcell hw; go_simp; rfl); simp only [Act.put, List.setIfInBounds_toArray, List.set_cons_zero, List.set_cons_succ]))
    refine' Seg.call_if (v := _) (G := _) (f := _) (args := _) (by first | exact Seg.wanted1 rfl rfl | exact Seg.wanted2 rfl rfl) (fun hb w' => ?_) (fun hb w' hw => callB hw (rmissed_any ⟨q, A2, c2, A3, c3, A4, c4⟩ B2 d2 mi w' (hq0.below hw) (hv0.below hw).h2)) ?_
    · simp only [Bool.and_eq_true, beq_iff_eq] at hb
      go_simp
    simp only [Act.put, List.setIfInBounds_toArray, List.set_cons_zero, List.set_cons_succ]
    repeat (first
      | (refine' Seg.pick_or (b := _) (x := _) (c := _) (y := _) rfl rfl rfl rfl ?_; simp only [Act.put, List.setIfInBounds_toArray, List.set_cons_zero, List.set_cons_succ])
      | (refine' Seg.pick_and (b := _) (x := _) (c := _) (y := _) rfl rfl rfl rfl ?_; simp only [Act.put, List.setIfInBounds_toArray, List.set_cons_zero, List.set_cons_succ])
      | (refine' Seg.val (v := _) rfl (fun w' hw => ?_) ?_; rotate_left 1; (obtain ⟨hbc, _⟩ := bcell hw; go_simp; rfl); simp only [Act.put, List.setIfInBounds_toArray, List.set_cons_zero, List.set_cons_succ])
      | (refine' Seg.skip ?_ ?_; (focus (first | (rw [Seg.wanted1 rfl rfl]; simp; done) | (rw [Seg.wanted2 rfl rfl]; simp; done))); simp only [Act.put, List.setIfInBounds_toArray, List.set_cons_zero, List.set_cons_succ])
      | (refine' Seg.pick_or_if (b := _) (x := _) (G := _) (c := _) (y := _) (by first | exact Seg.wanted1 rfl rfl | exact Seg.wanted2 rfl rfl) rfl rfl rfl ?_; simp only [Act.put, List.setIfInBounds_toArray, List.set_cons_zero, List.set_cons_succ])
      | (refine' Seg.pick_and_if (b := _) (x := _) (G := _) (c := _) (y := _) (by first | exact Seg.wanted1 rfl rfl | exact Seg.wanted2 rfl rfl) rfl rfl rfl ?_; simp only [Act.put, List.setIfInBounds_toArray, List.set_cons_zero, List.set_cons_succ])
      | (refine' Seg.val_if (v := _) (G := _) (by first | exact Seg.wanted1 rfl rfl | exact Seg.wanted2 rfl rfl) (fun hb w' hw => ?_) ?_; rotate_left 1; (simp only [Bool.and_eq_true, beq_iff_eq] at hb; obtain ⟨hbc, _⟩ := bcell hw; go_simp; rfl); simp only [Act.put, List.setIfInBounds_toArray, List.set_cons_zero, List.set_cons_succ]))
    refine Seg.doneB (fun w2 hw2 => ?_)
    repeat ((conv in Seg.opt _ _ => skip); generalize Seg.opt _ _ = u)
    go_wp2
    go_ret
    refine ⟨?_, bthen hB0 hw2⟩
    rw [← HRes.out]
    rfl
  · by_cases hk1 : kd = 1
    · subst hk1
      generalize hres : (Ending.returned (.bool (showsB q ⟨1, re, mi, cu⟩))) = R
      have HRes := Lib.hid hres
      clear hres
      go_enter Try.func26, Try.ntmps26
      go_upto_region 1 with (fail)
      obtain ⟨W0, hW0, hB0, X0, V0⟩ := box2 w #[.int .i64 q.win, .int .i64 q.draw, .slice A2 q.clubs.length c2, .slice A3 q.points.length c3, .slice A4 q.games.length c4, .int .i64 q.club, .int .i64 q.place] #[.int .i64 1, .slice B1 re.length d1, .slice B2 mi.length d2, .slice B3 cu.length d3] 25 28
      rw [hW0]
      clear hW0
      have hq0 := hq.below hB0
      have hv0 := hv.below hB0
      obtain ⟨lx, cx, fx⟩ := id X0
      obtain ⟨lv, kv, fv⟩ := id V0
      repeat (first | (with_reducible refine Seg.plainE ?_) | go_step)
      repeat (first
        | (refine' Seg.pick_or (b := _) (x := _) (c := _) (y := _) rfl rfl rfl rfl ?_; simp only [Act.put, List.setIfInBounds_toArray, List.set_cons_zero, List.set_cons_succ])
        | (refine' Seg.pick_and (b := _) (x := _) (c := _) (y := _) rfl rfl rfl rfl ?_; simp only [Act.put, List.setIfInBounds_toArray, List.set_cons_zero, List.set_cons_succ])
        | (refine' Seg.val (v := _) rfl (fun w' hw => ?_) ?_; rotate_left 1; (subst hw; go_simp; rfl); simp only [Act.put, List.setIfInBounds_toArray, List.set_cons_zero, List.set_cons_succ])
        | (refine' Seg.skip ?_ ?_; (focus (first | (rw [Seg.wanted1 rfl rfl]; simp; done) | (rw [Seg.wanted2 rfl rfl]; simp; done))); simp only [Act.put, List.setIfInBounds_toArray, List.set_cons_zero, List.set_cons_succ])
        | (refine' Seg.pick_or_if (b := _) (x := _) (G := _) (c := _) (y := _) (by first | exact Seg.wanted1 rfl rfl | exact Seg.wanted2 rfl rfl) rfl rfl rfl ?_; simp only [Act.put, List.setIfInBounds_toArray, List.set_cons_zero, List.set_cons_succ])
        | (refine' Seg.pick_and_if (b := _) (x := _) (G := _) (c := _) (y := _) (by first | exact Seg.wanted1 rfl rfl | exact Seg.wanted2 rfl rfl) rfl rfl rfl ?_; simp only [Act.put, List.setIfInBounds_toArray, List.set_cons_zero, List.set_cons_succ])
        | (refine' Seg.val_if (v := _) (G := _) (by first | exact Seg.wanted1 rfl rfl | exact Seg.wanted2 rfl rfl) (fun hb w' hw => ?_) ?_; rotate_left 1; (simp only [Bool.and_eq_true, beq_iff_eq] at hb; subst hw; go_simp; rfl); simp only [Act.put, List.setIfInBounds_toArray, List.set_cons_zero, List.set_cons_succ]))
      refine Seg.done ?_
      repeat ((conv in Seg.opt _ _ => skip); generalize Seg.opt _ _ = u)
      go_upto_region 8 with (fail)
      have hfl := rbyFlow_any ⟨q, A2, c2, A3, c3, A4, c4⟩ W0 HG.out h6
      dsimp only [RaceM.v] at hfl
      cases hh : halves q
      · rw [hh] at hfl
        have HH : Hid (byFlow q = false) := Lib.hid (by rw [byFlow_few h6, hh])
        clear hh
        replace hfl := Lib.hid hfl
        go_upto_region 10 with (go_at_call 44; refine hfl.out.mono ?_; rintro e w1 ⟨rfl, hb1⟩)
        clear lx cx fx lv kv fv
        obtain ⟨lx, cx, fx⟩ := X0.below hb1
        obtain ⟨lv, kv, fv⟩ := V0.below hb1
        repeat (first | (with_reducible refine Seg.plainB ?_) | go_step)
        repeat (first
          | (refine' Seg.pick_or (b := _) (x := _) (c := _) (y := _) rfl rfl rfl rfl ?_; simp only [Act.put, List.setIfInBounds_toArray, List.set_cons_zero, List.set_cons_succ])
          | (refine' Seg.pick_and (b := _) (x := _) (c := _) (y := _) rfl rfl rfl rfl ?_; simp only [Act.put, List.setIfInBounds_toArray, List.set_cons_zero, List.set_cons_succ])
          | (refine' Seg.val (v := _) rfl (fun w' hw => ?_) ?_; rotate_left 1; (obtain ⟨hbc, _⟩ := bcell hw; go_simp; rfl); simp only [Act.put, List.setIfInBounds_toArray, List.set_cons_zero, List.set_cons_succ])
          | (refine' Seg.skip ?_ ?_; (focus (first | (rw [Seg.wanted1 rfl rfl]; simp; done) | (rw [Seg.wanted2 rfl rfl]; simp; done))); simp only [Act.put, List.setIfInBounds_toArray, List.set_cons_zero, List.set_cons_succ])
          | (refine' Seg.pick_or_if (b := _) (x := _) (G := _) (c := _) (y := _) (by first | exact Seg.wanted1 rfl rfl | exact Seg.wanted2 rfl rfl) rfl rfl rfl ?_; simp only [Act.put, List.setIfInBounds_toArray, List.set_cons_zero, List.set_cons_succ])
          | (refine' Seg.pick_and_if (b := _) (x := _) (G := _) (c := _) (y := _) (by first | exact Seg.wanted1 rfl rfl | exact Seg.wanted2 rfl rfl) rfl rfl rfl ?_; simp only [Act.put, List.setIfInBounds_toArray, List.set_cons_zero, List.set_cons_succ])
          | (refine' Seg.val_if (v := _) (G := _) (by first | exact Seg.wanted1 rfl rfl | exact Seg.wanted2 rfl rfl) (fun hb w' hw => ?_) ?_; rotate_left 1; (simp only [Bool.and_eq_true, beq_iff_eq] at hb; obtain ⟨hbc, _⟩ := bcell hw; go_simp; rfl); simp only [Act.put, List.setIfInBounds_toArray, List.set_cons_zero, List.set_cons_succ]))
        refine' Seg.call_if (v := _) (G := _) (f := _) (args := _) (by first | exact Seg.wanted1 rfl rfl | exact Seg.wanted2 rfl rfl) (fun hb w' => ?_) (fun hb w' hw => callB hw (rbySearch_any ⟨q, A2, c2, A3, c3, A4, c4⟩ w')) ?_
        · simp only [Bool.and_eq_true, beq_iff_eq] at hb
          go_simp
        simp only [Act.put, List.setIfInBounds_toArray, List.set_cons_zero, List.set_cons_succ]
        repeat (first
          | (refine' Seg.pick_or (b := _) (x := _) (c := _) (y := _) rfl rfl rfl rfl ?_; simp only [Act.put, List.setIfInBounds_toArray, List.set_cons_zero, List.set_cons_succ])
          | (refine' Seg.pick_and (b := _) (x := _) (c := _) (y := _) rfl rfl rfl rfl ?_; simp only [Act.put, List.setIfInBounds_toArray, List.set_cons_zero, List.set_cons_succ])
          | (refine' Seg.val (v := _) rfl (fun w' hw => ?_) ?_; rotate_left 1; (obtain ⟨hbc, _⟩ := bcell hw; go_simp; rfl); simp only [Act.put, List.setIfInBounds_toArray, List.set_cons_zero, List.set_cons_succ])
          | (refine' Seg.skip ?_ ?_; (focus (first | (rw [Seg.wanted1 rfl rfl]; simp; done) | (rw [Seg.wanted2 rfl rfl]; simp; done))); simp only [Act.put, List.setIfInBounds_toArray, List.set_cons_zero, List.set_cons_succ])
          | (refine' Seg.pick_or_if (b := _) (x := _) (G := _) (c := _) (y := _) (by first | exact Seg.wanted1 rfl rfl | exact Seg.wanted2 rfl rfl) rfl rfl rfl ?_; simp only [Act.put, List.setIfInBounds_toArray, List.set_cons_zero, List.set_cons_succ])
          | (refine' Seg.pick_and_if (b := _) (x := _) (G := _) (c := _) (y := _) (by first | exact Seg.wanted1 rfl rfl | exact Seg.wanted2 rfl rfl) rfl rfl rfl ?_; simp only [Act.put, List.setIfInBounds_toArray, List.set_cons_zero, List.set_cons_succ])
          | (refine' Seg.val_if (v := _) (G := _) (by first | exact Seg.wanted1 rfl rfl | exact Seg.wanted2 rfl rfl) (fun hb w' hw => ?_) ?_; rotate_left 1; (simp only [Bool.and_eq_true, beq_iff_eq] at hb; obtain ⟨hbc, _⟩ := bcell hw; go_simp; rfl); simp only [Act.put, List.setIfInBounds_toArray, List.set_cons_zero, List.set_cons_succ]))
        refine' Seg.call_if (v := _) (G := _) (f := _) (args := _) (by first | exact Seg.wanted1 rfl rfl | exact Seg.wanted2 rfl rfl) (fun hb w' => ?_) (fun hb w' hw => callB hw (always_any ⟨q, A2, c2, A3, c3, A4, c4⟩ true HG.out q.games.length none 0 [] w' ((hq0.below hb1).below hw) ⟨by simp, fun h => absurd rfl h⟩ (by simp) (fun i hi => by simp at hi))) ?_
        · simp only [Bool.and_eq_true, beq_iff_eq] at hb
          go_simp
        simp only [Act.put, List.setIfInBounds_toArray, List.set_cons_zero, List.set_cons_succ]
        repeat (first
          | (refine' Seg.pick_or (b := _) (x := _) (c := _) (y := _) rfl rfl rfl rfl ?_; simp only [Act.put, List.setIfInBounds_toArray, List.set_cons_zero, List.set_cons_succ])
          | (refine' Seg.pick_and (b := _) (x := _) (c := _) (y := _) rfl rfl rfl rfl ?_; simp only [Act.put, List.setIfInBounds_toArray, List.set_cons_zero, List.set_cons_succ])
          | (refine' Seg.val (v := _) rfl (fun w' hw => ?_) ?_; rotate_left 1; (obtain ⟨hbc, _⟩ := bcell hw; go_simp; rfl); simp only [Act.put, List.setIfInBounds_toArray, List.set_cons_zero, List.set_cons_succ])
          | (refine' Seg.skip ?_ ?_; (focus (first | (rw [Seg.wanted1 rfl rfl]; simp; done) | (rw [Seg.wanted2 rfl rfl]; simp; done))); simp only [Act.put, List.setIfInBounds_toArray, List.set_cons_zero, List.set_cons_succ])
          | (refine' Seg.pick_or_if (b := _) (x := _) (G := _) (c := _) (y := _) (by first | exact Seg.wanted1 rfl rfl | exact Seg.wanted2 rfl rfl) rfl rfl rfl ?_; simp only [Act.put, List.setIfInBounds_toArray, List.set_cons_zero, List.set_cons_succ])
          | (refine' Seg.pick_and_if (b := _) (x := _) (G := _) (c := _) (y := _) (by first | exact Seg.wanted1 rfl rfl | exact Seg.wanted2 rfl rfl) rfl rfl rfl ?_; simp only [Act.put, List.setIfInBounds_toArray, List.set_cons_zero, List.set_cons_succ])
          | (refine' Seg.val_if (v := _) (G := _) (by first | exact Seg.wanted1 rfl rfl | exact Seg.wanted2 rfl rfl) (fun hb w' hw => ?_) ?_; rotate_left 1; (simp only [Bool.and_eq_true, beq_iff_eq] at hb; obtain ⟨hbc, _⟩ := bcell hw; go_simp; rfl); simp only [Act.put, List.setIfInBounds_toArray, List.set_cons_zero, List.set_cons_succ]))
        refine Seg.doneB (fun w2 hw2 => ?_)
        repeat ((conv in Seg.opt _ _ => skip); generalize Seg.opt _ _ = u)
        go_wp2
        go_ret
        refine ⟨?_, bthen hB0 (bthen hb1 hw2)⟩
        rw [← HRes.out]
        have := shown_search (ce := true) (v := ⟨1, re, mi, cu⟩) HH.out
        dsimp only at this
        rw [this]
        rfl
      · rw [hh] at hfl
        have HH : Hid (byFlow q = true) := Lib.hid (by rw [byFlow_few h6, hh])
        clear hh
        replace hfl := Lib.hid hfl
        go_upto_region 9 with (go_at_call 44; refine hfl.out.mono ?_; rintro e w1 ⟨rfl, hb1⟩)
        clear lx cx fx lv kv fv
        obtain ⟨lx, cx, fx⟩ := X0.below hb1
        obtain ⟨lv, kv, fv⟩ := V0.below hb1
        repeat (first | (with_reducible refine Seg.plainB ?_) | go_step)
        repeat (first
          | (refine' Seg.pick_or (b := _) (x := _) (c := _) (y := _) rfl rfl rfl rfl ?_; simp only [Act.put, List.setIfInBounds_toArray, List.set_cons_zero, List.set_cons_succ])
          | (refine' Seg.pick_and (b := _) (x := _) (c := _) (y := _) rfl rfl rfl rfl ?_; simp only [Act.put, List.setIfInBounds_toArray, List.set_cons_zero, List.set_cons_succ])
          | (refine' Seg.val (v := _) rfl (fun w' hw => ?_) ?_; rotate_left 1; (obtain ⟨hbc, _⟩ := bcell hw; go_simp; rfl); simp only [Act.put, List.setIfInBounds_toArray, List.set_cons_zero, List.set_cons_succ])
          | (refine' Seg.skip ?_ ?_; (focus (first | (rw [Seg.wanted1 rfl rfl]; simp; done) | (rw [Seg.wanted2 rfl rfl]; simp; done))); simp only [Act.put, List.setIfInBounds_toArray, List.set_cons_zero, List.set_cons_succ])
          | (refine' Seg.pick_or_if (b := _) (x := _) (G := _) (c := _) (y := _) (by first | exact Seg.wanted1 rfl rfl | exact Seg.wanted2 rfl rfl) rfl rfl rfl ?_; simp only [Act.put, List.setIfInBounds_toArray, List.set_cons_zero, List.set_cons_succ])
          | (refine' Seg.pick_and_if (b := _) (x := _) (G := _) (c := _) (y := _) (by first | exact Seg.wanted1 rfl rfl | exact Seg.wanted2 rfl rfl) rfl rfl rfl ?_; simp only [Act.put, List.setIfInBounds_toArray, List.set_cons_zero, List.set_cons_succ])
          | (refine' Seg.val_if (v := _) (G := _) (by first | exact Seg.wanted1 rfl rfl | exact Seg.wanted2 rfl rfl) (fun hb w' hw => ?_) ?_; rotate_left 1; (simp only [Bool.and_eq_true, beq_iff_eq] at hb; obtain ⟨hbc, _⟩ := bcell hw; go_simp; rfl); simp only [Act.put, List.setIfInBounds_toArray, List.set_cons_zero, List.set_cons_succ]))
        refine' Seg.call_if (v := _) (G := _) (f := _) (args := _) (by first | exact Seg.wanted1 rfl rfl | exact Seg.wanted2 rfl rfl) (fun hb w' => ?_) (fun hb w' hw => callB hw (rcuts_any ⟨q, A2, c2, A3, c3, A4, c4⟩ true B3 d3 cu w' ((hq0.below hb1).below hw) ((hv0.below hb1).below hw).h3 HG.out h6)) ?_
        · simp only [Bool.and_eq_true, beq_iff_eq] at hb
          go_simp
        simp only [Act.put, List.setIfInBounds_toArray, List.set_cons_zero, List.set_cons_succ]
        repeat (first
          | (refine' Seg.pick_or (b := _) (x := _) (c := _) (y := _) rfl rfl rfl rfl ?_; simp only [Act.put, List.setIfInBounds_toArray, List.set_cons_zero, List.set_cons_succ])
          | (refine' Seg.pick_and (b := _) (x := _) (c := _) (y := _) rfl rfl rfl rfl ?_; simp only [Act.put, List.setIfInBounds_toArray, List.set_cons_zero, List.set_cons_succ])
          | (refine' Seg.val (v := _) rfl (fun w' hw => ?_) ?_; rotate_left 1; (obtain ⟨hbc, _⟩ := bcell hw; go_simp; rfl); simp only [Act.put, List.setIfInBounds_toArray, List.set_cons_zero, List.set_cons_succ])
          | (refine' Seg.skip ?_ ?_; (focus (first | (rw [Seg.wanted1 rfl rfl]; simp; done) | (rw [Seg.wanted2 rfl rfl]; simp; done))); simp only [Act.put, List.setIfInBounds_toArray, List.set_cons_zero, List.set_cons_succ])
          | (refine' Seg.pick_or_if (b := _) (x := _) (G := _) (c := _) (y := _) (by first | exact Seg.wanted1 rfl rfl | exact Seg.wanted2 rfl rfl) rfl rfl rfl ?_; simp only [Act.put, List.setIfInBounds_toArray, List.set_cons_zero, List.set_cons_succ])
          | (refine' Seg.pick_and_if (b := _) (x := _) (G := _) (c := _) (y := _) (by first | exact Seg.wanted1 rfl rfl | exact Seg.wanted2 rfl rfl) rfl rfl rfl ?_; simp only [Act.put, List.setIfInBounds_toArray, List.set_cons_zero, List.set_cons_succ])
          | (refine' Seg.val_if (v := _) (G := _) (by first | exact Seg.wanted1 rfl rfl | exact Seg.wanted2 rfl rfl) (fun hb w' hw => ?_) ?_; rotate_left 1; (simp only [Bool.and_eq_true, beq_iff_eq] at hb; obtain ⟨hbc, _⟩ := bcell hw; go_simp; rfl); simp only [Act.put, List.setIfInBounds_toArray, List.set_cons_zero, List.set_cons_succ]))
        refine Seg.doneB (fun w2 hw2 => ?_)
        repeat ((conv in Seg.opt _ _ => skip); generalize Seg.opt _ _ = u)
        go_wp2
        go_ret
        refine ⟨?_, bthen hB0 (bthen hb1 hw2)⟩
        rw [← HRes.out]
        have := shown_flow (ce := true) (v := ⟨1, re, mi, cu⟩) HH.out
        dsimp only at this
        rw [this]
        rfl
    · by_cases hk2 : kd = 2
      · subst hk2
        generalize hres : (Ending.returned (.bool (showsB q ⟨2, re, mi, cu⟩))) = R
        have HRes := Lib.hid hres
        clear hres
        go_enter Try.func26, Try.ntmps26
        go_upto_region 1 with (fail)
        obtain ⟨W0, hW0, hB0, X0, V0⟩ := box2 w #[.int .i64 q.win, .int .i64 q.draw, .slice A2 q.clubs.length c2, .slice A3 q.points.length c3, .slice A4 q.games.length c4, .int .i64 q.club, .int .i64 q.place] #[.int .i64 2, .slice B1 re.length d1, .slice B2 mi.length d2, .slice B3 cu.length d3] 25 28
        rw [hW0]
        clear hW0
        have hq0 := hq.below hB0
        have hv0 := hv.below hB0
        obtain ⟨lx, cx, fx⟩ := id X0
        obtain ⟨lv, kv, fv⟩ := id V0
        repeat (first | (with_reducible refine Seg.plainE ?_) | go_step)
        repeat (first
          | (refine' Seg.pick_or (b := _) (x := _) (c := _) (y := _) rfl rfl rfl rfl ?_; simp only [Act.put, List.setIfInBounds_toArray, List.set_cons_zero, List.set_cons_succ])
          | (refine' Seg.pick_and (b := _) (x := _) (c := _) (y := _) rfl rfl rfl rfl ?_; simp only [Act.put, List.setIfInBounds_toArray, List.set_cons_zero, List.set_cons_succ])
          | (refine' Seg.val (v := _) rfl (fun w' hw => ?_) ?_; rotate_left 1; (subst hw; go_simp; rfl); simp only [Act.put, List.setIfInBounds_toArray, List.set_cons_zero, List.set_cons_succ])
          | (refine' Seg.skip ?_ ?_; (focus (first | (rw [Seg.wanted1 rfl rfl]; simp; done) | (rw [Seg.wanted2 rfl rfl]; simp; done))); simp only [Act.put, List.setIfInBounds_toArray, List.set_cons_zero, List.set_cons_succ])
          | (refine' Seg.pick_or_if (b := _) (x := _) (G := _) (c := _) (y := _) (by first | exact Seg.wanted1 rfl rfl | exact Seg.wanted2 rfl rfl) rfl rfl rfl ?_; simp only [Act.put, List.setIfInBounds_toArray, List.set_cons_zero, List.set_cons_succ])
          | (refine' Seg.pick_and_if (b := _) (x := _) (G := _) (c := _) (y := _) (by first | exact Seg.wanted1 rfl rfl | exact Seg.wanted2 rfl rfl) rfl rfl rfl ?_; simp only [Act.put, List.setIfInBounds_toArray, List.set_cons_zero, List.set_cons_succ])
          | (refine' Seg.val_if (v := _) (G := _) (by first | exact Seg.wanted1 rfl rfl | exact Seg.wanted2 rfl rfl) (fun hb w' hw => ?_) ?_; rotate_left 1; (simp only [Bool.and_eq_true, beq_iff_eq] at hb; subst hw; go_simp; rfl); simp only [Act.put, List.setIfInBounds_toArray, List.set_cons_zero, List.set_cons_succ]))
        refine Seg.done ?_
        repeat ((conv in Seg.opt _ _ => skip); generalize Seg.opt _ _ = u)
        go_upto_region 8 with (fail)
        have hfl := rbyFlow_any ⟨q, A2, c2, A3, c3, A4, c4⟩ W0 HG.out h6
        dsimp only [RaceM.v] at hfl
        cases hh : halves q
        · rw [hh] at hfl
          have HH : Hid (byFlow q = false) := Lib.hid (by rw [byFlow_few h6, hh])
          clear hh
          replace hfl := Lib.hid hfl
          go_upto_region 10 with (go_at_call 44; refine hfl.out.mono ?_; rintro e w1 ⟨rfl, hb1⟩)
          clear lx cx fx lv kv fv
          obtain ⟨lx, cx, fx⟩ := X0.below hb1
          obtain ⟨lv, kv, fv⟩ := V0.below hb1
          repeat (first | (with_reducible refine Seg.plainB ?_) | go_step)
          repeat (first
            | (refine' Seg.pick_or (b := _) (x := _) (c := _) (y := _) rfl rfl rfl rfl ?_; simp only [Act.put, List.setIfInBounds_toArray, List.set_cons_zero, List.set_cons_succ])
            | (refine' Seg.pick_and (b := _) (x := _) (c := _) (y := _) rfl rfl rfl rfl ?_; simp only [Act.put, List.setIfInBounds_toArray, List.set_cons_zero, List.set_cons_succ])
            | (refine' Seg.val (v := _) rfl (fun w' hw => ?_) ?_; rotate_left 1; (obtain ⟨hbc, _⟩ := bcell hw; go_simp; rfl); simp only [Act.put, List.setIfInBounds_toArray, List.set_cons_zero, List.set_cons_succ])
            | (refine' Seg.skip ?_ ?_; (focus (first | (rw [Seg.wanted1 rfl rfl]; simp; done) | (rw [Seg.wanted2 rfl rfl]; simp; done))); simp only [Act.put, List.setIfInBounds_toArray, List.set_cons_zero, List.set_cons_succ])
            | (refine' Seg.pick_or_if (b := _) (x := _) (G := _) (c := _) (y := _) (by first | exact Seg.wanted1 rfl rfl | exact Seg.wanted2 rfl rfl) rfl rfl rfl ?_; simp only [Act.put, List.setIfInBounds_toArray, List.set_cons_zero, List.set_cons_succ])
            | (refine' Seg.pick_and_if (b := _) (x := _) (G := _) (c := _) (y := _) (by first | exact Seg.wanted1 rfl rfl | exact Seg.wanted2 rfl rfl) rfl rfl rfl ?_; simp only [Act.put, List.setIfInBounds_toArray, List.set_cons_zero, List.set_cons_succ])
            | (refine' Seg.val_if (v := _) (G := _) (by first | exact Seg.wanted1 rfl rfl | exact Seg.wanted2 rfl rfl) (fun hb w' hw => ?_) ?_; rotate_left 1; (simp only [Bool.and_eq_true, beq_iff_eq] at hb; obtain ⟨hbc, _⟩ := bcell hw; go_simp; rfl); simp only [Act.put, List.setIfInBounds_toArray, List.set_cons_zero, List.set_cons_succ]))
          refine' Seg.call_if (v := _) (G := _) (f := _) (args := _) (by first | exact Seg.wanted1 rfl rfl | exact Seg.wanted2 rfl rfl) (fun hb w' => ?_) (fun hb w' hw => callB hw (rbySearch_any ⟨q, A2, c2, A3, c3, A4, c4⟩ w')) ?_
          · simp only [Bool.and_eq_true, beq_iff_eq] at hb
            go_simp
          simp only [Act.put, List.setIfInBounds_toArray, List.set_cons_zero, List.set_cons_succ]
          repeat (first
            | (refine' Seg.pick_or (b := _) (x := _) (c := _) (y := _) rfl rfl rfl rfl ?_; simp only [Act.put, List.setIfInBounds_toArray, List.set_cons_zero, List.set_cons_succ])
            | (refine' Seg.pick_and (b := _) (x := _) (c := _) (y := _) rfl rfl rfl rfl ?_; simp only [Act.put, List.setIfInBounds_toArray, List.set_cons_zero, List.set_cons_succ])
            | (refine' Seg.val (v := _) rfl (fun w' hw => ?_) ?_; rotate_left 1; (obtain ⟨hbc, _⟩ := bcell hw; go_simp; rfl); simp only [Act.put, List.setIfInBounds_toArray, List.set_cons_zero, List.set_cons_succ])
            | (refine' Seg.skip ?_ ?_; (focus (first | (rw [Seg.wanted1 rfl rfl]; simp; done) | (rw [Seg.wanted2 rfl rfl]; simp; done))); simp only [Act.put, List.setIfInBounds_toArray, List.set_cons_zero, List.set_cons_succ])
            | (refine' Seg.pick_or_if (b := _) (x := _) (G := _) (c := _) (y := _) (by first | exact Seg.wanted1 rfl rfl | exact Seg.wanted2 rfl rfl) rfl rfl rfl ?_; simp only [Act.put, List.setIfInBounds_toArray, List.set_cons_zero, List.set_cons_succ])
            | (refine' Seg.pick_and_if (b := _) (x := _) (G := _) (c := _) (y := _) (by first | exact Seg.wanted1 rfl rfl | exact Seg.wanted2 rfl rfl) rfl rfl rfl ?_; simp only [Act.put, List.setIfInBounds_toArray, List.set_cons_zero, List.set_cons_succ])
            | (refine' Seg.val_if (v := _) (G := _) (by first | exact Seg.wanted1 rfl rfl | exact Seg.wanted2 rfl rfl) (fun hb w' hw => ?_) ?_; rotate_left 1; (simp only [Bool.and_eq_true, beq_iff_eq] at hb; obtain ⟨hbc, _⟩ := bcell hw; go_simp; rfl); simp only [Act.put, List.setIfInBounds_toArray, List.set_cons_zero, List.set_cons_succ]))
          refine' Seg.call_if (v := _) (G := _) (f := _) (args := _) (by first | exact Seg.wanted1 rfl rfl | exact Seg.wanted2 rfl rfl) (fun hb w' => ?_) (fun hb w' hw => callB hw (always_any ⟨q, A2, c2, A3, c3, A4, c4⟩ false HG.out q.games.length none 0 [] w' ((hq0.below hb1).below hw) ⟨by simp, fun h => absurd rfl h⟩ (by simp) (fun i hi => by simp at hi))) ?_
          · simp only [Bool.and_eq_true, beq_iff_eq] at hb
            go_simp
          simp only [Act.put, List.setIfInBounds_toArray, List.set_cons_zero, List.set_cons_succ]
          repeat (first
            | (refine' Seg.pick_or (b := _) (x := _) (c := _) (y := _) rfl rfl rfl rfl ?_; simp only [Act.put, List.setIfInBounds_toArray, List.set_cons_zero, List.set_cons_succ])
            | (refine' Seg.pick_and (b := _) (x := _) (c := _) (y := _) rfl rfl rfl rfl ?_; simp only [Act.put, List.setIfInBounds_toArray, List.set_cons_zero, List.set_cons_succ])
            | (refine' Seg.val (v := _) rfl (fun w' hw => ?_) ?_; rotate_left 1; (obtain ⟨hbc, _⟩ := bcell hw; go_simp; rfl); simp only [Act.put, List.setIfInBounds_toArray, List.set_cons_zero, List.set_cons_succ])
            | (refine' Seg.skip ?_ ?_; (focus (first | (rw [Seg.wanted1 rfl rfl]; simp; done) | (rw [Seg.wanted2 rfl rfl]; simp; done))); simp only [Act.put, List.setIfInBounds_toArray, List.set_cons_zero, List.set_cons_succ])
            | (refine' Seg.pick_or_if (b := _) (x := _) (G := _) (c := _) (y := _) (by first | exact Seg.wanted1 rfl rfl | exact Seg.wanted2 rfl rfl) rfl rfl rfl ?_; simp only [Act.put, List.setIfInBounds_toArray, List.set_cons_zero, List.set_cons_succ])
            | (refine' Seg.pick_and_if (b := _) (x := _) (G := _) (c := _) (y := _) (by first | exact Seg.wanted1 rfl rfl | exact Seg.wanted2 rfl rfl) rfl rfl rfl ?_; simp only [Act.put, List.setIfInBounds_toArray, List.set_cons_zero, List.set_cons_succ])
            | (refine' Seg.val_if (v := _) (G := _) (by first | exact Seg.wanted1 rfl rfl | exact Seg.wanted2 rfl rfl) (fun hb w' hw => ?_) ?_; rotate_left 1; (simp only [Bool.and_eq_true, beq_iff_eq] at hb; obtain ⟨hbc, _⟩ := bcell hw; go_simp; rfl); simp only [Act.put, List.setIfInBounds_toArray, List.set_cons_zero, List.set_cons_succ]))
          refine Seg.doneB (fun w2 hw2 => ?_)
          repeat ((conv in Seg.opt _ _ => skip); generalize Seg.opt _ _ = u)
          go_wp2
          go_ret
          refine ⟨?_, bthen hB0 (bthen hb1 hw2)⟩
          rw [← HRes.out]
          have := shown_search (ce := false) (v := ⟨2, re, mi, cu⟩) HH.out
          dsimp only at this
          rw [this]
          rfl
        · rw [hh] at hfl
          have HH : Hid (byFlow q = true) := Lib.hid (by rw [byFlow_few h6, hh])
          clear hh
          replace hfl := Lib.hid hfl
          go_upto_region 9 with (go_at_call 44; refine hfl.out.mono ?_; rintro e w1 ⟨rfl, hb1⟩)
          clear lx cx fx lv kv fv
          obtain ⟨lx, cx, fx⟩ := X0.below hb1
          obtain ⟨lv, kv, fv⟩ := V0.below hb1
          repeat (first | (with_reducible refine Seg.plainB ?_) | go_step)
          repeat (first
            | (refine' Seg.pick_or (b := _) (x := _) (c := _) (y := _) rfl rfl rfl rfl ?_; simp only [Act.put, List.setIfInBounds_toArray, List.set_cons_zero, List.set_cons_succ])
            | (refine' Seg.pick_and (b := _) (x := _) (c := _) (y := _) rfl rfl rfl rfl ?_; simp only [Act.put, List.setIfInBounds_toArray, List.set_cons_zero, List.set_cons_succ])
            | (refine' Seg.val (v := _) rfl (fun w' hw => ?_) ?_; rotate_left 1; (obtain ⟨hbc, _⟩ := bcell hw; go_simp; rfl); simp only [Act.put, List.setIfInBounds_toArray, List.set_cons_zero, List.set_cons_succ])
            | (refine' Seg.skip ?_ ?_; (focus (first | (rw [Seg.wanted1 rfl rfl]; simp; done) | (rw [Seg.wanted2 rfl rfl]; simp; done))); simp only [Act.put, List.setIfInBounds_toArray, List.set_cons_zero, List.set_cons_succ])
            | (refine' Seg.pick_or_if (b := _) (x := _) (G := _) (c := _) (y := _) (by first | exact Seg.wanted1 rfl rfl | exact Seg.wanted2 rfl rfl) rfl rfl rfl ?_; simp only [Act.put, List.setIfInBounds_toArray, List.set_cons_zero, List.set_cons_succ])
            | (refine' Seg.pick_and_if (b := _) (x := _) (G := _) (c := _) (y := _) (by first | exact Seg.wanted1 rfl rfl | exact Seg.wanted2 rfl rfl) rfl rfl rfl ?_; simp only [Act.put, List.setIfInBounds_toArray, List.set_cons_zero, List.set_cons_succ])
            | (refine' Seg.val_if (v := _) (G := _) (by first | exact Seg.wanted1 rfl rfl | exact Seg.wanted2 rfl rfl) (fun hb w' hw => ?_) ?_; rotate_left 1; (simp only [Bool.and_eq_true, beq_iff_eq] at hb; obtain ⟨hbc, _⟩ := bcell hw; go_simp; rfl); simp only [Act.put, List.setIfInBounds_toArray, List.set_cons_zero, List.set_cons_succ]))
          refine' Seg.call_if (v := _) (G := _) (f := _) (args := _) (by first | exact Seg.wanted1 rfl rfl | exact Seg.wanted2 rfl rfl) (fun hb w' => ?_) (fun hb w' hw => callB hw (rcuts_any ⟨q, A2, c2, A3, c3, A4, c4⟩ false B3 d3 cu w' ((hq0.below hb1).below hw) ((hv0.below hb1).below hw).h3 HG.out h6)) ?_
          · simp only [Bool.and_eq_true, beq_iff_eq] at hb
            go_simp
          simp only [Act.put, List.setIfInBounds_toArray, List.set_cons_zero, List.set_cons_succ]
          repeat (first
            | (refine' Seg.pick_or (b := _) (x := _) (c := _) (y := _) rfl rfl rfl rfl ?_; simp only [Act.put, List.setIfInBounds_toArray, List.set_cons_zero, List.set_cons_succ])
            | (refine' Seg.pick_and (b := _) (x := _) (c := _) (y := _) rfl rfl rfl rfl ?_; simp only [Act.put, List.setIfInBounds_toArray, List.set_cons_zero, List.set_cons_succ])
            | (refine' Seg.val (v := _) rfl (fun w' hw => ?_) ?_; rotate_left 1; (obtain ⟨hbc, _⟩ := bcell hw; go_simp; rfl); simp only [Act.put, List.setIfInBounds_toArray, List.set_cons_zero, List.set_cons_succ])
            | (refine' Seg.skip ?_ ?_; (focus (first | (rw [Seg.wanted1 rfl rfl]; simp; done) | (rw [Seg.wanted2 rfl rfl]; simp; done))); simp only [Act.put, List.setIfInBounds_toArray, List.set_cons_zero, List.set_cons_succ])
            | (refine' Seg.pick_or_if (b := _) (x := _) (G := _) (c := _) (y := _) (by first | exact Seg.wanted1 rfl rfl | exact Seg.wanted2 rfl rfl) rfl rfl rfl ?_; simp only [Act.put, List.setIfInBounds_toArray, List.set_cons_zero, List.set_cons_succ])
            | (refine' Seg.pick_and_if (b := _) (x := _) (G := _) (c := _) (y := _) (by first | exact Seg.wanted1 rfl rfl | exact Seg.wanted2 rfl rfl) rfl rfl rfl ?_; simp only [Act.put, List.setIfInBounds_toArray, List.set_cons_zero, List.set_cons_succ])
            | (refine' Seg.val_if (v := _) (G := _) (by first | exact Seg.wanted1 rfl rfl | exact Seg.wanted2 rfl rfl) (fun hb w' hw => ?_) ?_; rotate_left 1; (simp only [Bool.and_eq_true, beq_iff_eq] at hb; obtain ⟨hbc, _⟩ := bcell hw; go_simp; rfl); simp only [Act.put, List.setIfInBounds_toArray, List.set_cons_zero, List.set_cons_succ]))
          refine Seg.doneB (fun w2 hw2 => ?_)
          repeat ((conv in Seg.opt _ _ => skip); generalize Seg.opt _ _ = u)
          go_wp2
          go_ret
          refine ⟨?_, bthen hB0 (bthen hb1 hw2)⟩
          rw [← HRes.out]
          have := shown_flow (ce := false) (v := ⟨2, re, mi, cu⟩) HH.out
          dsimp only at this
          rw [this]
          rfl
      · by_cases hk4 : kd = 4
        · subst hk4
          generalize hres : (Ending.returned (.bool (showsB q ⟨4, re, mi, cu⟩))) = R
          have HRes := Lib.hid hres
          clear hres
          go_enter Try.func26, Try.ntmps26
          go_upto_region 1 with (fail)
          obtain ⟨W0, hW0, hB0, X0, V0⟩ := box2 w #[.int .i64 q.win, .int .i64 q.draw, .slice A2 q.clubs.length c2, .slice A3 q.points.length c3, .slice A4 q.games.length c4, .int .i64 q.club, .int .i64 q.place] #[.int .i64 4, .slice B1 re.length d1, .slice B2 mi.length d2, .slice B3 cu.length d3] 25 28
          rw [hW0]
          clear hW0
          have hq0 := hq.below hB0
          have hv0 := hv.below hB0
          obtain ⟨lx, cx, fx⟩ := id X0
          obtain ⟨lv, kv, fv⟩ := id V0
          repeat (first | (with_reducible refine Seg.plainE ?_) | go_step)
          repeat (first
            | (refine' Seg.pick_or (b := _) (x := _) (c := _) (y := _) rfl rfl rfl rfl ?_; simp only [Act.put, List.setIfInBounds_toArray, List.set_cons_zero, List.set_cons_succ])
            | (refine' Seg.pick_and (b := _) (x := _) (c := _) (y := _) rfl rfl rfl rfl ?_; simp only [Act.put, List.setIfInBounds_toArray, List.set_cons_zero, List.set_cons_succ])
            | (refine' Seg.val (v := _) rfl (fun w' hw => ?_) ?_; rotate_left 1; (subst hw; go_simp; rfl); simp only [Act.put, List.setIfInBounds_toArray, List.set_cons_zero, List.set_cons_succ])
            | (refine' Seg.skip ?_ ?_; (focus (first | (rw [Seg.wanted1 rfl rfl]; simp; done) | (rw [Seg.wanted2 rfl rfl]; simp; done))); simp only [Act.put, List.setIfInBounds_toArray, List.set_cons_zero, List.set_cons_succ])
            | (refine' Seg.pick_or_if (b := _) (x := _) (G := _) (c := _) (y := _) (by first | exact Seg.wanted1 rfl rfl | exact Seg.wanted2 rfl rfl) rfl rfl rfl ?_; simp only [Act.put, List.setIfInBounds_toArray, List.set_cons_zero, List.set_cons_succ])
            | (refine' Seg.pick_and_if (b := _) (x := _) (G := _) (c := _) (y := _) (by first | exact Seg.wanted1 rfl rfl | exact Seg.wanted2 rfl rfl) rfl rfl rfl ?_; simp only [Act.put, List.setIfInBounds_toArray, List.set_cons_zero, List.set_cons_succ])
            | (refine' Seg.val_if (v := _) (G := _) (by first | exact Seg.wanted1 rfl rfl | exact Seg.wanted2 rfl rfl) (fun hb w' hw => ?_) ?_; rotate_left 1; (simp only [Bool.and_eq_true, beq_iff_eq] at hb; subst hw; go_simp; rfl); simp only [Act.put, List.setIfInBounds_toArray, List.set_cons_zero, List.set_cons_succ]))
          refine Seg.done ?_
          repeat ((conv in Seg.opt _ _ => skip); generalize Seg.opt _ _ = u)
          go_upto_region 12 with (fail)
          repeat (first | (with_reducible refine Seg.plainB ?_) | go_step)
          repeat (first
            | (refine' Seg.pick_or (b := _) (x := _) (c := _) (y := _) rfl rfl rfl rfl ?_; simp only [Act.put, List.setIfInBounds_toArray, List.set_cons_zero, List.set_cons_succ])
            | (refine' Seg.pick_and (b := _) (x := _) (c := _) (y := _) rfl rfl rfl rfl ?_; simp only [Act.put, List.setIfInBounds_toArray, List.set_cons_zero, List.set_cons_succ])
            | (refine' Seg.val (v := _) rfl (fun w' hw => ?_) ?_; rotate_left 1; (obtain ⟨hbc, _⟩ := bcell hw; go_simp; rfl); simp only [Act.put, List.setIfInBounds_toArray, List.set_cons_zero, List.set_cons_succ])
            | (refine' Seg.skip ?_ ?_; (focus (first | (rw [Seg.wanted1 rfl rfl]; simp; done) | (rw [Seg.wanted2 rfl rfl]; simp; done))); simp only [Act.put, List.setIfInBounds_toArray, List.set_cons_zero, List.set_cons_succ])
            | (refine' Seg.pick_or_if (b := _) (x := _) (G := _) (c := _) (y := _) (by first | exact Seg.wanted1 rfl rfl | exact Seg.wanted2 rfl rfl) rfl rfl rfl ?_; simp only [Act.put, List.setIfInBounds_toArray, List.set_cons_zero, List.set_cons_succ])
            | (refine' Seg.pick_and_if (b := _) (x := _) (G := _) (c := _) (y := _) (by first | exact Seg.wanted1 rfl rfl | exact Seg.wanted2 rfl rfl) rfl rfl rfl ?_; simp only [Act.put, List.setIfInBounds_toArray, List.set_cons_zero, List.set_cons_succ])
            | (refine' Seg.val_if (v := _) (G := _) (by first | exact Seg.wanted1 rfl rfl | exact Seg.wanted2 rfl rfl) (fun hb w' hw => ?_) ?_; rotate_left 1; (simp only [Bool.and_eq_true, beq_iff_eq] at hb; obtain ⟨hbc, _⟩ := bcell hw; go_simp; rfl); simp only [Act.put, List.setIfInBounds_toArray, List.set_cons_zero, List.set_cons_succ]))
          refine' Seg.call_if (v := _) (G := _) (f := _) (args := _) (by first | exact Seg.wanted1 rfl rfl | exact Seg.wanted2 rfl rfl) (fun hb w' => ?_) (fun hb w' hw => callB hw (rbyFlow_any ⟨q, A2, c2, A3, c3, A4, c4⟩ w' HG.out h6)) ?_
          · simp only [Bool.and_eq_true, beq_iff_eq] at hb
            go_simp
          simp only [Act.put, List.setIfInBounds_toArray, List.set_cons_zero, List.set_cons_succ]
          repeat (first
            | (refine' Seg.pick_or (b := _) (x := _) (c := _) (y := _) rfl rfl rfl rfl ?_; simp only [Act.put, List.setIfInBounds_toArray, List.set_cons_zero, List.set_cons_succ])
            | (refine' Seg.pick_and (b := _) (x := _) (c := _) (y := _) rfl rfl rfl rfl ?_; simp only [Act.put, List.setIfInBounds_toArray, List.set_cons_zero, List.set_cons_succ])
            | (refine' Seg.val (v := _) rfl (fun w' hw => ?_) ?_; rotate_left 1; (obtain ⟨hbc, _⟩ := bcell hw; go_simp; rfl); simp only [Act.put, List.setIfInBounds_toArray, List.set_cons_zero, List.set_cons_succ])
            | (refine' Seg.skip ?_ ?_; (focus (first | (rw [Seg.wanted1 rfl rfl]; simp; done) | (rw [Seg.wanted2 rfl rfl]; simp; done))); simp only [Act.put, List.setIfInBounds_toArray, List.set_cons_zero, List.set_cons_succ])
            | (refine' Seg.pick_or_if (b := _) (x := _) (G := _) (c := _) (y := _) (by first | exact Seg.wanted1 rfl rfl | exact Seg.wanted2 rfl rfl) rfl rfl rfl ?_; simp only [Act.put, List.setIfInBounds_toArray, List.set_cons_zero, List.set_cons_succ])
            | (refine' Seg.pick_and_if (b := _) (x := _) (G := _) (c := _) (y := _) (by first | exact Seg.wanted1 rfl rfl | exact Seg.wanted2 rfl rfl) rfl rfl rfl ?_; simp only [Act.put, List.setIfInBounds_toArray, List.set_cons_zero, List.set_cons_succ])
            | (refine' Seg.val_if (v := _) (G := _) (by first | exact Seg.wanted1 rfl rfl | exact Seg.wanted2 rfl rfl) (fun hb w' hw => ?_) ?_; rotate_left 1; (simp only [Bool.and_eq_true, beq_iff_eq] at hb; obtain ⟨hbc, _⟩ := bcell hw; go_simp; rfl); simp only [Act.put, List.setIfInBounds_toArray, List.set_cons_zero, List.set_cons_succ]))
          refine' Seg.call_if (v := _) (G := _) (f := _) (args := _) (by first | exact Seg.wanted1 rfl rfl | exact Seg.wanted2 rfl rfl) (fun hb w' => ?_) (fun hb w' hw => callB hw (rbySearch_any ⟨q, A2, c2, A3, c3, A4, c4⟩ w')) ?_
          · simp only [Bool.and_eq_true, beq_iff_eq] at hb
            go_simp
          simp only [Act.put, List.setIfInBounds_toArray, List.set_cons_zero, List.set_cons_succ]
          repeat (first
            | (refine' Seg.pick_or (b := _) (x := _) (c := _) (y := _) rfl rfl rfl rfl ?_; simp only [Act.put, List.setIfInBounds_toArray, List.set_cons_zero, List.set_cons_succ])
            | (refine' Seg.pick_and (b := _) (x := _) (c := _) (y := _) rfl rfl rfl rfl ?_; simp only [Act.put, List.setIfInBounds_toArray, List.set_cons_zero, List.set_cons_succ])
            | (refine' Seg.val (v := _) rfl (fun w' hw => ?_) ?_; rotate_left 1; (obtain ⟨hbc, _⟩ := bcell hw; go_simp; rfl); simp only [Act.put, List.setIfInBounds_toArray, List.set_cons_zero, List.set_cons_succ])
            | (refine' Seg.skip ?_ ?_; (focus (first | (rw [Seg.wanted1 rfl rfl]; simp; done) | (rw [Seg.wanted2 rfl rfl]; simp; done))); simp only [Act.put, List.setIfInBounds_toArray, List.set_cons_zero, List.set_cons_succ])
            | (refine' Seg.pick_or_if (b := _) (x := _) (G := _) (c := _) (y := _) (by first | exact Seg.wanted1 rfl rfl | exact Seg.wanted2 rfl rfl) rfl rfl rfl ?_; simp only [Act.put, List.setIfInBounds_toArray, List.set_cons_zero, List.set_cons_succ])
            | (refine' Seg.pick_and_if (b := _) (x := _) (G := _) (c := _) (y := _) (by first | exact Seg.wanted1 rfl rfl | exact Seg.wanted2 rfl rfl) rfl rfl rfl ?_; simp only [Act.put, List.setIfInBounds_toArray, List.set_cons_zero, List.set_cons_succ])
            | (refine' Seg.val_if (v := _) (G := _) (by first | exact Seg.wanted1 rfl rfl | exact Seg.wanted2 rfl rfl) (fun hb w' hw => ?_) ?_; rotate_left 1; (simp only [Bool.and_eq_true, beq_iff_eq] at hb; obtain ⟨hbc, _⟩ := bcell hw; go_simp; rfl); simp only [Act.put, List.setIfInBounds_toArray, List.set_cons_zero, List.set_cons_succ]))
          refine Seg.doneB (fun w2 hw2 => ?_)
          repeat ((conv in Seg.opt _ _ => skip); generalize Seg.opt _ _ = u)
          go_wp2
          go_ret
          refine ⟨?_, bthen hB0 hw2⟩
          rw [← HRes.out]
          have := unknown_ref (v := ⟨4, re, mi, cu⟩) (byFlow_few h6)
          dsimp only at this
          rw [this]
          rfl
        · have k1 : (kd == 1) = false := by simpa using hk1
          have k2 : (kd == 2) = false := by simpa using hk2
          have k3 : (kd == 3) = false := by simpa using hk3
          have k4 : (kd == 4) = false := by simpa using hk4
          generalize hres : (Ending.returned (.bool (showsB q ⟨kd, re, mi, cu⟩))) = R
          have HRes := Lib.hid hres
          clear hres
          go_enter Try.func26, Try.ntmps26
          go_upto_region 1 with (fail)
          obtain ⟨W0, hW0, hB0, X0, V0⟩ := box2 w #[.int .i64 q.win, .int .i64 q.draw, .slice A2 q.clubs.length c2, .slice A3 q.points.length c3, .slice A4 q.games.length c4, .int .i64 q.club, .int .i64 q.place] #[.int .i64 kd, .slice B1 re.length d1, .slice B2 mi.length d2, .slice B3 cu.length d3] 25 28
          rw [hW0]
          clear hW0
          have hq0 := hq.below hB0
          have hv0 := hv.below hB0
          obtain ⟨lx, cx, fx⟩ := id X0
          obtain ⟨lv, kv, fv⟩ := id V0
          repeat (first | (with_reducible refine Seg.plainE ?_) | go_step)
          repeat (first
            | (refine' Seg.pick_or (b := _) (x := _) (c := _) (y := _) rfl rfl rfl rfl ?_; simp only [Act.put, List.setIfInBounds_toArray, List.set_cons_zero, List.set_cons_succ])
            | (refine' Seg.pick_and (b := _) (x := _) (c := _) (y := _) rfl rfl rfl rfl ?_; simp only [Act.put, List.setIfInBounds_toArray, List.set_cons_zero, List.set_cons_succ])
            | (refine' Seg.val (v := _) rfl (fun w' hw => ?_) ?_; rotate_left 1; (subst hw; go_simp; rfl); simp only [Act.put, List.setIfInBounds_toArray, List.set_cons_zero, List.set_cons_succ])
            | (refine' Seg.skip ?_ ?_; (focus (first | (rw [Seg.wanted1 rfl rfl]; simp; done) | (rw [Seg.wanted2 rfl rfl]; simp; done))); simp only [Act.put, List.setIfInBounds_toArray, List.set_cons_zero, List.set_cons_succ])
            | (refine' Seg.pick_or_if (b := _) (x := _) (G := _) (c := _) (y := _) (by first | exact Seg.wanted1 rfl rfl | exact Seg.wanted2 rfl rfl) rfl rfl rfl ?_; simp only [Act.put, List.setIfInBounds_toArray, List.set_cons_zero, List.set_cons_succ])
            | (refine' Seg.pick_and_if (b := _) (x := _) (G := _) (c := _) (y := _) (by first | exact Seg.wanted1 rfl rfl | exact Seg.wanted2 rfl rfl) rfl rfl rfl ?_; simp only [Act.put, List.setIfInBounds_toArray, List.set_cons_zero, List.set_cons_succ])
            | (refine' Seg.val_if (v := _) (G := _) (by first | exact Seg.wanted1 rfl rfl | exact Seg.wanted2 rfl rfl) (fun hb w' hw => ?_) ?_; rotate_left 1; (simp only [Bool.and_eq_true, beq_iff_eq] at hb; subst hw; go_simp; rfl); simp only [Act.put, List.setIfInBounds_toArray, List.set_cons_zero, List.set_cons_succ]))
          refine Seg.done ?_
          repeat ((conv in Seg.opt _ _ => skip); generalize Seg.opt _ _ = u)
          have hno : Hid (showsB q ⟨kd, re, mi, cu⟩ = false) := Lib.hid (by unfold showsB; rw [if_neg hk1, if_neg hk2, if_neg hk3, if_neg hk4])
          clear hk1 hk2 hk3 hk4
          go_wp2
          go_ret
          refine ⟨?_, hB0⟩
          rw [← HRes.out, hno.out]
          rfl

set_option maxHeartbeats 4000000 in
set_option maxRecDepth 100000 in
theorem rcheck_any (m : RaceM) (v : VerdictM) (w : World) (hq : RaceIn w m) (hv : VerdictIn w v) (h6 : m.q.clubs.length ≤ 6) :
    Calls Try.prog 12 #[m.v, v.val] w fun e w' => e = .returned (.int .i64 (checkOf m.q v.v)) ∧ Below w.heap.size w w' := by
  obtain ⟨q, A2, c2, A3, c3, A4, c4⟩ := m
  obtain ⟨⟨kd, re, mi, cu⟩, B1, d1, B2, d2, B3, d3⟩ := v
  dsimp only [RaceM.v, VerdictM.val] at *
  generalize hres : (Ending.returned (.int .i64 (checkOf q ⟨kd, re, mi, cu⟩))) = R
  have HRes := Lib.hid hres
  clear hres
  go_enter Try.func12, Try.ntmps12
  go_upto_region 1 with (fail)
  obtain ⟨W0, hW0, hB0, X0, V0⟩ := box2 w #[.int .i64 q.win, .int .i64 q.draw, .slice A2 q.clubs.length c2, .slice A3 q.points.length c3, .slice A4 q.games.length c4, .int .i64 q.club, .int .i64 q.place] #[.int .i64 kd, .slice B1 re.length d1, .slice B2 mi.length d2, .slice B3 cu.length d3] 25 28
  rw [hW0]
  clear hW0
  have hq0 := hq.below hB0
  have hv0 := hv.below hB0
  obtain ⟨lx, cx, fx⟩ := id X0
  have hval := refValid_any ⟨q, A2, c2, A3, c3, A4, c4⟩ W0 hq0
  dsimp only [RaceM.v] at hval
  cases hv' : validB q
  · have HV := Lib.hid hv'
    rw [hv'] at hval
    clear hv'
    replace hval := Lib.hid hval
    go_wp2_with (go_at_call 13; refine hval.out.mono ?_; rintro e w1 ⟨rfl, hb1⟩)
    go_ret
    refine ⟨?_, bthen hB0 hb1⟩
    rw [← HRes.out, checkOf, HV.out]
    rfl
  · have HV := Lib.hid hv'
    have HG := Lib.hid (good_of hv')
    rw [hv'] at hval
    clear hv'
    replace hval := Lib.hid hval
    have hsh := fun w1 hb => rshown_any ⟨q, A2, c2, A3, c3, A4, c4⟩ ⟨⟨kd, re, mi, cu⟩, B1, d1, B2, d2, B3, d3⟩ w1 (hq0.below hb) (hv0.below hb) HG.out h6
    dsimp only [RaceM.v, VerdictM.val] at hsh
    cases hs : showsB q ⟨kd, re, mi, cu⟩
    all_goals
      have HS := Lib.hid hs
      rw [hs] at hsh
      clear hs
      replace hsh := Lib.hid hsh
      go_wp2_with (first | (go_at_call 13; refine hval.out.mono ?_; rintro e w1 ⟨rfl, hb1⟩; obtain ⟨lx, cx, fx⟩ := X0.below hb1; obtain ⟨lv, kv, fv⟩ := V0.below hb1) | (go_at_call 26; refine (hsh.out _ hb1).mono ?_; rintro e w2 ⟨rfl, hb2⟩))
      go_ret
      refine ⟨?_, bthen hB0 (bthen hb1 hb2)⟩
      rw [← HRes.out, checkOf, HV.out, HS.out]
      rfl

set_option maxHeartbeats 8000000 in
set_option maxRecDepth 100000 in
theorem lawSpec_any (m : RaceM) (v : VerdictM) (w : World) (hq : RaceIn w m) (hv : VerdictIn w v) (bv : VBound v.v) (cv : v.v.cuts.length ≤ v.c3) :
    Calls Try.prog 3 #[m.v, v.val] w fun e w' => e = .returned (.bool true) ∧ Below w.heap.size w w' := by
  obtain ⟨q, A2, c2, A3, c3, A4, c4⟩ := m
  obtain ⟨⟨kd, re, mi, cs⟩, B1, d1, B2, d2, B3, d3⟩ := v
  dsimp only [RaceM.v, VerdictM.val] at *
  go_enter Try.func3, Try.ntmps3
  go_upto_region 1 with (fail)
  obtain ⟨W0, hW0, hB0, X0, V0⟩ := box2 w #[.int .i64 q.win, .int .i64 q.draw, .slice A2 q.clubs.length c2, .slice A3 q.points.length c3, .slice A4 q.games.length c4, .int .i64 q.club, .int .i64 q.place] #[.int .i64 kd, .slice B1 re.length d1, .slice B2 mi.length d2, .slice B3 cs.length d3] 25 28
  rw [hW0]
  clear hW0
  have hq0 := hq.below hB0
  have hv0 := hv.below hB0
  go_upto_region 3 with (go_at_call 8; refine (sane_any _).mono ?_; rintro e w1 ⟨rfl, hb1⟩)
  obtain ⟨lx, cx, fx⟩ := X0.below hb1
  obtain ⟨lv, kv, fv⟩ := V0.below hb1
  have hq1 := hq0.below hb1
  have hv1 := hv0.below hb1
  repeat (first | (with_reducible refine Seg.plainB ?_) | go_step)
  repeat (first
    | (refine' Seg.pick_or (b := _) (x := _) (c := _) (y := _) rfl rfl rfl rfl ?_; simp only [Act.put, List.setIfInBounds_toArray, List.set_cons_zero, List.set_cons_succ])
    | (refine' Seg.pick_and (b := _) (x := _) (c := _) (y := _) rfl rfl rfl rfl ?_; simp only [Act.put, List.setIfInBounds_toArray, List.set_cons_zero, List.set_cons_succ])
    | (refine' Seg.val (v := _) rfl (fun w' hw => ?_) ?_; rotate_left 1; (obtain ⟨hbc, _⟩ := bcell hw; go_simp; rfl); simp only [Act.put, List.setIfInBounds_toArray, List.set_cons_zero, List.set_cons_succ])
    | (refine' Seg.skip ?_ ?_; (focus (first | (rw [Seg.wanted1 rfl rfl]; simp; done) | (rw [Seg.wanted2 rfl rfl]; simp; done))); simp only [Act.put, List.setIfInBounds_toArray, List.set_cons_zero, List.set_cons_succ])
    | (refine' Seg.pick_or_if (b := _) (x := _) (G := _) (c := _) (y := _) (by first | exact Seg.wanted1 rfl rfl | exact Seg.wanted2 rfl rfl) rfl rfl rfl ?_; simp only [Act.put, List.setIfInBounds_toArray, List.set_cons_zero, List.set_cons_succ])
    | (refine' Seg.pick_and_if (b := _) (x := _) (G := _) (c := _) (y := _) (by first | exact Seg.wanted1 rfl rfl | exact Seg.wanted2 rfl rfl) rfl rfl rfl ?_; simp only [Act.put, List.setIfInBounds_toArray, List.set_cons_zero, List.set_cons_succ])
    | (refine' Seg.val_if (v := _) (G := _) (by first | exact Seg.wanted1 rfl rfl | exact Seg.wanted2 rfl rfl) (fun hb w' hw => ?_) ?_; rotate_left 1; (simp only [Bool.and_eq_true, beq_iff_eq] at hb; obtain ⟨hbc, _⟩ := bcell hw; go_simp; rfl); simp only [Act.put, List.setIfInBounds_toArray, List.set_cons_zero, List.set_cons_succ]))
  refine' Seg.call (v := _) (f := _) (args := _) rfl (fun w' => ?_) (fun w' hw => callB hw (few_any ⟨q, A2, c2, A3, c3, A4, c4⟩ w')) ?_
  · go_simp
  simp only [Act.put, List.setIfInBounds_toArray, List.set_cons_zero, List.set_cons_succ]
  repeat (first
    | (refine' Seg.pick_or (b := _) (x := _) (c := _) (y := _) rfl rfl rfl rfl ?_; simp only [Act.put, List.setIfInBounds_toArray, List.set_cons_zero, List.set_cons_succ])
    | (refine' Seg.pick_and (b := _) (x := _) (c := _) (y := _) rfl rfl rfl rfl ?_; simp only [Act.put, List.setIfInBounds_toArray, List.set_cons_zero, List.set_cons_succ])
    | (refine' Seg.val (v := _) rfl (fun w' hw => ?_) ?_; rotate_left 1; (obtain ⟨hbc, _⟩ := bcell hw; go_simp; rfl); simp only [Act.put, List.setIfInBounds_toArray, List.set_cons_zero, List.set_cons_succ])
    | (refine' Seg.skip ?_ ?_; (focus (first | (rw [Seg.wanted1 rfl rfl]; simp; done) | (rw [Seg.wanted2 rfl rfl]; simp; done))); simp only [Act.put, List.setIfInBounds_toArray, List.set_cons_zero, List.set_cons_succ])
    | (refine' Seg.pick_or_if (b := _) (x := _) (G := _) (c := _) (y := _) (by first | exact Seg.wanted1 rfl rfl | exact Seg.wanted2 rfl rfl) rfl rfl rfl ?_; simp only [Act.put, List.setIfInBounds_toArray, List.set_cons_zero, List.set_cons_succ])
    | (refine' Seg.pick_and_if (b := _) (x := _) (G := _) (c := _) (y := _) (by first | exact Seg.wanted1 rfl rfl | exact Seg.wanted2 rfl rfl) rfl rfl rfl ?_; simp only [Act.put, List.setIfInBounds_toArray, List.set_cons_zero, List.set_cons_succ])
    | (refine' Seg.val_if (v := _) (G := _) (by first | exact Seg.wanted1 rfl rfl | exact Seg.wanted2 rfl rfl) (fun hb w' hw => ?_) ?_; rotate_left 1; (simp only [Bool.and_eq_true, beq_iff_eq] at hb; obtain ⟨hbc, _⟩ := bcell hw; go_simp; rfl); simp only [Act.put, List.setIfInBounds_toArray, List.set_cons_zero, List.set_cons_succ]))
  refine' Seg.call_if (v := _) (G := _) (f := _) (args := _) (by first | exact Seg.wanted1 rfl rfl | exact Seg.wanted2 rfl rfl) (fun hb w' => ?_) (fun hb w' hw => callB hw (fewVerdict_any ⟨⟨kd, re, mi, cs⟩, B1, d1, B2, d2, B3, d3⟩ w' (hv1.below hw) bv)) ?_
  · simp only [Bool.and_eq_true, beq_iff_eq] at hb
    go_simp
  simp only [Act.put, List.setIfInBounds_toArray, List.set_cons_zero, List.set_cons_succ]
  repeat (first
    | (refine' Seg.pick_or (b := _) (x := _) (c := _) (y := _) rfl rfl rfl rfl ?_; simp only [Act.put, List.setIfInBounds_toArray, List.set_cons_zero, List.set_cons_succ])
    | (refine' Seg.pick_and (b := _) (x := _) (c := _) (y := _) rfl rfl rfl rfl ?_; simp only [Act.put, List.setIfInBounds_toArray, List.set_cons_zero, List.set_cons_succ])
    | (refine' Seg.val (v := _) rfl (fun w' hw => ?_) ?_; rotate_left 1; (obtain ⟨hbc, _⟩ := bcell hw; go_simp; rfl); simp only [Act.put, List.setIfInBounds_toArray, List.set_cons_zero, List.set_cons_succ])
    | (refine' Seg.skip ?_ ?_; (focus (first | (rw [Seg.wanted1 rfl rfl]; simp; done) | (rw [Seg.wanted2 rfl rfl]; simp; done))); simp only [Act.put, List.setIfInBounds_toArray, List.set_cons_zero, List.set_cons_succ])
    | (refine' Seg.pick_or_if (b := _) (x := _) (G := _) (c := _) (y := _) (by first | exact Seg.wanted1 rfl rfl | exact Seg.wanted2 rfl rfl) rfl rfl rfl ?_; simp only [Act.put, List.setIfInBounds_toArray, List.set_cons_zero, List.set_cons_succ])
    | (refine' Seg.pick_and_if (b := _) (x := _) (G := _) (c := _) (y := _) (by first | exact Seg.wanted1 rfl rfl | exact Seg.wanted2 rfl rfl) rfl rfl rfl ?_; simp only [Act.put, List.setIfInBounds_toArray, List.set_cons_zero, List.set_cons_succ])
    | (refine' Seg.val_if (v := _) (G := _) (by first | exact Seg.wanted1 rfl rfl | exact Seg.wanted2 rfl rfl) (fun hb w' hw => ?_) ?_; rotate_left 1; (simp only [Bool.and_eq_true, beq_iff_eq] at hb; obtain ⟨hbc, _⟩ := bcell hw; go_simp; rfl); simp only [Act.put, List.setIfInBounds_toArray, List.set_cons_zero, List.set_cons_succ]))
  refine Seg.doneB (fun w2 hw2 => ?_)
  clear lx cx fx lv kv fv
  have hb2 := bthen hb1 hw2
  obtain ⟨lx, cx, fx⟩ := X0.below hb2
  obtain ⟨lv, kv, fv⟩ := V0.below hb2
  repeat ((conv in Seg.opt _ _ => skip); generalize Seg.opt _ _ = u)
  generalize hcd : (_ || !smallV ⟨kd, re, mi, cs⟩) = cd
  have HCd := Lib.hid hcd
  clear hcd
  have hBw := bthen hB0 hb2
  cases cd
  · have hpre : few q = true ∧ smallV ⟨kd, re, mi, cs⟩ = true := by
      have h := HCd.out
      simpa only [Bool.or_eq_false_iff, Bool.not_eq_false'] using h
    have h6 : q.clubs.length ≤ 6 := by
      have h := hpre.1
      simp only [few, Bool.and_eq_true, decide_eq_true_eq] at h
      omega
    have hvs := vsmall_of (v := ⟨⟨kd, re, mi, cs⟩, B1, d1, B2, d2, B3, d3⟩) hpre.2 cv
    have hq2 := hq0.below hb2
    have hv2 := hv0.below hb2
    clear hpre
    go_upto_region 5 with (fail)
    refine Seg.regionB (by kernel_rfl) (by kernel_rfl) ?_
    repeat (first
      | (refine' Seg.pick_or (b := _) (x := _) (c := _) (y := _) rfl rfl rfl rfl ?_; simp only [Act.put, List.setIfInBounds_toArray, List.set_cons_zero, List.set_cons_succ])
      | (refine' Seg.pick_and (b := _) (x := _) (c := _) (y := _) rfl rfl rfl rfl ?_; simp only [Act.put, List.setIfInBounds_toArray, List.set_cons_zero, List.set_cons_succ])
      | (refine' Seg.val (v := _) rfl (fun w' hw => ?_) ?_; rotate_left 1; (obtain ⟨hbc, _⟩ := bcell hw; go_simp; rfl); simp only [Act.put, List.setIfInBounds_toArray, List.set_cons_zero, List.set_cons_succ])
      | (refine' Seg.skip ?_ ?_; (focus (first | (rw [Seg.wanted1 rfl rfl]; simp; done) | (rw [Seg.wanted2 rfl rfl]; simp; done))); simp only [Act.put, List.setIfInBounds_toArray, List.set_cons_zero, List.set_cons_succ])
      | (refine' Seg.pick_or_if (b := _) (x := _) (G := _) (c := _) (y := _) (by first | exact Seg.wanted1 rfl rfl | exact Seg.wanted2 rfl rfl) rfl rfl rfl ?_; simp only [Act.put, List.setIfInBounds_toArray, List.set_cons_zero, List.set_cons_succ])
      | (refine' Seg.pick_and_if (b := _) (x := _) (G := _) (c := _) (y := _) (by first | exact Seg.wanted1 rfl rfl | exact Seg.wanted2 rfl rfl) rfl rfl rfl ?_; simp only [Act.put, List.setIfInBounds_toArray, List.set_cons_zero, List.set_cons_succ])
      | (refine' Seg.val_if (v := _) (G := _) (by first | exact Seg.wanted1 rfl rfl | exact Seg.wanted2 rfl rfl) (fun hb w' hw => ?_) ?_; rotate_left 1; (simp only [Bool.and_eq_true, beq_iff_eq] at hb; obtain ⟨hbc, _⟩ := bcell hw; go_simp; rfl); simp only [Act.put, List.setIfInBounds_toArray, List.set_cons_zero, List.set_cons_succ]))
    refine' Seg.call (v := _) (f := _) (args := _) rfl (fun w' => ?_) (fun w' hw => callB hw (check2_any ⟨q, A2, c2, A3, c3, A4, c4⟩ ⟨⟨kd, re, mi, cs⟩, B1, d1, B2, d2, B3, d3⟩ w' (hq2.below hw) (hv2.below hw) hvs)) ?_
    · go_simp
    simp only [Act.put, List.setIfInBounds_toArray, List.set_cons_zero, List.set_cons_succ]
    repeat (first
      | (refine' Seg.pick_or (b := _) (x := _) (c := _) (y := _) rfl rfl rfl rfl ?_; simp only [Act.put, List.setIfInBounds_toArray, List.set_cons_zero, List.set_cons_succ])
      | (refine' Seg.pick_and (b := _) (x := _) (c := _) (y := _) rfl rfl rfl rfl ?_; simp only [Act.put, List.setIfInBounds_toArray, List.set_cons_zero, List.set_cons_succ])
      | (refine' Seg.val (v := _) rfl (fun w' hw => ?_) ?_; rotate_left 1; (obtain ⟨hbc, _⟩ := bcell hw; go_simp; rfl); simp only [Act.put, List.setIfInBounds_toArray, List.set_cons_zero, List.set_cons_succ])
      | (refine' Seg.skip ?_ ?_; (focus (first | (rw [Seg.wanted1 rfl rfl]; simp; done) | (rw [Seg.wanted2 rfl rfl]; simp; done))); simp only [Act.put, List.setIfInBounds_toArray, List.set_cons_zero, List.set_cons_succ])
      | (refine' Seg.pick_or_if (b := _) (x := _) (G := _) (c := _) (y := _) (by first | exact Seg.wanted1 rfl rfl | exact Seg.wanted2 rfl rfl) rfl rfl rfl ?_; simp only [Act.put, List.setIfInBounds_toArray, List.set_cons_zero, List.set_cons_succ])
      | (refine' Seg.pick_and_if (b := _) (x := _) (G := _) (c := _) (y := _) (by first | exact Seg.wanted1 rfl rfl | exact Seg.wanted2 rfl rfl) rfl rfl rfl ?_; simp only [Act.put, List.setIfInBounds_toArray, List.set_cons_zero, List.set_cons_succ])
      | (refine' Seg.val_if (v := _) (G := _) (by first | exact Seg.wanted1 rfl rfl | exact Seg.wanted2 rfl rfl) (fun hb w' hw => ?_) ?_; rotate_left 1; (simp only [Bool.and_eq_true, beq_iff_eq] at hb; obtain ⟨hbc, _⟩ := bcell hw; go_simp; rfl); simp only [Act.put, List.setIfInBounds_toArray, List.set_cons_zero, List.set_cons_succ]))
    refine' Seg.call (v := _) (f := _) (args := _) rfl (fun w' => ?_) (fun w' hw => callB hw (rcheck_any ⟨q, A2, c2, A3, c3, A4, c4⟩ ⟨⟨kd, re, mi, cs⟩, B1, d1, B2, d2, B3, d3⟩ w' (hq2.below hw) (hv2.below hw) h6)) ?_
    · go_simp
    simp only [Act.put, List.setIfInBounds_toArray, List.set_cons_zero, List.set_cons_succ]
    repeat (first
      | (refine' Seg.pick_or (b := _) (x := _) (c := _) (y := _) rfl rfl rfl rfl ?_; simp only [Act.put, List.setIfInBounds_toArray, List.set_cons_zero, List.set_cons_succ])
      | (refine' Seg.pick_and (b := _) (x := _) (c := _) (y := _) rfl rfl rfl rfl ?_; simp only [Act.put, List.setIfInBounds_toArray, List.set_cons_zero, List.set_cons_succ])
      | (refine' Seg.val (v := _) rfl (fun w' hw => ?_) ?_; rotate_left 1; (obtain ⟨hbc, _⟩ := bcell hw; go_simp; rfl); simp only [Act.put, List.setIfInBounds_toArray, List.set_cons_zero, List.set_cons_succ])
      | (refine' Seg.skip ?_ ?_; (focus (first | (rw [Seg.wanted1 rfl rfl]; simp; done) | (rw [Seg.wanted2 rfl rfl]; simp; done))); simp only [Act.put, List.setIfInBounds_toArray, List.set_cons_zero, List.set_cons_succ])
      | (refine' Seg.pick_or_if (b := _) (x := _) (G := _) (c := _) (y := _) (by first | exact Seg.wanted1 rfl rfl | exact Seg.wanted2 rfl rfl) rfl rfl rfl ?_; simp only [Act.put, List.setIfInBounds_toArray, List.set_cons_zero, List.set_cons_succ])
      | (refine' Seg.pick_and_if (b := _) (x := _) (G := _) (c := _) (y := _) (by first | exact Seg.wanted1 rfl rfl | exact Seg.wanted2 rfl rfl) rfl rfl rfl ?_; simp only [Act.put, List.setIfInBounds_toArray, List.set_cons_zero, List.set_cons_succ])
      | (refine' Seg.val_if (v := _) (G := _) (by first | exact Seg.wanted1 rfl rfl | exact Seg.wanted2 rfl rfl) (fun hb w' hw => ?_) ?_; rotate_left 1; (simp only [Bool.and_eq_true, beq_iff_eq] at hb; obtain ⟨hbc, _⟩ := bcell hw; go_simp; rfl); simp only [Act.put, List.setIfInBounds_toArray, List.set_cons_zero, List.set_cons_succ]))
    intro w3 hw3
    go_wp2
    go_ret
    exact ⟨ret_bool (by simp), bthen hBw hw3⟩
  · go_wp2
    go_ret
    exact ⟨rfl, hBw⟩
end Go.Proofs.Ytfmekjpmjefpmaa
