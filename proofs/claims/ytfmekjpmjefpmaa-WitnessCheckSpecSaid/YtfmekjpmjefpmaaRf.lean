/- ref.always, walked. -/
import Derived.Test.YtfmekjpmjefpmaaRc
import Derived.Test.YtfmekjpmjefpmaaOwn3
import Derived.Test.YtfmekjpmjefpmaaWt
set_option linter.unusedSimpArgs false
set_option linter.unusedVariables false
namespace Go.Proofs.Ytfmekjpmjefpmaa
open Go.RowKit Go.Shelf
attribute [local go_sem] Oper.semAt_some

def alwaysN (q : Race) (ce : Bool) : Nat → List Int → Bool
  | 0, o => !against q ce o
  | k + 1, o => alwaysN q ce k (o ++ [1]) && (alwaysN q ce k (o ++ [2]) && alwaysN q ce k (o ++ [3]))
/-- The first n of the three. -/
def alwaysTo (q : Race) (ce : Bool) (k : Nat) (o : List Int) : Nat → Bool
  | 0 => true
  | n + 1 => alwaysTo q ce k o n && alwaysN q ce k (o ++ [(n : Int) + 1])
theorem alwaysTo_three (q : Race) (ce : Bool) (k : Nat) (o : List Int) : alwaysTo q ce k o 3 = alwaysN q ce (k + 1) o := by
  simp [alwaysTo, alwaysN, Bool.and_assoc]
theorem alwaysTo_false {q : Race} {ce : Bool} {k : Nat} {o : List Int} {n : Nat} (hn : n < 3) (h : alwaysN q ce k (o ++ [(n : Int) + 1]) = false) : alwaysN q ce (k + 1) o = false := by
  have : n = 0 ∨ n = 1 ∨ n = 2 := by omega
  rcases this with rfl | rfl | rfl
  · simp at h; simp [alwaysN, h]
  · simp at h; simp [alwaysN, h]
  · simp at h; simp [alwaysN, h]

theorem snoc13 {o : List Int} {x : Int} (h : ∀ i, i < o.length → 1 ≤ rd o i ∧ rd o i ≤ 3) (hx : 1 ≤ x ∧ x ≤ 3) : ∀ i, i < (o ++ [x]).length → 1 ≤ rd (o ++ [x]) i ∧ rd (o ++ [x]) i ≤ 3 := fun i hi => by
  rcases Nat.lt_or_ge i o.length with h' | h'
  · have := h i h'
    have e : rd (o ++ [x]) i = rd o i := by simp [rd, List.getD_eq_getElem?_getD, List.getElem?_append_left h']
    rw [e]; exact this
  · have : i = o.length := by simp at hi; omega
    subst this
    have e : rd (o ++ [x]) o.length = x := by simp [rd, List.getD_eq_getElem?_getD]
    rw [e]; exact hx

set_option maxHeartbeats 8000000 in
set_option maxRecDepth 100000 in
theorem always_any (m : RaceM) (ce : Bool) (hg : Good m.q) : ∀ (k : Nat) (B : Option Addr) (d : Nat) (o : List Int) (w : World), RaceIn w m → Row (Kd.int .i64) w B o → o.length + k = m.q.games.length → (∀ i, i < o.length → 1 ≤ rd o i ∧ rd o i ≤ 3) →
    Calls Try.prog 47 #[m.v, .bool ce, .slice B o.length d] w fun e w' => e = .returned (.bool (alwaysN m.q ce k o)) ∧ Below w.heap.size w w' := by
  obtain ⟨q, A2, c2, A3, c3, A4, c4⟩ := m
  dsimp only [RaceM.v] at *
  have HG := Lib.hid hg
  have hg1 := hg.g1
  clear hg
  intro k
  induction k with
  | zero =>
    intro B d o w hq ho hlen h13
    have hlen' : ¬ (o.length : Int) < q.games.length := by omega
    have H13 := Lib.hid h13
    have HLen := Lib.hid hlen
    clear h13 hlen
    go_enter Try.func47, Try.ntmps47
    go_upto_region 1 with (fail)
    obtain ⟨W0, hW0, hB0, X0⟩ := box1 w #[.int .i64 q.win, .int .i64 q.draw, .slice A2 q.clubs.length c2, .slice A3 q.points.length c3, .slice A4 q.games.length c4, .int .i64 q.club, .int .i64 q.place] 25
    rw [hW0]
    clear hW0
    have hq0 := hq.below hB0
    have ho0 := ho.below hB0
    obtain ⟨lx, cx, fx⟩ := id X0
    go_upto_region 8 with (fail)
    refine Seg2.region3 3 5 (by kernel_rfl) (by kernel_rfl) (by kernel_rfl) (by kernel_rfl) ?_
    repeat (first
      | (refine' Seg2.pick_or (b := _) (x := _) (c := _) (y := _) rfl rfl rfl rfl ?_; simp only [Act.put, List.setIfInBounds_toArray, List.set_cons_zero, List.set_cons_succ])
      | (refine' Seg2.pick_and (b := _) (x := _) (c := _) (y := _) rfl rfl rfl rfl ?_; simp only [Act.put, List.setIfInBounds_toArray, List.set_cons_zero, List.set_cons_succ])
      | (refine' Seg2.val (v := _) rfl (fun w' hw => ?_) ?_; rotate_left 1; (obtain ⟨hbc, _⟩ := bcell hw; go_simp; rfl); simp only [Act.put, List.setIfInBounds_toArray, List.set_cons_zero, List.set_cons_succ])
      | (refine' Seg2.skip ?_ ?_; (focus (first | (rw [Seg.wanted1 rfl rfl]; simp; done) | (rw [Seg.wanted2 rfl rfl]; simp; done))); simp only [Act.put, List.setIfInBounds_toArray, List.set_cons_zero, List.set_cons_succ])
      | (refine' Seg2.pick_or_if (b := _) (x := _) (G := _) (c := _) (y := _) (by first | exact Seg.wanted1 rfl rfl | exact Seg.wanted2 rfl rfl) rfl rfl rfl ?_; simp only [Act.put, List.setIfInBounds_toArray, List.set_cons_zero, List.set_cons_succ])
      | (refine' Seg2.pick_and_if (b := _) (x := _) (G := _) (c := _) (y := _) (by first | exact Seg.wanted1 rfl rfl | exact Seg.wanted2 rfl rfl) rfl rfl rfl ?_; simp only [Act.put, List.setIfInBounds_toArray, List.set_cons_zero, List.set_cons_succ])
      | (refine' Seg2.val_if (v := _) (G := _) (by first | exact Seg.wanted1 rfl rfl | exact Seg.wanted2 rfl rfl) (fun hb w' hw => ?_) ?_; rotate_left 1; (simp only [Bool.and_eq_true, beq_iff_eq] at hb; obtain ⟨hbc, _⟩ := bcell hw; go_simp; rfl); simp only [Act.put, List.setIfInBounds_toArray, List.set_cons_zero, List.set_cons_succ]))
    refine Seg2.done (Seg2.specT_cons (by simp [Region.wanted]) (fun w7 hb07 => ?_))
    have hb7 := hb07
    refine Seg2.some_call (f := 71) (args := #[.agg #[.int .i64 q.win, .int .i64 q.draw, .slice A2 q.clubs.length c2, .slice A3 q.points.length c3, .slice A4 q.games.length c4, .int .i64 q.club, .int .i64 q.place], .slice B o.length d]) (w := w7) (by go_simp) ((rfinals_any ⟨q, A2, c2, A3, c3, A4, c4⟩ B d o w7 (hq0.below hb07) (ho0.below hb07) (by have := HLen.out; dsimp only; omega) H13.out HG.out).mono ?_)
    rintro e w8 ⟨C, cap, rfl, hO, hb8⟩
    refine ⟨_, rfl, bthen hb7 hb8, ?_⟩
    simp only [Act.put, List.setIfInBounds_toArray, List.set_cons_zero, List.set_cons_succ]
    have hb08 := bthen hb07 hb8
    refine Seg2.specT_cons (by simp [Region.wanted]) (fun w9 hb9 => ?_)
    have hpl : (after q o).length = q.points.length := afterTo_len q _ _
    refine Seg2.some_call (f := 14) (args := #[.agg #[.int .i64 q.win, .int .i64 q.draw, .slice A2 q.clubs.length c2, .slice A3 q.points.length c3, .slice A4 q.games.length c4, .int .i64 q.club, .int .i64 q.place], .slice C (after q o).length cap]) (w := w9) (by go_simp) ((refAbove_any ⟨q, A2, c2, A3, c3, A4, c4⟩ C cap (after q o) w9 (hO.row.below hb9) HG.out hpl).mono ?_)
    dsimp only
    have hmore : moreTo q (after q o) (after q o).length = more q o := by rw [hpl, more]
    have hmany : manyTo q (after q o) (after q o).length = many q o := by rw [hpl, many]
    rw [hmore, hmany]
    clear hpl hmore hmany
    rintro e w10 ⟨rfl, hb10⟩
    have hb010 := bthen (bthen hb08 hb9) hb10
    refine ⟨_, rfl, bthen (bthen (bthen hb7 hb8) hb9) hb10, ?_⟩
    simp only [Act.put, List.setIfInBounds_toArray, List.set_cons_zero, List.set_cons_succ]
    refine Seg2.specT_nil (fun w12 hb12 => ?_)
    simp only [List.drop]
    repeat (first
      | (refine' Seg2.pick_or (b := _) (x := _) (c := _) (y := _) rfl rfl rfl rfl ?_; simp only [Act.put, List.setIfInBounds_toArray, List.set_cons_zero, List.set_cons_succ])
      | (refine' Seg2.pick_and (b := _) (x := _) (c := _) (y := _) rfl rfl rfl rfl ?_; simp only [Act.put, List.setIfInBounds_toArray, List.set_cons_zero, List.set_cons_succ])
      | (refine' Seg2.val (v := _) rfl (fun w' hw => ?_) ?_; rotate_left 1; (obtain ⟨hbc, _⟩ := bcell hw; go_simp; rfl); simp only [Act.put, List.setIfInBounds_toArray, List.set_cons_zero, List.set_cons_succ])
      | (refine' Seg2.skip ?_ ?_; (focus (first | (rw [Seg.wanted1 rfl rfl]; simp; done) | (rw [Seg.wanted2 rfl rfl]; simp; done))); simp only [Act.put, List.setIfInBounds_toArray, List.set_cons_zero, List.set_cons_succ])
      | (refine' Seg2.pick_or_if (b := _) (x := _) (G := _) (c := _) (y := _) (by first | exact Seg.wanted1 rfl rfl | exact Seg.wanted2 rfl rfl) rfl rfl rfl ?_; simp only [Act.put, List.setIfInBounds_toArray, List.set_cons_zero, List.set_cons_succ])
      | (refine' Seg2.pick_and_if (b := _) (x := _) (G := _) (c := _) (y := _) (by first | exact Seg.wanted1 rfl rfl | exact Seg.wanted2 rfl rfl) rfl rfl rfl ?_; simp only [Act.put, List.setIfInBounds_toArray, List.set_cons_zero, List.set_cons_succ])
      | (refine' Seg2.val_if (v := _) (G := _) (by first | exact Seg.wanted1 rfl rfl | exact Seg.wanted2 rfl rfl) (fun hb w' hw => ?_) ?_; rotate_left 1; (simp only [Bool.and_eq_true, beq_iff_eq] at hb; obtain ⟨hbc, _⟩ := bcell hw; go_simp; rfl); simp only [Act.put, List.setIfInBounds_toArray, List.set_cons_zero, List.set_cons_succ]))
    refine Seg2.done (fun w11 hb13 => ?_)
    have hb011 := bthen hb010 (bthen hb12 hb13)
    clear lx cx fx
    obtain ⟨lx, cx, fx⟩ := X0.below hb011
    have hp0 := HG.out.p0
    have hp1 : q.place ≤ 24 := by have := HG.out.p1; have := HG.out.n1; omega
    have hBw := bthen hB0 hb011
    cases ce
    · go_wp2
      go_ret
      refine ⟨ret_bool ?_, hBw⟩
      rw [alwaysN, against, Bool.false_and, Bool.false_or, Bool.not_false, Bool.true_and, ← decide_not]
      exact decide_eq_decide.2 (by omega)
    · go_wp2
      go_ret
      refine ⟨ret_bool ?_, hBw⟩
      rw [alwaysN, against, Bool.true_and, Bool.not_true, Bool.false_and, Bool.or_false, ← decide_not]
      exact decide_eq_decide.2 (by omega)
  | succ k ih =>
    intro B d o w hq ho hlen h13
    have hlen' : (o.length : Int) < q.games.length := by omega
    have H13 := Lib.hid h13
    have HLen := Lib.hid hlen
    have IH := Lib.hid ih
    have hol : o.length ≤ 552 := by omega
    clear h13 hlen ih
    go_enter Try.func47, Try.ntmps47
    go_upto_region 1 with (fail)
    obtain ⟨W0, hW0, hB0, X0⟩ := box1 w #[.int .i64 q.win, .int .i64 q.draw, .slice A2 q.clubs.length c2, .slice A3 q.points.length c3, .slice A4 q.games.length c4, .int .i64 q.club, .int .i64 q.place] 25
    rw [hW0]
    clear hW0
    have hq0 := hq.below hB0
    have ho0 := ho.below hB0
    obtain ⟨lx, cx, fx⟩ := id X0
    go_wp2
    clear lx cx fx
    go_loopw [7] (fun v7 wr => ∃ n : Nat, n ≤ 3 ∧ v7 = .int .i64 ((n : Int) + 1) ∧ Hid (alwaysTo q ce k o n = true) ∧ Below W0.heap.size W0 wr) (fun i _ => 4 - (intOf i).toNat)
    case atStart => exact ⟨0, by omega, rfl, rfl, Below.refl _ _⟩
    case round =>
      obtain ⟨n, hn, rfl, HA, HB⟩ := hrel
      obtain ⟨lx, cx, fx⟩ := X0.below HB
      by_cases hlt : n < 3
      · have hq1 := hq0.below HB
        have ho1 := ho0.below HB
        go_upto_region 5 with (fail)
        refine (wpIn_wide (n := 0)).1 (Seg2.regionD 8 [0, 1, 3, 5] [2, 4, 6, 7] Seg2.wide_wide (by kernel_rfl) (by kernel_rfl) (by kernel_rfl) (by kernel_rfl) (by kernel_rfl) ?_)
        show Seg2.Walk2 _ _ _ _ [_, _, _, _] _
        repeat (first
          | (refine' Seg2.pick_or (b := _) (x := _) (c := _) (y := _) rfl rfl rfl rfl ?_; simp only [Act.put, List.setIfInBounds_toArray, List.set_cons_zero, List.set_cons_succ])
          | (refine' Seg2.pick_and (b := _) (x := _) (c := _) (y := _) rfl rfl rfl rfl ?_; simp only [Act.put, List.setIfInBounds_toArray, List.set_cons_zero, List.set_cons_succ])
          | (refine' Seg2.val (v := _) rfl (fun w' hw => ?_) ?_; rotate_left 1; (obtain ⟨hbc, _⟩ := bcell hw; go_simp; rfl); simp only [Act.put, List.setIfInBounds_toArray, List.set_cons_zero, List.set_cons_succ])
          | (refine' Seg2.skip ?_ ?_; (focus (first | (rw [Seg.wanted1 rfl rfl]; simp; done) | (rw [Seg.wanted2 rfl rfl]; simp; done))); simp only [Act.put, List.setIfInBounds_toArray, List.set_cons_zero, List.set_cons_succ])
          | (refine' Seg2.pick_or_if (b := _) (x := _) (G := _) (c := _) (y := _) (by first | exact Seg.wanted1 rfl rfl | exact Seg.wanted2 rfl rfl) rfl rfl rfl ?_; simp only [Act.put, List.setIfInBounds_toArray, List.set_cons_zero, List.set_cons_succ])
          | (refine' Seg2.pick_and_if (b := _) (x := _) (G := _) (c := _) (y := _) (by first | exact Seg.wanted1 rfl rfl | exact Seg.wanted2 rfl rfl) rfl rfl rfl ?_; simp only [Act.put, List.setIfInBounds_toArray, List.set_cons_zero, List.set_cons_succ])
          | (refine' Seg2.val_if (v := _) (G := _) (by first | exact Seg.wanted1 rfl rfl | exact Seg.wanted2 rfl rfl) (fun hb w' hw => ?_) ?_; rotate_left 1; (simp only [Bool.and_eq_true, beq_iff_eq] at hb; obtain ⟨hbc, _⟩ := bcell hw; go_simp; rfl); simp only [Act.put, List.setIfInBounds_toArray, List.set_cons_zero, List.set_cons_succ]))
        refine Seg2.done ?_
        refine Seg2.SpecD.two (j := 2) (k := 6) rfl rfl (by kernel_rfl) (by simp [Region.wanted]) (by simp [Region.wanted]) (fun w1 hb1 => ?_) (fun w1 hb1 => ?_)
        · simp only [List.getElem_toArray, List.getElem_cons_succ, List.getElem_cons_zero]
          refine Seg2.some_value (v := .slice (some ⟨w1.heap.size, 0, none⟩) 0 0) (w := w1.alloc (.cells #[] 3)) (by go_simp) ⟨bthen hb1 (balloc0 _ _), ?_⟩
          simp only [Act.put, List.setIfInBounds_toArray, List.set_cons_zero, List.set_cons_succ]
          have hO2 := OwnI.made (base := wr.heap.size) .i64 3 w1 hb1.size
          have hb1a := bthen hb1 (balloc0 w1 (.cells #[] 3))
          refine Seg2.SpecD.two (j := 4) (k := 6) rfl rfl (by kernel_rfl) (by simp [Region.wanted]) (by simp [Region.wanted]) (fun w2 hb2 => ?_) (fun w2 hb2 => ?_)
          · have hb2a := bthen hb1a hb2
            simp only [List.getElem_toArray, List.getElem_cons_succ, List.getElem_cons_zero]
            refine some_appendL (xs := []) (base := wr.heap.size) _ _ 22 rfl Try.underlying22 infoI _ rfl rfl (hO2.below hb2) B d o rfl ((ho1.below (hb2a))) (by simp; omega) (hb2a).size (fun A c w3 hO3 hg3 => ?_)
            simp only [List.nil_append, List.length_nil, Nat.zero_add] at hO3 hg3 ⊢
            have hb3 := below_append hb2a (hO2.below hb2) hg3 hb2a.size
            refine ⟨hb3, ?_⟩
            simp only [Act.put, List.setIfInBounds_toArray, List.set_cons_zero, List.set_cons_succ]
            refine Seg2.SpecD.one (j := 6) rfl (by kernel_rfl) (by simp [Region.wanted]) (fun w4 hb4 => ?_)
            have hb4a := bthen hb3 hb4
            simp only [List.getElem_toArray, List.getElem_cons_succ, List.getElem_cons_zero]
            refine Seg2.some_value (v := .slice (some ⟨w4.heap.size, 0, none⟩) 1 1) (w := w4.alloc (.cells #[.int .i64 ((n : Int) + 1)] 3)) (by go_simp) ⟨balloc (hb4a) _, ?_⟩
            simp only [Act.put, List.setIfInBounds_toArray, List.set_cons_zero, List.set_cons_succ]
            have hO5 := (hO3.below hb4).alloc (.cells #[.int .i64 ((n : Int) + 1)] 3)
            have hb5 := balloc hb4a (.cells #[.int .i64 ((n : Int) + 1)] 3)
            refine Seg2.SpecD.one (j := 7) rfl (by kernel_rfl) (by simp [Region.wanted]) (fun w6 hb6 => ?_)
            simp only [List.getElem_toArray, List.getElem_cons_succ, List.getElem_cons_zero]
            refine some_append1 (xs := o) (base := wr.heap.size) _ _ 22 rfl Try.underlying22 infoI _ rfl rfl ((hO5.below hb6)) ⟨w4.heap.size, 0, none⟩ ((n : Int) + 1) rfl (((bcell hb6).1 _ _ (by simp)).trans (by simp [go_sem])) (WalkArith.wf_i64 (by omega)) (by omega) (bthen hb5 hb6).size (fun g cap w7 hO7 hg7 hl7 => ⟨below_append (bthen hb5 hb6) ((hO5.below hb6)) hg7 (bthen hb5 hb6).size, ?_⟩)
            have hb7 := below_append (bthen hb5 hb6) ((hO5.below hb6)) hg7 (bthen hb5 hb6).size
            simp only [Act.put, List.setIfInBounds_toArray, List.set_cons_zero, List.set_cons_succ]
            refine Seg2.SpecD.nil (fun w8 hb8 => ?_)
            simp only [List.drop]
            have hb08 := bthen hb7 hb8
            have hrec := IH.out (some ⟨g, 0, none⟩) cap (o ++ [(n : Int) + 1]) w8 (hq1.below hb08) (hO7.row.below hb8) (by have := HLen.out; simp; omega) (snoc13 H13.out (by omega))
            rw [show (o ++ [(n : Int) + 1]).length = o.length + 1 by simp] at hrec
            refine Seg2.tail_some Seg2.wide_wide (fun c h => by cases h) rfl (Seg2.some_call (f := 47) (args := #[.agg #[.int .i64 q.win, .int .i64 q.draw, .slice A2 q.clubs.length c2, .slice A3 q.points.length c3, .slice A4 q.games.length c4, .int .i64 q.club, .int .i64 q.place], .bool ce, .slice (some ⟨g, 0, none⟩) (o.length + 1) cap]) (w := w8) (by go_simp) (hrec.mono ?_))
            rintro e w9 ⟨rfl, hb9⟩
            refine ⟨_, rfl, ?_⟩
            simp only [Act.put, List.setIfInBounds_toArray, List.set_cons_zero, List.set_cons_succ]
            have hb09 := bthen HB (bthen hb08 hb9)
            cases hv : alwaysN q ce k (o ++ [(n : Int) + 1])
            · have HV := Lib.hid hv
              clear hv
              gi_wp2
              go_wp2
              go_ret
              exact ⟨ret_bool (alwaysTo_false hlt HV.out).symm, bthen hB0 hb09⟩
            · have HV := Lib.hid hv
              clear hv
              gi_wp2
              go_wp2
              go_roundw
              case rel => exact ⟨n + 1, by omega, by go_num, Lib.hid (by rw [alwaysTo, HA.out, HV.out]; rfl), hb09⟩
              case measure => simp [intOf]; omega
          · have hb2a := bthen hb1a hb2
            simp only [List.getElem_toArray, List.getElem_cons_succ, List.getElem_cons_zero]
            refine Seg2.some_value (v := .slice (some ⟨w2.heap.size, 0, none⟩) 1 1) (w := w2.alloc (.cells #[.int .i64 ((n : Int) + 1)] 3)) (by go_simp) ⟨balloc (hb2a) _, ?_⟩
            simp only [Act.put, List.setIfInBounds_toArray, List.set_cons_zero, List.set_cons_succ]
            have hc4 : ∀ w3, Below (w2.alloc (.cells #[.int .i64 ((n : Int) + 1)] 3)).heap.size (w2.alloc (.cells #[.int .i64 ((n : Int) + 1)] 3)) w3 → w3.cell? ⟨w2.heap.size, 0, none⟩ = some (.int .i64 ((n : Int) + 1)) := fun w3 hb => ((bcell hb).1 _ _ (by simp)).trans (by simp [go_sem])
            have hb3 := balloc hb2a (.cells #[.int .i64 ((n : Int) + 1)] 3)
            have hO3' := (hO2.below hb2).alloc (.cells #[.int .i64 ((n : Int) + 1)] 3)
            have hlw : w1.heap.size < w2.heap.size := by have := hO2.new w1.heap.size rfl; have := hb2.size; omega
            generalize w2.alloc (.cells #[.int .i64 ((n : Int) + 1)] 3) = w2' at *
            refine Seg2.SpecD.one (j := 4) rfl (by kernel_rfl) (by simp [Region.wanted]) (fun w4 hb4 => ?_)
            have hb4a := bthen hb3 hb4
            simp only [List.getElem_toArray, List.getElem_cons_succ, List.getElem_cons_zero]
            refine some_appendL (xs := []) (base := wr.heap.size) _ _ 22 rfl Try.underlying22 infoI _ rfl rfl (hO3'.below hb4) B d o rfl ((ho1.below (hb4a))) (by simp; omega) (hb4a).size (fun A c w3 hO3 hg3 => ?_)
            simp only [List.nil_append, List.length_nil, Nat.zero_add] at hO3 hg3 ⊢
            have hc3 := hg3.cell (hc4 w4 hb4) (by simp [Value.ownBlock]; omega)
            have hb3a := below_append hb4a (hO3'.below hb4) hg3 hb4a.size
            refine ⟨hb3a, ?_⟩
            simp only [Act.put, List.setIfInBounds_toArray, List.set_cons_zero, List.set_cons_succ]
            refine Seg2.SpecD.one (j := 7) rfl (by kernel_rfl) (by simp [Region.wanted]) (fun w6 hb6 => ?_)
            simp only [List.getElem_toArray, List.getElem_cons_succ, List.getElem_cons_zero]
            refine some_append1 (xs := o) (base := wr.heap.size) _ _ 22 rfl Try.underlying22 infoI _ rfl rfl ((hO3.below hb6)) ⟨w2.heap.size, 0, none⟩ ((n : Int) + 1) rfl (bcellE hb6 hc3) (WalkArith.wf_i64 (by omega)) (by omega) (bthen hb3a hb6).size (fun g cap w7 hO7 hg7 hl7 => ⟨below_append (bthen hb3a hb6) ((hO3.below hb6)) hg7 (bthen hb3a hb6).size, ?_⟩)
            have hb7 := below_append (bthen hb3a hb6) ((hO3.below hb6)) hg7 (bthen hb3a hb6).size
            simp only [Act.put, List.setIfInBounds_toArray, List.set_cons_zero, List.set_cons_succ]
            refine Seg2.SpecD.nil (fun w8 hb8 => ?_)
            simp only [List.drop]
            have hb08 := bthen hb7 hb8
            have hrec := IH.out (some ⟨g, 0, none⟩) cap (o ++ [(n : Int) + 1]) w8 (hq1.below hb08) (hO7.row.below hb8) (by have := HLen.out; simp; omega) (snoc13 H13.out (by omega))
            rw [show (o ++ [(n : Int) + 1]).length = o.length + 1 by simp] at hrec
            refine Seg2.tail_some Seg2.wide_wide (fun c h => by cases h) rfl (Seg2.some_call (f := 47) (args := #[.agg #[.int .i64 q.win, .int .i64 q.draw, .slice A2 q.clubs.length c2, .slice A3 q.points.length c3, .slice A4 q.games.length c4, .int .i64 q.club, .int .i64 q.place], .bool ce, .slice (some ⟨g, 0, none⟩) (o.length + 1) cap]) (w := w8) (by go_simp) (hrec.mono ?_))
            rintro e w9 ⟨rfl, hb9⟩
            refine ⟨_, rfl, ?_⟩
            simp only [Act.put, List.setIfInBounds_toArray, List.set_cons_zero, List.set_cons_succ]
            have hb09 := bthen HB (bthen hb08 hb9)
            cases hv : alwaysN q ce k (o ++ [(n : Int) + 1])
            · have HV := Lib.hid hv
              clear hv
              gi_wp2
              go_wp2
              go_ret
              exact ⟨ret_bool (alwaysTo_false hlt HV.out).symm, bthen hB0 hb09⟩
            · have HV := Lib.hid hv
              clear hv
              gi_wp2
              go_wp2
              go_roundw
              case rel => exact ⟨n + 1, by omega, by go_num, Lib.hid (by rw [alwaysTo, HA.out, HV.out]; rfl), hb09⟩
              case measure => simp [intOf]; omega
        · simp only [List.getElem_toArray, List.getElem_cons_succ, List.getElem_cons_zero]
          refine Seg2.some_value (v := .slice (some ⟨w1.heap.size, 0, none⟩) 1 1) (w := w1.alloc (.cells #[.int .i64 ((n : Int) + 1)] 3)) (by go_simp) ⟨balloc (hb1) _, ?_⟩
          simp only [Act.put, List.setIfInBounds_toArray, List.set_cons_zero, List.set_cons_succ]
          have hc4 : ∀ w3, Below (w1.alloc (.cells #[.int .i64 ((n : Int) + 1)] 3)).heap.size (w1.alloc (.cells #[.int .i64 ((n : Int) + 1)] 3)) w3 → w3.cell? ⟨w1.heap.size, 0, none⟩ = some (.int .i64 ((n : Int) + 1)) := fun w3 hb => ((bcell hb).1 _ _ (by simp)).trans (by simp [go_sem])
          have hb1a := balloc hb1 (.cells #[.int .i64 ((n : Int) + 1)] 3)
          have hlw : w1.heap.size < (w1.alloc (.cells #[.int .i64 ((n : Int) + 1)] 3)).heap.size := by simp
          generalize w1.alloc (.cells #[.int .i64 ((n : Int) + 1)] 3) = w1' at *
          refine Seg2.SpecD.one (j := 2) rfl (by kernel_rfl) (by simp [Region.wanted]) (fun w2 hb2 => ?_)
          simp only [List.getElem_toArray, List.getElem_cons_succ, List.getElem_cons_zero]
          refine Seg2.some_value (v := .slice (some ⟨w2.heap.size, 0, none⟩) 0 0) (w := w2.alloc (.cells #[] 3)) (by go_simp) ⟨bthen (bthen hb1a hb2) (balloc0 _ _), ?_⟩
          simp only [Act.put, List.setIfInBounds_toArray, List.set_cons_zero, List.set_cons_succ]
          have hb2a := bthen hb1a hb2
          have hO2 := OwnI.made (base := wr.heap.size) .i64 3 w2 hb2a.size
          have hb2b := bthen hb2a (balloc0 w2 (.cells #[] 3))
          have hlw2 : w1.heap.size < w2.heap.size := by have := hb2.size; omega
          refine Seg2.SpecD.one (j := 4) rfl (by kernel_rfl) (by simp [Region.wanted]) (fun w4 hb4 => ?_)
          have hb4a := bthen hb2b hb4
          simp only [List.getElem_toArray, List.getElem_cons_succ, List.getElem_cons_zero]
          refine some_appendL (xs := []) (base := wr.heap.size) _ _ 22 rfl Try.underlying22 infoI _ rfl rfl (hO2.below hb4) B d o rfl ((ho1.below (hb4a))) (by simp; omega) (hb4a).size (fun A c w3 hO3 hg3 => ?_)
          simp only [List.nil_append, List.length_nil, Nat.zero_add] at hO3 hg3 ⊢
          have hc3 := hg3.cell (hc4 w4 (bthen hb2 (bthen (balloc0 w2 (.cells #[] 3)) hb4))) (by simp [Value.ownBlock]; omega)
          have hb3a := below_append hb4a (hO2.below hb4) hg3 hb4a.size
          refine ⟨hb3a, ?_⟩
          simp only [Act.put, List.setIfInBounds_toArray, List.set_cons_zero, List.set_cons_succ]
          refine Seg2.SpecD.one (j := 7) rfl (by kernel_rfl) (by simp [Region.wanted]) (fun w6 hb6 => ?_)
          simp only [List.getElem_toArray, List.getElem_cons_succ, List.getElem_cons_zero]
          refine some_append1 (xs := o) (base := wr.heap.size) _ _ 22 rfl Try.underlying22 infoI _ rfl rfl ((hO3.below hb6)) ⟨w1.heap.size, 0, none⟩ ((n : Int) + 1) rfl (bcellE hb6 hc3) (WalkArith.wf_i64 (by omega)) (by omega) (bthen hb3a hb6).size (fun g cap w7 hO7 hg7 hl7 => ⟨below_append (bthen hb3a hb6) ((hO3.below hb6)) hg7 (bthen hb3a hb6).size, ?_⟩)
          have hb7 := below_append (bthen hb3a hb6) ((hO3.below hb6)) hg7 (bthen hb3a hb6).size
          simp only [Act.put, List.setIfInBounds_toArray, List.set_cons_zero, List.set_cons_succ]
          refine Seg2.SpecD.nil (fun w8 hb8 => ?_)
          simp only [List.drop]
          have hb08 := bthen hb7 hb8
          have hrec := IH.out (some ⟨g, 0, none⟩) cap (o ++ [(n : Int) + 1]) w8 (hq1.below hb08) (hO7.row.below hb8) (by have := HLen.out; simp; omega) (snoc13 H13.out (by omega))
          rw [show (o ++ [(n : Int) + 1]).length = o.length + 1 by simp] at hrec
          refine Seg2.tail_some Seg2.wide_wide (fun c h => by cases h) rfl (Seg2.some_call (f := 47) (args := #[.agg #[.int .i64 q.win, .int .i64 q.draw, .slice A2 q.clubs.length c2, .slice A3 q.points.length c3, .slice A4 q.games.length c4, .int .i64 q.club, .int .i64 q.place], .bool ce, .slice (some ⟨g, 0, none⟩) (o.length + 1) cap]) (w := w8) (by go_simp) (hrec.mono ?_))
          rintro e w9 ⟨rfl, hb9⟩
          refine ⟨_, rfl, ?_⟩
          simp only [Act.put, List.setIfInBounds_toArray, List.set_cons_zero, List.set_cons_succ]
          have hb09 := bthen HB (bthen hb08 hb9)
          cases hv : alwaysN q ce k (o ++ [(n : Int) + 1])
          · have HV := Lib.hid hv
            clear hv
            gi_wp2
            go_wp2
            go_ret
            exact ⟨ret_bool (alwaysTo_false hlt HV.out).symm, bthen hB0 hb09⟩
          · have HV := Lib.hid hv
            clear hv
            gi_wp2
            go_wp2
            go_roundw
            case rel => exact ⟨n + 1, by omega, by go_num, Lib.hid (by rw [alwaysTo, HA.out, HV.out]; rfl), hb09⟩
            case measure => simp [intOf]; omega
      · obtain rfl : n = 3 := by omega
        go_wp2
        go_ret
        exact ⟨ret_bool (by rw [← alwaysTo_three, HA.out]), bthen hB0 HB⟩
end Go.Proofs.Ytfmekjpmjefpmaa
