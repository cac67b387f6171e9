/- choose and ref.ByFlow, walked: with few clubs every race of equal halves is decided by flow. -/
import Derived.Test.YtfmekjpmjefpmaaRa
import Derived.Test.YtfmekjpmjefpmaaWp
set_option linter.unusedSimpArgs false
set_option linter.unusedVariables false
namespace Go.Proofs.Ytfmekjpmjefpmaa
open Go.RowKit

theorem div_le {x : Int} {k : Nat} (h0 : 0 ≤ x) : 0 ≤ Int.tdiv x ((k : Int) + 1) ∧ Int.tdiv x ((k : Int) + 1) ≤ x := by
  rw [Int.tdiv_eq_ediv_of_nonneg h0]
  exact ⟨Int.ediv_nonneg h0 (by omega), Int.ediv_le_self _ h0⟩

def capX (i : Nat) : Int := if i = 0 then 1 else if i = 1 then 5 else 25
theorem capX_le (i : Nat) : capX i ≤ 25 := by
  unfold capX
  split
  · omega
  · split <;> omega
theorem cap_step {n x : Int} {i : Nat} (hn0 : 0 ≤ n - i) (hn : n ≤ 5) (x0 : 0 ≤ x) (x1 : x ≤ capX i) (hi : (i : Int) ≤ 1) :
    0 ≤ x * (n - i) ∧ x * (n - i) ≤ 25 ∧ 0 ≤ Int.tdiv (x * (n - i)) ((i : Int) + 1) ∧ Int.tdiv (x * (n - i)) ((i : Int) + 1) ≤ capX (i + 1) := by
  have h1 : 0 ≤ x * (n - i) := Int.mul_nonneg x0 hn0
  have h2 : x * (n - i) ≤ x * 5 := Int.mul_le_mul_of_nonneg_left (by omega) x0
  obtain ⟨h3, h4⟩ := div_le (k := i) h1
  have : i = 0 ∨ i = 1 := by omega
  rcases this with rfl | rfl
  · simp only [capX] at x1 ⊢
    simp at x1 ⊢
    simp at h1 h2 h3 h4
    omega
  · simp only [capX] at x1 ⊢
    simp at x1 ⊢
    simp at h1 h2 h3 h4
    omega

def chX (n : Int) : Nat → Int
  | 0 => 1
  | i + 1 => Int.tdiv (chX n i * (n - i)) ((i : Int) + 1)
theorem chX_bd {n : Int} (hn : n ≤ 5) : ∀ i : Nat, (i : Int) ≤ 2 → (i : Int) ≤ n → 0 ≤ chX n i ∧ chX n i ≤ capX i
  | 0, _, _ => by simp [chX, capX]
  | i + 1, h, h' => by
    have ih := chX_bd hn i (by omega) (by omega)
    have := cap_step (n := n) (by omega) hn ih.1 ih.2 (by omega)
    exact ⟨this.2.2.1, this.2.2.2⟩
def chI (n k : Int) : Int := if k < 0 ∨ n < k then 0 else chX n (min k (n - k)).toNat
theorem chI_le {n k : Int} (hn0 : 0 ≤ n) (hn : n ≤ 5) : chI n k ≤ 2048 := by
  unfold chI
  split
  · omega
  · rename_i h
    have h1 := chX_bd hn (min k (n - k)).toNat (by omega) (by omega)
    have h2 := capX_le (min k (n - k)).toNat
    omega

set_option maxHeartbeats 2000000 in
theorem choose_any (n k : Int) (w : World) (hn0 : 0 ≤ n) (hn : n ≤ 5) (hk0 : -1 ≤ k) (hk : k ≤ 24) :
    Calls Try.prog 72 #[.int .i64 n, .int .i64 k] w fun e w' => e = .returned (.int .i64 (chI n k)) ∧ w = w' := by
  by_cases hbad : k < 0 ∨ n < k
  · have HV : Hid (chI n k = 0) := Lib.hid (by rw [chI, if_pos hbad])
    rw [HV.out]
    go_enter Try.func72, Try.ntmps72
    rcases hbad with h | h
    · go_wp2
      go_ret
      exact ⟨rfl, rfl⟩
    · by_cases h0 : k < 0
      · go_wp2
        go_ret
        exact ⟨rfl, rfl⟩
      · go_wp2
        go_ret
        exact ⟨rfl, rfl⟩
  · obtain ⟨m, hm, hm2, hmn⟩ : ∃ m : Nat, (m : Int) = min k (n - k) ∧ m ≤ 2 ∧ (m : Int) ≤ n := ⟨(min k (n - k)).toNat, by omega, by omega, by omega⟩
    have HV : Hid (chI n k = chX n m) := Lib.hid (by rw [chI, if_neg hbad]; congr 1; omega)
    have h0 : 0 ≤ k := by omega
    have h1 : k ≤ n := by omega
    clear hbad
    have HW : Hid ((if IntKind.i64.wrap (n - k) < k then IntKind.i64.wrap (n - k) else k) = m) := Lib.hid (by
      rw [IntWalk.i64_in _ (by omega)]
      split <;> omega)
    have HM := Lib.hid (And.intro hm2 hmn)
    clear hm2 hmn hm
    rw [HV.out]
    go_enter Try.func72, Try.ntmps72
    go_wp2
    go_loopw [5, 6] (fun v5 v6 wr => ∃ i : Nat, i ≤ m ∧ v6 = .int .i64 i ∧ v5 = .int .i64 (chX n i) ∧ w = wr) (fun _ i _ => m - (intOf i).toNat)
    case atStart => exact ⟨0, by omega, rfl, rfl, rfl⟩
    case round =>
      obtain ⟨i, hi, rfl, rfl, rfl⟩ := hrel
      by_cases hlt : i < m
      · have hb := chX_bd hn i (by have := HM.out; omega) (by have := HM.out; omega)
        have h2 := cap_step (n := n) (by have := HM.out; omega) hn hb.1 hb.2 (by have := HM.out; omega)
        have HX : Hid (chX n (i + 1) = Int.tdiv (chX n i * (n - i)) ((i : Int) + 1)) := Lib.hid rfl
        generalize chX n i = x at *
        have hwm : IntKind.i64.wrap (x * (n - i)) = x * (n - i) := IntWalk.i64_in _ (by omega)
        have hx := capX_le (i + 1)
        have hp := HX.out.symm
        have hp1 : chX n (i + 1) ≤ 25 := by omega
        have hpw : IntKind.i64.wrap (chX n (i + 1)) = chX n (i + 1) := IntWalk.i64_in _ (by omega)
        have hlt' : (i : Int) < m := by omega
        have hm9 := HM.out
        clear h2 hb
        repeat (first | (with_reducible refine Seg.plainE ?_) | go_step)
        repeat (first
          | (refine' Seg.pick_or (b := _) (x := _) (c := _) (y := _) rfl rfl rfl rfl ?_; simp only [Act.put, List.setIfInBounds_toArray, List.set_cons_zero, List.set_cons_succ])
          | (refine' Seg.pick_and (b := _) (x := _) (c := _) (y := _) rfl rfl rfl rfl ?_; simp only [Act.put, List.setIfInBounds_toArray, List.set_cons_zero, List.set_cons_succ])
          | (refine' Seg.val (v := _) rfl (fun w' hw => ?_) ?_; rotate_left 1; (subst hw; go_simp; rfl); simp only [Act.put, List.setIfInBounds_toArray, List.set_cons_zero, List.set_cons_succ])
          | (refine' Seg.skip ?_ ?_; (focus (first | (rw [Seg.wanted1 rfl rfl]; simp; done) | (rw [Seg.wanted2 rfl rfl]; simp; done))); simp only [Act.put, List.setIfInBounds_toArray, List.set_cons_zero, List.set_cons_succ])
          | (refine' Seg.pick_or_if (b := _) (x := _) (G := _) (c := _) (y := _) (by first | exact Seg.wanted1 rfl rfl | exact Seg.wanted2 rfl rfl) rfl rfl rfl ?_; simp only [Act.put, List.setIfInBounds_toArray, List.set_cons_zero, List.set_cons_succ])
          | (refine' Seg.pick_and_if (b := _) (x := _) (G := _) (c := _) (y := _) (by first | exact Seg.wanted1 rfl rfl | exact Seg.wanted2 rfl rfl) rfl rfl rfl ?_; simp only [Act.put, List.setIfInBounds_toArray, List.set_cons_zero, List.set_cons_succ])
          | (refine' Seg.val_if (v := _) (G := _) (by first | exact Seg.wanted1 rfl rfl | exact Seg.wanted2 rfl rfl) (fun hb w' hw => ?_) ?_; rotate_left 1; (simp only [Bool.and_eq_true, beq_iff_eq] at hb; subst hw; go_simp; rfl); simp only [Act.put, List.setIfInBounds_toArray, List.set_cons_zero, List.set_cons_succ]))
        refine Seg.done ?_
        rw [HW.out]
        go_wp2
        exact ⟨⟨i + 1, by omega, by go_num, rfl, trivial⟩, by simp [intOf]; omega⟩
      · obtain rfl : i = m := by omega
        repeat (first | (with_reducible refine Seg.plainE ?_) | go_step)
        repeat (first
          | (refine' Seg.pick_or (b := _) (x := _) (c := _) (y := _) rfl rfl rfl rfl ?_; simp only [Act.put, List.setIfInBounds_toArray, List.set_cons_zero, List.set_cons_succ])
          | (refine' Seg.pick_and (b := _) (x := _) (c := _) (y := _) rfl rfl rfl rfl ?_; simp only [Act.put, List.setIfInBounds_toArray, List.set_cons_zero, List.set_cons_succ])
          | (refine' Seg.val (v := _) rfl (fun w' hw => ?_) ?_; rotate_left 1; (subst hw; go_simp; rfl); simp only [Act.put, List.setIfInBounds_toArray, List.set_cons_zero, List.set_cons_succ])
          | (refine' Seg.skip ?_ ?_; (focus (first | (rw [Seg.wanted1 rfl rfl]; simp; done) | (rw [Seg.wanted2 rfl rfl]; simp; done))); simp only [Act.put, List.setIfInBounds_toArray, List.set_cons_zero, List.set_cons_succ])
          | (refine' Seg.pick_or_if (b := _) (x := _) (G := _) (c := _) (y := _) (by first | exact Seg.wanted1 rfl rfl | exact Seg.wanted2 rfl rfl) rfl rfl rfl ?_; simp only [Act.put, List.setIfInBounds_toArray, List.set_cons_zero, List.set_cons_succ])
          | (refine' Seg.pick_and_if (b := _) (x := _) (G := _) (c := _) (y := _) (by first | exact Seg.wanted1 rfl rfl | exact Seg.wanted2 rfl rfl) rfl rfl rfl ?_; simp only [Act.put, List.setIfInBounds_toArray, List.set_cons_zero, List.set_cons_succ])
          | (refine' Seg.val_if (v := _) (G := _) (by first | exact Seg.wanted1 rfl rfl | exact Seg.wanted2 rfl rfl) (fun hb w' hw => ?_) ?_; rotate_left 1; (simp only [Bool.and_eq_true, beq_iff_eq] at hb; subst hw; go_simp; rfl); simp only [Act.put, List.setIfInBounds_toArray, List.set_cons_zero, List.set_cons_succ]))
        refine Seg.done ?_
        rw [HW.out]
        go_wp2
        go_ret
        exact ⟨rfl, rfl⟩

set_option maxHeartbeats 4000000 in
set_option maxRecDepth 100000 in
theorem rbyFlow_any (m : RaceM) (w : World) (hg : Good m.q) (h6 : m.q.clubs.length ≤ 6) :
    Calls Try.prog 44 #[m.v] w fun e w' => e = .returned (.bool (halves m.q)) ∧ Below w.heap.size w w' := by
  obtain ⟨q, A2, c2, A3, c3, A4, c4⟩ := m
  dsimp only [RaceM.v] at *
  have hd0 := hg.d0
  have hd1 : q.draw ≤ 999 := by have := hg.d1; have := hg.w1; omega
  have hp0 := hg.p0
  have hp1 : q.place ≤ 24 := by have := hg.p1; have := hg.n1; omega
  have hn := hg.n0
  have hw1 : IntKind.i64.wrap (q.place - 1) = q.place - 1 := IntWalk.i64_in _ (by omega)
  have hw2 : IntKind.i64.wrap (2 * q.draw) = 2 * q.draw := IntWalk.i64_in _ (by omega)
  have hp2 : 0 ≤ q.place - 1 := by omega
  clear hg
  have HR : Hid (∀ x y : Int, x ≤ 2048 → y ≤ 2048 → (((decide (0 < q.draw) && (q.win == 2 * q.draw)) && decide (x ≤ 2048)) && decide (y ≤ 2048)) = halves q) := Lib.hid fun x y hx hy => by
    rw [decide_eq_true hx, decide_eq_true hy, Bool.and_true, Bool.and_true]; rfl
  go_enter Try.func44, Try.ntmps44
  go_upto_region 1 with (fail)
  obtain ⟨W0, hW0, hB0, X0⟩ := box1 w #[.int .i64 q.win, .int .i64 q.draw, .slice A2 q.clubs.length c2, .slice A3 q.points.length c3, .slice A4 q.games.length c4, .int .i64 q.club, .int .i64 q.place] 25
  rw [hW0]
  clear hW0
  obtain ⟨lx, cx, fx⟩ := id X0
  go_upto_region 2 with (fail)
  repeat (first | (with_reducible refine Seg.plainB ?_) | go_step)
  repeat (first
    | (refine' Seg.pick_or (b := _) (x := _) (c := _) (y := _) rfl rfl rfl rfl ?_; simp only [Act.put, List.setIfInBounds_toArray, List.set_cons_zero, List.set_cons_succ])
    | (refine' Seg.pick_and (b := _) (x := _) (c := _) (y := _) rfl rfl rfl rfl ?_; simp only [Act.put, List.setIfInBounds_toArray, List.set_cons_zero, List.set_cons_succ])
    | (refine' Seg.val (v := _) rfl (fun w' hw => ?_) ?_; rotate_left 1; (obtain ⟨hbc, _⟩ := bcell hw; go_simp; rfl); simp only [Act.put, List.setIfInBounds_toArray, List.set_cons_zero, List.set_cons_succ])
    | (refine' Seg.skip ?_ ?_; (focus (first | (rw [Seg.wanted1 rfl rfl]; simp; done) | (rw [Seg.wanted2 rfl rfl]; simp; done))); simp only [Act.put, List.setIfInBounds_toArray, List.set_cons_zero, List.set_cons_succ])
    | (refine' Seg.pick_or_if (b := _) (x := _) (G := _) (c := _) (y := _) (by first | exact Seg.wanted1 rfl rfl | exact Seg.wanted2 rfl rfl) rfl rfl rfl ?_; simp only [Act.put, List.setIfInBounds_toArray, List.set_cons_zero, List.set_cons_succ])
    | (refine' Seg.pick_and_if (b := _) (x := _) (G := _) (c := _) (y := _) (by first | exact Seg.wanted1 rfl rfl | exact Seg.wanted2 rfl rfl) rfl rfl rfl ?_; simp only [Act.put, List.setIfInBounds_toArray, List.set_cons_zero, List.set_cons_succ])
    | (refine' Seg.val_if (v := _) (G := _) (by first | exact Seg.wanted1 rfl rfl | exact Seg.wanted2 rfl rfl) (fun hb w' hw => ?_) ?_; rotate_left 1; (simp only [Bool.and_eq_true, beq_iff_eq] at hb; obtain ⟨hbc, _⟩ := bcell hw; go_simp; rfl); simp only [Act.put, List.setIfInBounds_toArray, List.set_cons_zero, List.set_cons_succ]))
  refine' Seg.call_if (v := _) (G := _) (f := _) (args := _) (by first | exact Seg.wanted1 rfl rfl | exact Seg.wanted2 rfl rfl) (fun hb w' => ?_) (fun hb w' hw => callE hw (choose_any ((q.clubs.length : Int) - 1) q.place w' (by omega) (by omega) (by omega) (by omega))) ?_
  · simp only [Bool.and_eq_true, beq_iff_eq] at hb
    go_simp
  simp only [Act.put, List.setIfInBounds_toArray, List.set_cons_zero, List.set_cons_succ]
  repeat (first
    | (refine' Seg.pick_or (b := _) (x := _) (c := _) (y := _) rfl rfl rfl rfl ?_; simp only [Act.put, List.setIfInBounds_toArray, List.set_cons_zero, List.set_cons_succ])
    | (refine' Seg.pick_and (b := _) (x := _) (c := _) (y := _) rfl rfl rfl rfl ?_; simp only [Act.put, List.setIfInBounds_toArray, List.set_cons_zero, List.set_cons_succ])
    | (refine' Seg.val (v := _) rfl (fun w' hw => ?_) ?_; rotate_left 1; (obtain ⟨hbc, _⟩ := bcell hw; go_simp; rfl); simp only [Act.put, List.setIfInBounds_toArray, List.set_cons_zero, List.set_cons_succ])
    | (refine' Seg.skip ?_ ?_; (focus (first | (rw [Seg.wanted1 rfl rfl]; simp; done) | (rw [Seg.wanted2 rfl rfl]; simp; done))); simp only [Act.put, List.setIfInBounds_toArray, List.set_cons_zero, List.set_cons_succ])
    | (refine' Seg.pick_or_if (b := _) (x := _) (G := _) (c := _) (y := _) (by first | exact Seg.wanted1 rfl rfl | exact Seg.wanted2 rfl rfl) rfl rfl rfl ?_; simp only [Act.put, List.setIfInBounds_toArray, List.set_cons_zero, List.set_cons_succ])
    | (refine' Seg.pick_and_if (b := _) (x := _) (G := _) (c := _) (y := _) (by first | exact Seg.wanted1 rfl rfl | exact Seg.wanted2 rfl rfl) rfl rfl rfl ?_; simp only [Act.put, List.setIfInBounds_toArray, List.set_cons_zero, List.set_cons_succ])
    | (refine' Seg.val_if (v := _) (G := _) (by first | exact Seg.wanted1 rfl rfl | exact Seg.wanted2 rfl rfl) (fun hb w' hw => ?_) ?_; rotate_left 1; (simp only [Bool.and_eq_true, beq_iff_eq] at hb; obtain ⟨hbc, _⟩ := bcell hw; go_simp; rfl); simp only [Act.put, List.setIfInBounds_toArray, List.set_cons_zero, List.set_cons_succ]))
  refine' Seg.call_if (v := _) (G := _) (f := _) (args := _) (by first | exact Seg.wanted1 rfl rfl | exact Seg.wanted2 rfl rfl) (fun hb w' => ?_) (fun hb w' hw => callE hw (choose_any ((q.clubs.length : Int) - 1) (q.place - 1) w' (by omega) (by omega) (by omega) (by omega))) ?_
  · simp only [Bool.and_eq_true, beq_iff_eq] at hb
    go_simp
  simp only [Act.put, List.setIfInBounds_toArray, List.set_cons_zero, List.set_cons_succ]
  repeat (first
    | (refine' Seg.pick_or (b := _) (x := _) (c := _) (y := _) rfl rfl rfl rfl ?_; simp only [Act.put, List.setIfInBounds_toArray, List.set_cons_zero, List.set_cons_succ])
    | (refine' Seg.pick_and (b := _) (x := _) (c := _) (y := _) rfl rfl rfl rfl ?_; simp only [Act.put, List.setIfInBounds_toArray, List.set_cons_zero, List.set_cons_succ])
    | (refine' Seg.val (v := _) rfl (fun w' hw => ?_) ?_; rotate_left 1; (obtain ⟨hbc, _⟩ := bcell hw; go_simp; rfl); simp only [Act.put, List.setIfInBounds_toArray, List.set_cons_zero, List.set_cons_succ])
    | (refine' Seg.skip ?_ ?_; (focus (first | (rw [Seg.wanted1 rfl rfl]; simp; done) | (rw [Seg.wanted2 rfl rfl]; simp; done))); simp only [Act.put, List.setIfInBounds_toArray, List.set_cons_zero, List.set_cons_succ])
    | (refine' Seg.pick_or_if (b := _) (x := _) (G := _) (c := _) (y := _) (by first | exact Seg.wanted1 rfl rfl | exact Seg.wanted2 rfl rfl) rfl rfl rfl ?_; simp only [Act.put, List.setIfInBounds_toArray, List.set_cons_zero, List.set_cons_succ])
    | (refine' Seg.pick_and_if (b := _) (x := _) (G := _) (c := _) (y := _) (by first | exact Seg.wanted1 rfl rfl | exact Seg.wanted2 rfl rfl) rfl rfl rfl ?_; simp only [Act.put, List.setIfInBounds_toArray, List.set_cons_zero, List.set_cons_succ])
    | (refine' Seg.val_if (v := _) (G := _) (by first | exact Seg.wanted1 rfl rfl | exact Seg.wanted2 rfl rfl) (fun hb w' hw => ?_) ?_; rotate_left 1; (simp only [Bool.and_eq_true, beq_iff_eq] at hb; obtain ⟨hbc, _⟩ := bcell hw; go_simp; rfl); simp only [Act.put, List.setIfInBounds_toArray, List.set_cons_zero, List.set_cons_succ]))
  refine Seg.doneB (fun w2 hw2 => ?_)
  repeat ((conv in Seg.opt _ _ => skip); generalize Seg.opt _ _ = u)
  rw [HR.out _ _ (chI_le (by omega) (by omega)) (chI_le (by omega) (by omega))]
  go_wp2
  go_ret
  exact ⟨rfl, bthen hB0 hw2⟩
end Go.Proofs.Ytfmekjpmjefpmaa
