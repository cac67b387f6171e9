/- The check of a race, walked. -/
import Derived.Test.YtfmekjpmjefpmaaWb
set_option linter.unusedSimpArgs false
set_option linter.unusedVariables false
namespace Go.Proofs.Ytfmekjpmjefpmaa
open Go.RowKit

theorem inRange_any (n x : Int) (b : Nat) (w : World) (hb : w.cell? ⟨b, 0, none⟩ = some (.int .i64 n)) :
    Calls Try.prog 36 #[.int .i64 x, .pointer (some ⟨b, 0, none⟩)] w fun e w' => e = .returned (.bool (decide (0 ≤ x) && decide (x < n))) ∧ w = w' := by
  go_enter Try.func36, Try.ntmps36
  go_wp2
  all_goals
    go_ret
    refine ⟨ret_bool ?_, rfl⟩
    simp_all <;> omega

set_option maxHeartbeats 800000 in
theorem badGame_any (n : Int) (x : Edge) (b f : Nat) (w : World) (hb : w.cell? ⟨b, 0, none⟩ = some (.int .i64 n)) (hf : w.cell? ⟨f, 0, none⟩ = some (.func (.func 36) #[] #[.pointer (some ⟨b, 0, none⟩)])) :
    Calls Try.prog 38 #[.agg #[.int .i64 x.l, .int .i64 x.r], .pointer (some ⟨f, 0, none⟩)] w fun e w' => e = .returned (.bool (badGame n x)) ∧ Below w.heap.size w w' := by
  have lb := World.block_lt_of_cell? w _ hb
  have lf := World.block_lt_of_cell? w _ hf
  dsimp only at lb lf
  go_enter Try.func38, Try.ntmps38
  go_upto_region 1 with (fail)
  obtain ⟨W0, hW0, hB0, X0⟩ := box1 w #[.int .i64 x.l, .int .i64 x.r] 51
  rw [hW0]
  clear hW0
  have hb0 := bcellE hB0 hb
  have hf0 := bcellE hB0 hf
  have lb0 := Nat.lt_of_lt_of_le lb hB0.size
  have lf0 := Nat.lt_of_lt_of_le lf hB0.size
  obtain ⟨lx, cx, fx⟩ := id X0
  clear hb hf lb lf
  repeat (first | (with_reducible refine Seg.plainB ?_) | go_step)
  repeat (first
    | (refine' Seg.pick_or (b := _) (x := _) (c := _) (y := _) rfl rfl rfl rfl ?_; simp only [Act.put, List.setIfInBounds_toArray, List.set_cons_zero, List.set_cons_succ])
    | (refine' Seg.pick_and (b := _) (x := _) (c := _) (y := _) rfl rfl rfl rfl ?_; simp only [Act.put, List.setIfInBounds_toArray, List.set_cons_zero, List.set_cons_succ])
    | (refine' Seg.val (v := _) rfl (fun w' hw => ?_) ?_; rotate_left 1; (obtain ⟨hbc, _⟩ := bcell hw; go_simp; rfl); simp only [Act.put, List.setIfInBounds_toArray, List.set_cons_zero, List.set_cons_succ])
    | (refine' Seg.skip ?_ ?_; (focus (first | (rw [Seg.wanted1 rfl rfl]; simp; done) | (rw [Seg.wanted2 rfl rfl]; simp; done))); simp only [Act.put, List.setIfInBounds_toArray, List.set_cons_zero, List.set_cons_succ])
    | (refine' Seg.pick_or_if (b := _) (x := _) (G := _) (c := _) (y := _) (by first | exact Seg.wanted1 rfl rfl | exact Seg.wanted2 rfl rfl) rfl rfl rfl ?_; simp only [Act.put, List.setIfInBounds_toArray, List.set_cons_zero, List.set_cons_succ])
    | (refine' Seg.pick_and_if (b := _) (x := _) (G := _) (c := _) (y := _) (by first | exact Seg.wanted1 rfl rfl | exact Seg.wanted2 rfl rfl) rfl rfl rfl ?_; simp only [Act.put, List.setIfInBounds_toArray, List.set_cons_zero, List.set_cons_succ])
    | (refine' Seg.val_if (v := _) (G := _) (by first | exact Seg.wanted1 rfl rfl | exact Seg.wanted2 rfl rfl) (fun hb w' hw => ?_) ?_; rotate_left 1; (simp only [Bool.and_eq_true, beq_iff_eq] at hb; obtain ⟨hbc, _⟩ := bcell hw; go_simp; rfl); simp only [Act.put, List.setIfInBounds_toArray, List.set_cons_zero, List.set_cons_succ]))
  refine' Seg.call (v := _) (f := _) (args := _) rfl (fun w' => ?_) (fun w' hw => callE hw (inRange_any n x.l b w' (bcellE hw hb0))) ?_
  · go_simp
  simp only [Act.put, List.setIfInBounds_toArray, List.set_cons_zero, List.set_cons_succ]
  repeat (first
    | (refine' Seg.pick_or (b := _) (x := _) (c := _) (y := _) rfl rfl rfl rfl ?_; simp only [Act.put, List.setIfInBounds_toArray, List.set_cons_zero, List.set_cons_succ])
    | (refine' Seg.pick_and (b := _) (x := _) (c := _) (y := _) rfl rfl rfl rfl ?_; simp only [Act.put, List.setIfInBounds_toArray, List.set_cons_zero, List.set_cons_succ])
    | (refine' Seg.val (v := _) rfl (fun w' hw => ?_) ?_; rotate_left 1; (obtain ⟨hbc, _⟩ := bcell hw; go_simp; rfl); simp only [Act.put, List.setIfInBounds_toArray, List.set_cons_zero, List.set_cons_succ])
    | (refine' Seg.skip ?_ ?_; (focus (first | (rw [Seg.wanted1 rfl rfl]; simp; done) | (rw [Seg.wanted2 rfl rfl]; simp; done))); simp only [Act.put, List.setIfInBounds_toArray, List.set_cons_zero, List.set_cons_succ])
    | (refine' Seg.pick_or_if (b := _) (x := _) (G := _) (c := _) (y := _) (by first | exact Seg.wanted1 rfl rfl | exact Seg.wanted2 rfl rfl) rfl rfl rfl ?_; simp only [Act.put, List.setIfInBounds_toArray, List.set_cons_zero, List.set_cons_succ])
    | (refine' Seg.pick_and_if (b := _) (x := _) (G := _) (c := _) (y := _) (by first | exact Seg.wanted1 rfl rfl | exact Seg.wanted2 rfl rfl) rfl rfl rfl ?_; simp only [Act.put, List.setIfInBounds_toArray, List.set_cons_zero, List.set_cons_succ])
    | (refine' Seg.val_if (v := _) (G := _) (by first | exact Seg.wanted1 rfl rfl | exact Seg.wanted2 rfl rfl) (fun hb w' hw => ?_) ?_; rotate_left 1; (simp only [Bool.and_eq_true, beq_iff_eq] at hb; obtain ⟨hbc, _⟩ := bcell hw; go_simp; rfl); simp only [Act.put, List.setIfInBounds_toArray, List.set_cons_zero, List.set_cons_succ]))
  refine' Seg.call_if (v := _) (G := _) (f := _) (args := _) (by first | exact Seg.wanted1 rfl rfl | exact Seg.wanted2 rfl rfl) (fun hb w' => ?_) (fun hb w' hw => callE hw (inRange_any n x.r b w' (bcellE hw hb0))) ?_
  · simp only [Bool.and_eq_true, beq_iff_eq] at hb
    go_simp
  simp only [Act.put, List.setIfInBounds_toArray, List.set_cons_zero, List.set_cons_succ]
  repeat (first
    | (refine' Seg.pick_or (b := _) (x := _) (c := _) (y := _) rfl rfl rfl rfl ?_; simp only [Act.put, List.setIfInBounds_toArray, List.set_cons_zero, List.set_cons_succ])
    | (refine' Seg.pick_and (b := _) (x := _) (c := _) (y := _) rfl rfl rfl rfl ?_; simp only [Act.put, List.setIfInBounds_toArray, List.set_cons_zero, List.set_cons_succ])
    | (refine' Seg.val (v := _) rfl (fun w' hw => ?_) ?_; rotate_left 1; (obtain ⟨hbc, _⟩ := bcell hw; go_simp; rfl); simp only [Act.put, List.setIfInBounds_toArray, List.set_cons_zero, List.set_cons_succ])
    | (refine' Seg.skip ?_ ?_; (focus (first | (rw [Seg.wanted1 rfl rfl]; simp; done) | (rw [Seg.wanted2 rfl rfl]; simp; done))); simp only [Act.put, List.setIfInBounds_toArray, List.set_cons_zero, List.set_cons_succ])
    | (refine' Seg.pick_or_if (b := _) (x := _) (G := _) (c := _) (y := _) (by first | exact Seg.wanted1 rfl rfl | exact Seg.wanted2 rfl rfl) rfl rfl rfl ?_; simp only [Act.put, List.setIfInBounds_toArray, List.set_cons_zero, List.set_cons_succ])
    | (refine' Seg.pick_and_if (b := _) (x := _) (G := _) (c := _) (y := _) (by first | exact Seg.wanted1 rfl rfl | exact Seg.wanted2 rfl rfl) rfl rfl rfl ?_; simp only [Act.put, List.setIfInBounds_toArray, List.set_cons_zero, List.set_cons_succ])
    | (refine' Seg.val_if (v := _) (G := _) (by first | exact Seg.wanted1 rfl rfl | exact Seg.wanted2 rfl rfl) (fun hb w' hw => ?_) ?_; rotate_left 1; (simp only [Bool.and_eq_true, beq_iff_eq] at hb; obtain ⟨hbc, _⟩ := bcell hw; go_simp; rfl); simp only [Act.put, List.setIfInBounds_toArray, List.set_cons_zero, List.set_cons_succ]))
  intro w1 hw1
  iterate 9 (generalize Seg.opt _ _ = u)
  go_wp2
  go_ret
  exact ⟨rfl, bthen hB0 hw1⟩

def IdxPostE (l : List Edge) (n : Int) (w : World) (e : Ending) (w' : World) : Prop := ∃ r : Int, (0 ≤ r ↔ l.any (badGame n) = true) ∧ e = .returned (.int .i64 r) ∧ Below w.heap.size w w'
set_option maxHeartbeats 800000 in
theorem indexE_any (n : Int) (b f : Nat) (A : Option Addr) (c : Nat) (l : List Edge) (w : World) (hl : Row Kd.edge w A l) (hb : w.cell? ⟨b, 0, none⟩ = some (.int .i64 n)) (hf : w.cell? ⟨f, 0, none⟩ = some (.func (.func 36) #[] #[.pointer (some ⟨b, 0, none⟩)])) :
    Calls Try.prog 66 #[.slice A l.length c, .func (.func 38) #[] #[.pointer (some ⟨f, 0, none⟩)]] w (IdxPostE l n w) := by
  have hm := hl.1
  go_enter Try.func66, Try.ntmps66
  go_wp2
  go_loopw [8] (fun i wr => ∃ k : Nat, k ≤ l.length ∧ i = .int .i64 k ∧ Hid (∀ j, j < k → badGame n (rdE l j) = false) ∧ Below w.heap.size w wr) (fun i _ => l.length - (intOf i).toNat)
  case atStart => exact ⟨0, by omega, rfl, fun j hj => by omega, Below.refl _ _⟩
  case round =>
    obtain ⟨k, hk, rfl, HN, HB⟩ := hrel
    by_cases hlt : k < l.length
    · obtain ⟨b4, o4, rfl, hb4, hel, her, wl, wr'⟩ := (hl.below HB).edge_at hlt
      have HX : Hid (badGame n (rdE l k) = badGame n (rdE l k)) := rfl
      cases hx : badGame n (rdE l k)
      all_goals
        replace hx := Lib.hid hx
        go_wp2_with (go_at_call 38; refine (badGame_any n (rdE l k) b f _ (bcellE HB hb) (bcellE HB hf)).mono ?_; rintro e w' ⟨rfl, hb9⟩; rw [hx.out])
      · go_roundw
        case rel =>
          refine ⟨k + 1, by omega, by go_num, fun j hj => ?_, bthen HB hb9⟩
          rcases Nat.lt_or_ge j k with h' | h'
          · exact HN.out j h'
          · obtain rfl : j = k := by omega
            exact hx.out
        case measure => simp [intOf]; omega
      · go_ret
        exact ⟨_, ⟨fun _ => any_rdE.2 ⟨k, hlt, hx.out⟩, fun _ => by omega⟩, rfl, bthen HB hb9⟩
    · go_wp2
      go_ret
      obtain rfl : k = l.length := by omega
      refine ⟨-1, ⟨fun h => by omega, fun h => ?_⟩, rfl, HB⟩
      obtain ⟨i, hi, h⟩ := any_rdE.1 h
      rw [HN.out i hi] at h
      cases h

set_option maxHeartbeats 800000 in
theorem containsE_any (n : Int) (b f : Nat) (A : Option Addr) (c : Nat) (l : List Edge) (w : World) (hl : Row Kd.edge w A l) (hb : w.cell? ⟨b, 0, none⟩ = some (.int .i64 n)) (hf : w.cell? ⟨f, 0, none⟩ = some (.func (.func 36) #[] #[.pointer (some ⟨b, 0, none⟩)])) :
    Calls Try.prog 37 #[.slice A l.length c, .func (.func 38) #[] #[.pointer (some ⟨f, 0, none⟩)]] w fun e w' => e = .returned (.bool (l.any (badGame n))) ∧ Below w.heap.size w w' := by
  go_enter Try.func37, Try.ntmps37
  go_wp2_with (go_at_call 66; refine (indexE_any n b f A c l _ hl hb hf).mono ?_; rintro e w' ⟨r, hr, rfl, hb9⟩; have HR := Lib.hid hr; clear hr)
  go_ret
  exact ⟨ret_bool (by rw [Bool.eq_iff_iff, ← HR.out]; simp), hb9⟩
end Go.Proofs.Ytfmekjpmjefpmaa
