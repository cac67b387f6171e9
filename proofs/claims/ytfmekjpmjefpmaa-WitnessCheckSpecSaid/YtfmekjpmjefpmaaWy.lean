/- FewVerdict, walked. -/
import Derived.Test.YtfmekjpmjefpmaaWx
set_option linter.unusedSimpArgs false
set_option linter.unusedVariables false
namespace Go.Proofs.Ytfmekjpmjefpmaa
open Go.RowKit

theorem Row.cut_at {w : World} {A : Option Addr} {xs : List Cut} (h : Row Kd.cut w A xs) {i : Nat} (hi : i < xs.length) :
    ∃ b o A0 c0 A1 c1 A2 c2, A = some ⟨b, o, none⟩ ∧ b < w.heap.size ∧ w.cell? ⟨b, o + i * 3, none⟩ = some (.slice A0 (rdC xs i).free.length c0) ∧ w.cell? ⟨b, o + i * 3 + 1, none⟩ = some (.slice A1 (rdC xs i).clubs.length c1) ∧ w.cell? ⟨b, o + i * 3 + 2, none⟩ = some (.slice A2 (rdC xs i).games.length c2) := by
  obtain ⟨b, o, rfl, hlt, hc⟩ := h.2 (by intro e; rw [e] at hi; simp at hi)
  obtain ⟨cs, ⟨s1, s2, rfl, ⟨A0, c0, rfl, hl0, h0⟩, ⟨t1, t2, rfl, ⟨A1, c1, rfl, hl1, h1⟩, ⟨A2, c2, rfl, hl2, h2⟩⟩⟩, hcs⟩ := hc i _ (rdC_get hi)
  refine ⟨b, o, A0, c0, A1, c1, A2, c2, rfl, hlt, ?_, ?_, ?_⟩
  · have := hcs 0 _ rfl
    simpa [Kd.cut, Kd.iso, Kd.pair, Kd.slice, Kd.int, Kd.one1] using this
  · have := hcs 1 _ rfl
    simpa [Kd.cut, Kd.iso, Kd.pair, Kd.slice, Kd.int, Kd.one1, Nat.add_assoc] using this
  · have := hcs 2 _ rfl
    simpa [Kd.cut, Kd.iso, Kd.pair, Kd.slice, Kd.int, Kd.one1, Nat.add_assoc] using this

def weightTo (l : List Cut) : Nat → Nat
  | 0 => 0
  | k + 1 => weightTo l k + ((rdC l k).free.length + (rdC l k).clubs.length + (rdC l k).games.length)
theorem weightTo_mono (l : List Cut) {i j : Nat} (h : i ≤ j) : weightTo l i ≤ weightTo l j := by
  induction j with
  | zero => have : i = 0 := by omega
            subst this; exact Nat.le_refl _
  | succ j ih =>
    rcases Nat.lt_or_ge i (j + 1) with h' | h'
    · have := ih (by omega)
      simp only [weightTo]; omega
    · have : i = j + 1 := by omega
      subst this; exact Nat.le_refl _
def total (v : Verdict) : Nat := v.reached.length + v.missed.length + v.cuts.length + weightTo v.cuts v.cuts.length
def smallV (v : Verdict) : Bool := decide (total v ≤ 200)
/-- The lengths of a verdict are no machine's limits. -/
structure VBound (v : Verdict) : Prop where
  r : v.reached.length ≤ 1125899906842624
  m : v.missed.length ≤ 1125899906842624
  k : v.cuts.length ≤ 1125899906842624
  i : ∀ j, j < v.cuts.length → (rdC v.cuts j).free.length ≤ 1125899906842624 ∧ (rdC v.cuts j).clubs.length ≤ 1125899906842624 ∧ (rdC v.cuts j).games.length ≤ 1125899906842624

set_option maxHeartbeats 4000000 in
set_option maxRecDepth 100000 in
theorem fewVerdict_any (v : VerdictM) (w : World) (hv : VerdictIn w v) (hb : VBound v.v) :
    Calls Try.prog 10 #[v.val] w fun e w' => e = .returned (.bool (smallV v.v)) ∧ Below w.heap.size w w' := by
  obtain ⟨⟨kd, re, mi, cu⟩, B1, d1, B2, d2, B3, d3⟩ := v
  dsimp only [VerdictM.val] at *
  have hr := hb.r
  have hm := hb.m
  have hk := hb.k
  have HBI := Lib.hid hb.i
  dsimp only at hr hm hk
  clear hb
  have hw1 : IntKind.i64.wrap ((re.length : Int) + mi.length) = (re.length : Int) + mi.length := IntWalk.i64_in _ (by omega)
  have hw2 : IntKind.i64.wrap ((re.length : Int) + mi.length + cu.length) = (re.length : Int) + mi.length + cu.length := IntWalk.i64_in _ (by omega)
  generalize hres : (Ending.returned (.bool (smallV ⟨kd, re, mi, cu⟩))) = R
  have HRes := Lib.hid hres
  clear hres
  go_enter Try.func10, Try.ntmps10
  go_upto_region 1 with (fail)
  obtain ⟨W0, hW0, hB0, V0⟩ := box1 w #[.int .i64 kd, .slice B1 re.length d1, .slice B2 mi.length d2, .slice B3 cu.length d3] 28
  rw [hW0]
  clear hW0
  have hv0 := hv.below hB0
  obtain ⟨lv, cv, fv⟩ := id V0
  go_wp2
  clear lv cv fv hw1 hw2
  have hbase : (re.length : Int) + mi.length + cu.length = ((re.length + mi.length + cu.length + weightTo cu 0 : Nat) : Int) := by simp [weightTo]
  rw [hbase]
  clear hbase
  go_loopw [3, 4] (fun v3 v4 wr => ∃ i : Nat, i ≤ cu.length ∧ v4 = .int .i64 i ∧ v3 = .int .i64 ((re.length + mi.length + cu.length + weightTo cu i : Nat) : Int) ∧ Below W0.heap.size W0 wr) (fun _ v4 _ => cu.length - (intOf v4).toNat)
  case atStart => exact ⟨0, by omega, rfl, rfl, Below.refl _ _⟩
  case round =>
    obtain ⟨i, hi, rfl, rfl, HB⟩ := hrel
    obtain ⟨lv, cv, fv⟩ := V0.below HB
    generalize hT : re.length + mi.length + cu.length + weightTo cu i = T
    have HT := Lib.hid hT
    clear hT
    by_cases hlt : i < cu.length
    · by_cases hle : (T : Int) ≤ 200
      · obtain ⟨b, o, A0, c0, A1, c1, A2, c2, e3, hlb, k0, k1, k2⟩ := (hv0.below HB).h3.cut_at hlt
        dsimp only at e3 k0 k1 k2
        subst e3
        obtain ⟨g1, g2, g3⟩ := HBI.out i hlt
        generalize hf1 : (rdC cu i).free.length = n1 at k0 g1
        generalize hf2 : (rdC cu i).clubs.length = n2 at k1 g2
        generalize hf3 : (rdC cu i).games.length = n3 at k2 g3
        have HF : Hid (weightTo cu (i + 1) = weightTo cu i + (n1 + n2 + n3)) := Lib.hid (by rw [weightTo, hf1, hf2, hf3])
        clear hf1 hf2 hf3
        have hs1 : IntKind.i64.wrap ((T : Int) + n1) = (T : Int) + n1 := IntWalk.i64_in _ (by omega)
        have hs2 : IntKind.i64.wrap ((T : Int) + n1 + n2) = (T : Int) + n1 + n2 := IntWalk.i64_in _ (by omega)
        have hs3 : IntKind.i64.wrap ((T : Int) + n1 + n2 + n3) = (T : Int) + n1 + n2 + n3 := IntWalk.i64_in _ (by omega)
        go_upto_region 5 with (fail)
        refine Seg.regionB (by kernel_rfl) (by kernel_rfl) ?_
        repeat (first
          | (refine' Seg.pick_or (b := _) (x := _) (c := _) (y := _) rfl rfl rfl rfl ?_; simp only [Act.put, List.setIfInBounds_toArray, List.set_cons_zero, List.set_cons_succ])
          | (refine' Seg.pick_and (b := _) (x := _) (c := _) (y := _) rfl rfl rfl rfl ?_; simp only [Act.put, List.setIfInBounds_toArray, List.set_cons_zero, List.set_cons_succ])
          | (refine' Seg.val (v := _) rfl (fun w' hw => ?_) ?_; rotate_left 1; (obtain ⟨hbc, _⟩ := bcell hw; go_simp; rfl); simp only [Act.put, List.setIfInBounds_toArray, List.set_cons_zero, List.set_cons_succ])
          | (refine' Seg.skip ?_ ?_; (focus (first | (rw [Seg.wanted1 rfl rfl]; simp; done) | (rw [Seg.wanted2 rfl rfl]; simp; done))); simp only [Act.put, List.setIfInBounds_toArray, List.set_cons_zero, List.set_cons_succ])
          | (refine' Seg.pick_or_if (b := _) (x := _) (G := _) (c := _) (y := _) (by first | exact Seg.wanted1 rfl rfl | exact Seg.wanted2 rfl rfl) rfl rfl rfl ?_; simp only [Act.put, List.setIfInBounds_toArray, List.set_cons_zero, List.set_cons_succ])
          | (refine' Seg.pick_and_if (b := _) (x := _) (G := _) (c := _) (y := _) (by first | exact Seg.wanted1 rfl rfl | exact Seg.wanted2 rfl rfl) rfl rfl rfl ?_; simp only [Act.put, List.setIfInBounds_toArray, List.set_cons_zero, List.set_cons_succ])
          | (refine' Seg.val_if (v := _) (G := _) (by first | exact Seg.wanted1 rfl rfl | exact Seg.wanted2 rfl rfl) (fun hb w' hw => ?_) ?_; rotate_left 1; (simp only [Bool.and_eq_true, beq_iff_eq] at hb; obtain ⟨hbc, _⟩ := bcell hw; go_simp; rfl); simp only [Act.put, List.setIfInBounds_toArray, List.set_cons_zero, List.set_cons_succ]))
        intro w5 hw5
        clear lv cv fv k0 k1 k2 hs1 hs2 hs3
        go_wp2
        go_roundw
        case rel =>
          refine ⟨i + 1, by omega, by go_num, ?_, bthen HB hw5⟩
          rw [HF.out]
          have := HT.out
          congr 1
          omega
        case measure => simp [intOf]; omega
      · go_wp2
        go_ret
        refine ⟨?_, bthen hB0 HB⟩
        rw [← HRes.out, smallV, decide_eq_false (by
          have h1 := weightTo_mono cu (Nat.le_of_lt hlt)
          have h2 := HT.out
          unfold total
          dsimp only
          omega)]
        rfl
    · obtain rfl : i = cu.length := by omega
      go_wp2
      go_ret
      refine ⟨?_, bthen hB0 HB⟩
      rw [← HRes.out]
      refine ret_bool ?_
      have h2 := HT.out
      unfold smallV total
      dsimp only
      rw [h2]
      simp
      omega
end Go.Proofs.Ytfmekjpmjefpmaa
