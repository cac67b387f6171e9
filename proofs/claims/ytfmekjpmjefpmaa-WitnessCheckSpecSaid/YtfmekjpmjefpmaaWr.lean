/- slices.Repeat of one number, walked. -/
import Derived.Test.YtfmekjpmjefpmaaWq
import Derived.Test.YtfmekjpmjefpmaaMul
import Derived.Laws.CopyOwn
import Derived.Laws.OwnMore
set_option linter.unusedSimpArgs false
set_option linter.unusedVariables false
namespace Go.Proofs.Ytfmekjpmjefpmaa
open Go.RowKit Go.Shelf

theorem mul1_any (n : Nat) (w : World) (hn : n ≤ 1000) : Calls Try.prog 104 #[.int .u64 1, .int .u64 n] w fun e w' => e = .returned (.tuple #[.int .u64 0, .int .u64 n]) ∧ w = w' := by
  have h := Try.bits_Mul 1 n (by omega) (by omega) w
  refine Calls.mono h fun e w' ⟨he, hw⟩ => ⟨?_, hw.symm⟩
  rw [he]
  have e1 : 1 * n / 18446744073709551616 = 0 := Nat.div_eq_of_lt (by omega)
  have e2 : 1 * n % 18446744073709551616 = n := by rw [Nat.mod_eq_of_lt (by omega)]; omega
  rw [e1, e2]
  rfl

theorem setRow_kept (w : World) (g : Nat) (cs : Array Value) : Kept (fun b => b = g) w (w.setRow g cs) :=
  ⟨rfl, rfl, rfl, by simp [World.setRow], fun b _ hm => setRow_other w g b cs hm⟩
theorem kept_up {M : Nat → Prop} {B : World} : ∀ w w', Kept M B w → Below w.heap.size w w' → Kept M B w' := fun _ _ h k => h.trans (Kept.of_below k)
/-- A copy inside one block. -/
theorem some_copy {P : Program} {o : Oper} {a : Act} {w : World} {N : Value → World → Prop} (d s : Operand) (dT sT : TypeId)
    (ho : o.op = .call { callee := .builtin .copy, args := #[d, s], argTypes := #[dT, sT] }) (elem : TypeId) (hu : P.underlying dT = some (.slice elem)) (hsz : (P.info? elem).map (·.size) = some 1)
    (g off dLen dCap : Nat) (ad : Addr) (sLen sCap : Nat) (hd : a.eval d = .slice (some ⟨g, off, none⟩) dLen dCap) (hs : a.eval s = .slice (some ad) sLen sCap)
    (cur : Array Value) (t : TypeId) (hg : w.heap[g]? = some (.cells cur t (0, 0))) (cs : List Value) (hn : cs.length = Nat.min sLen dLen)
    (hsrc : ∀ j v, cs[j]? = some v → w.cell? (ad.add j) = some v) (hfit : off + cs.length ≤ cur.size) (h1 : ∀ v ∈ cs, v.oneCell' = true)
    (h : ∀ w', w'.heap[g]? = some (.cells (cur.toList.take off ++ (cs ++ cur.toList.drop (off + cs.length))).toArray t (0, 0)) → Kept (fun b => b = g) w w' → N (.int .i64 cs.length) w') : Seg2.GivesSome P N ((execOp a.eval o).run P w) := by
  have hrun := run_copy_row (P := P) w dT sT o.type elem g off dLen dCap ad sLen sCap cur t cs hu hsz hg hn hsrc hfit h1
  have hr : (execOp a.eval o).run P w = .ok (.value (.int .i64 cs.length)) (w.setRow g (cur.toList.take off ++ (cs ++ cur.toList.drop (off + cs.length))).toArray) := by
    simp [execOp, ho, resolve, invoke, builtin, hd, hs, hrun, Result.andThen, goInt]
  rw [hr]
  exact h _ (setRow_heap w g _ _ t _ hg) (setRow_kept _ _ _)

/-- The row after m places have been filled. -/
def filled (v : Int) (m n : Nat) : Array Value := ((List.replicate m v ++ List.replicate (n - m) 0).map (Value.int .i64)).toArray
theorem filled_size (v : Int) (m n : Nat) (h : m ≤ n) : (filled v m n).size = n := by simp [filled]; omega
theorem filled_copy (v : Int) (m n k : Nat) (h : m + k ≤ n) : ((filled v m n).toList.take m ++ (List.replicate k (Value.int .i64 v) ++ (filled v m n).toList.drop (m + (List.replicate k (Value.int .i64 v)).length))).toArray = filled v (m + k) n := by
  simp only [filled, List.toList_toArray, List.map_append, List.map_replicate, List.length_replicate]
  congr 1
  rw [List.take_append_of_le_length (by simp), List.take_of_length_le (by simp), List.drop_append, List.length_replicate, show m + k - m = k by omega, List.drop_of_length_le (by simp), List.nil_append, List.drop_replicate, ← List.append_assoc, List.replicate_append_replicate]
  congr 2
  omega
theorem filled_at (v : Int) (m n j : Nat) (h : j < m) : (filled v m n)[j]? = some (.int .i64 v) := by
  simp only [filled, List.getElem?_toArray, List.getElem?_map]
  rw [List.getElem?_append_left (by simpa using h), List.getElem?_replicate, if_pos h]
  rfl
def RepPost (v : Int) (n : Nat) (w : World) (e : Ending) (w' : World) : Prop := ∃ g d, e = .returned (.slice (some ⟨g, 0, none⟩) n d) ∧ OwnI .i64 3 w' w.heap.size (some ⟨g, 0, none⟩) d (List.replicate n v) ∧ Below w.heap.size w w'
theorem rep_done {w w' : World} {v : Int} {n : Nat} (hb : Kept (fun b => b = w.heap.size) (w.alloc (.cells (filled v 0 n) 3)) w') (hg : w'.heap[w.heap.size]? = some (.cells (filled v n n) 3 (0, 0))) (hn : n ≤ 1000) (hv : (Lit.int .i64 v).wf = true) :
    RepPost v n w (.returned (.slice (some ⟨w.heap.size, 0, none⟩) n n)) w' := by
  refine ⟨w.heap.size, n, rfl, ⟨⟨by simp, .inr ⟨w.heap.size, n, filled v n n, by simp, Nat.le_refl _, hg, by simp, by unfold maxLen; omega, by rw [filled_size v n n (Nat.le_refl _)]; omega, ?_⟩⟩, fun x hx => by rw [List.eq_of_mem_replicate hx]; exact hv⟩, ?_⟩
  · simp [filled]
  · exact (balloc0 w _).trans (hb.below (fun b hb => by omega) (by simp))
theorem make_run (n : Nat) (hn : n ≤ 1000) (v : Int) (w : World) : (Instr.makeSlice 22 (.int .i64 n) (.int .i64 n)).run Try.prog w = .ok (.slice (some ⟨w.heap.size, 0, none⟩) n n) (w.alloc (.cells (filled v 0 n) 3)) := by
  obtain ⟨i0, hi1, hz0, hz1, hz2⟩ := info_parts infoI
  have h := run_makeSlice (P := Try.prog) w 22 3 i0 (.int .i64 0) Try.underlying22 hi1 hz0 .i64 .i64 n n (by omega) (by omega) (by rw [hz1]; omega) (by rw [hz2]; omega) (by omega)
  have hc : madeCells (Value.cells (.int .i64 0)) ((n : Int).toNat * i0.size) = filled v 0 n := by
    rw [hz1, Int.toNat_natCast, Nat.mul_one]
    refine Array.ext' ?_
    show (madeCells #[_] _).toList = _
    rw [toList_madeCells_one]
    simp [filled]
  rw [h, hc, Int.toNat_natCast]
set_option maxHeartbeats 4000000 in
set_option maxRecDepth 100000 in
theorem repeat_any (b o : Nat) (v : Int) (n : Nat) (w : World) (hb : b < w.heap.size) (hc : w.cell? ⟨b, o, none⟩ = some (.int .i64 v)) (hv : (Lit.int .i64 v).wf = true) (hn : n ≤ 1000) :
    Calls Try.prog 90 #[.slice (some ⟨b, o, none⟩) 1 1, .int .i64 n] w (RepPost v n w) := by
  have hmk := make_run n hn v
  have hi3 : (Try.prog.info? 3).map (·.size) = some 1 := by kernel_rfl
  rcases Nat.eq_zero_or_pos n with h0 | h0
  · subst h0
    go_enter Try.func90, Try.ntmps90
    have hmk0 : ∀ w, (Instr.makeSlice 22 (.int .i64 0) (.int .i64 0)).run Try.prog w = .ok (.slice (some ⟨w.heap.size, 0, none⟩) 0 0) (w.alloc (.cells (filled v 0 0) 3)) := hmk
    clear hmk
    go_upto_region 7 with (go_at_call 104; refine (mul1_any 0 _ hn).mono ?_; rintro e w' ⟨rfl, rfl⟩)
    go_wp2_with (with_reducible refine wpList_copy_nothing rfl _ _ 22 22 rfl 3 Try.underlying22 hi3 (some ⟨w.heap.size, 0, none⟩) (some ⟨b, o, none⟩) 0 0 1 1 rfl rfl rfl ?_)
    go_loopw [8] (fun v8 wr => v8 = .int .i64 0 ∧ w.alloc (.cells (filled v 0 0) 3) = wr) (fun _ _ => 0)
    case atStart => exact ⟨rfl, rfl⟩
    case round =>
      obtain ⟨rfl, rfl⟩ := hrel
      go_wp2
      go_ret
      exact rep_done (Kept.refl _ _) (heap_alloc_new _ _) hn hv
  · go_enter Try.func90, Try.ntmps90
    go_upto_region 7 with (go_at_call 104; refine (mul1_any n _ hn).mono ?_; rintro e w' ⟨rfl, rfl⟩)
    have h1 : 1 ≤ n := h0
    obtain ⟨W0, hW0, hK0, hb0, hG0⟩ : ∃ W0, w.alloc (.cells (filled v 0 n) 3) = W0 ∧ Kept (fun b => b = w.heap.size) (w.alloc (.cells (filled v 0 n) 3)) W0 ∧ Below w.heap.size w W0 ∧ W0.heap[w.heap.size]? = some (.cells (filled v 0 n) 3 (0, 0)) := ⟨_, rfl, Kept.refl _ _, balloc0 _ _, heap_alloc_new _ _⟩
    rw [hW0]
    clear hW0
    have hcs : ∀ j u, ([Value.int .i64 v] : List Value)[j]? = some u → W0.cell? ((⟨b, o, none⟩ : Addr).add j) = some u := fun j u hu => by
      have hj : j = 0 := by
        rcases Nat.eq_zero_or_pos j with h' | h'
        · exact h'
        · rw [List.getElem?_eq_none (by simp; omega)] at hu; cases hu
      subst hj
      simp at hu
      subst hu
      rw [Addr.add_zero']
      exact bcellE hb0 hc
    refine (wpIn_wide (n := 0)).1 (wpIn_region_lit ?_)
    refine Seg2.tail_some Seg2.wide_wide (fun c h => by cases h) rfl (Seg2.some_value (v := .slice (some ⟨w.heap.size, 0, none⟩) n n) (w := W0) (by go_simp) ?_)
    simp only [Act.put, List.setIfInBounds_toArray, List.set_cons_zero, List.set_cons_succ]
    refine Seg2.tail_some Seg2.wide_wide (fun c h => by cases h) rfl (Seg2.some_value (v := .slice (some ⟨b, o, none⟩) 1 1) (w := W0) (by go_simp) ?_)
    simp only [Act.put, List.setIfInBounds_toArray, List.set_cons_zero, List.set_cons_succ]
    refine Seg2.tail_some Seg2.wide_wide (fun c h => by cases h) rfl (some_copy _ _ 22 22 rfl 3 Try.underlying22 hi3 w.heap.size 0 n n ⟨b, o, none⟩ 1 1 rfl rfl _ 3 hG0 [.int .i64 v] (by simp [Nat.min_def]; omega) hcs (by rw [filled_size v 0 n (by omega)]; simpa using h1) (by simp [Value.oneCell']) ?_)
    have hf := filled_copy v 0 n 1 (by omega)
    simp only [List.replicate_one] at hf
    rw [hf, Nat.zero_add]
    intro W1 hG1 hK1
    simp only [Act.put, List.setIfInBounds_toArray, List.set_cons_zero, List.set_cons_succ]
    clear hf hcs hG0
    have HK1 := hK0.trans hK1
    gi_wp2
    go_wp2
    go_loopw [8] (fun v8 wr => ∃ m : Nat, 1 ≤ m ∧ m ≤ n ∧ v8 = .int .i64 m ∧ Kept (fun b => b = w.heap.size) (w.alloc (.cells (filled v 0 n) 3)) wr ∧ wr.heap[w.heap.size]? = some (.cells (filled v m n) 3 (0, 0))) (fun v8 _ => n - (intOf v8).toNat)
    case atStart => exact ⟨1, by omega, h1, rfl, HK1, hG1⟩
    case round =>
      obtain ⟨m, hm1, hmn, rfl, hk, hg⟩ := hrel
      by_cases hlt : m < n
      · go_upto_region 9 with (fail)
        have hne : ¬ n = m := by omega
        have hn0 : ¬ n = 0 := by omega
        refine Seg2.regionG (Kept (fun b => b = w.heap.size) wr) kept_up (Kept.refl _ _) 7 8 (by kernel_rfl) (by kernel_rfl) (by kernel_rfl) (by kernel_rfl) ?_
        repeat (first
          | (refine' Seg2.pick_or (b := _) (x := _) (c := _) (y := _) rfl rfl rfl rfl ?_; simp only [Act.put, List.setIfInBounds_toArray, List.set_cons_zero, List.set_cons_succ])
          | (refine' Seg2.pick_and (b := _) (x := _) (c := _) (y := _) rfl rfl rfl rfl ?_; simp only [Act.put, List.setIfInBounds_toArray, List.set_cons_zero, List.set_cons_succ])
          | (refine' Seg2.val (v := _) rfl (fun w' hw => ?_) ?_; rotate_left 1; (clear hw; go_simp; rfl); simp only [Act.put, List.setIfInBounds_toArray, List.set_cons_zero, List.set_cons_succ])
          | (refine' Seg2.skip ?_ ?_; (focus (first | (rw [Seg.wanted1 rfl rfl]; simp; done) | (rw [Seg.wanted2 rfl rfl]; simp; done))); simp only [Act.put, List.setIfInBounds_toArray, List.set_cons_zero, List.set_cons_succ])
          | (refine' Seg2.pick_or_if (b := _) (x := _) (G := _) (c := _) (y := _) (by first | exact Seg.wanted1 rfl rfl | exact Seg.wanted2 rfl rfl) rfl rfl rfl ?_; simp only [Act.put, List.setIfInBounds_toArray, List.set_cons_zero, List.set_cons_succ])
          | (refine' Seg2.pick_and_if (b := _) (x := _) (G := _) (c := _) (y := _) (by first | exact Seg.wanted1 rfl rfl | exact Seg.wanted2 rfl rfl) rfl rfl rfl ?_; simp only [Act.put, List.setIfInBounds_toArray, List.set_cons_zero, List.set_cons_succ])
          | (refine' Seg2.val_if (v := _) (G := _) (by first | exact Seg.wanted1 rfl rfl | exact Seg.wanted2 rfl rfl) (fun hb w' hw => ?_) ?_; rotate_left 1; (simp only [Bool.and_eq_true, beq_iff_eq] at hb; clear hw; go_simp; rfl); simp only [Act.put, List.setIfInBounds_toArray, List.set_cons_zero, List.set_cons_succ]))
        refine Seg2.done (Seg2.spec_cons rfl (fun w1 hb1 => ?_))
        have hg1 : w1.heap[w.heap.size]? = some (.cells (filled v m n) 3 (0, 0)) := (hb1.block _ (Array.getElem?_eq_some_iff.1 hg).1).trans hg
        obtain ⟨k, hk0, hk1, hk2⟩ : ∃ k, k = Nat.min m (n - m) ∧ 1 ≤ k ∧ m + k ≤ n := ⟨_, rfl, by simp only [Nat.min_def]; split <;> omega, by simp only [Nat.min_def]; split <;> omega⟩
        have hkm : k ≤ m := by rw [hk0]; exact Nat.min_le_left _ _
        refine some_copy _ _ 22 22 rfl 3 Try.underlying22 hi3 w.heap.size m (n - m) (n - m) ⟨w.heap.size, 0, none⟩ m n rfl rfl _ 3 hg1 (List.replicate k (.int .i64 v)) (by rw [List.length_replicate, hk0]) (fun j u hj => ?_) (by rw [filled_size v m n (by omega), List.length_replicate]; omega) (by simp [Value.oneCell']) ?_
        · have hjk : j < k := by simpa using (List.getElem?_eq_some_iff.1 hj).1
          rw [Addr.add_lit, cell_of_row w1 w.heap.size (0 + j) _ 3 _ hg1]
          rw [List.getElem?_replicate, if_pos hjk] at hj
          rw [← hj, Nat.zero_add, filled_at v m n j (by omega)]
        · rw [filled_copy v m n k hk2]
          intro w2 hg2 hk3
          refine ⟨(Kept.of_below hb1).trans hk3, ?_⟩
          simp only [Act.put, List.setIfInBounds_toArray, List.set_cons_zero, List.set_cons_succ]
          refine Seg2.spec_nil (fun w3 hb3 => ?_)
          simp only [List.drop, List.length_replicate]
          have hg3 : w3.heap[w.heap.size]? = some (.cells (filled v (m + k) n) 3 (0, 0)) := (hb3.block _ (Array.getElem?_eq_some_iff.1 hg2).1).trans hg2
          have hwr : IntKind.i64.wrap ((m : Int) + k) = (m : Int) + k := IntWalk.i64_in _ (by omega)
          have HK0 := Lib.hid hk0
          clear hk0
          gi_wp2
          exact ⟨⟨m + k, by omega, hk2, by go_num, hk.trans (((Kept.of_below hb1).trans hk3).trans (Kept.of_below hb3)), hg3⟩, by simp [intOf]; omega⟩
      · obtain rfl : m = n := by omega
        go_wp2
        go_ret
        exact rep_done hk hg hn hv
end Go.Proofs.Ytfmekjpmjefpmaa
