/- The iterator over completions, walked. -/
import Derived.Test.YtfmekjpmjefpmaaWr
import Derived.Test.YtfmekjpmjefpmaaPure3
import Derived.Deep.LoopGhost
set_option linter.unusedSimpArgs false
set_option linter.unusedVariables false
namespace Go.Proofs.Ytfmekjpmjefpmaa
open Go.RowKit Go.Shelf

theorem OwnI.kept {k : IntKind} {e : TypeId} {w w' : World} {base c : Nat} {A : Option Addr} {xs : List Int} {M : Nat → Prop} (h : OwnI k e w base A c xs) (hk : Kept M w w') (hM : ∀ b, M b → b < base) : OwnI k e w' base A c xs := by
  refine ⟨⟨h.1.1, ?_⟩, h.2⟩
  rcases h.1.2 with h' | ⟨g, cap, cur, h1, h2, h3, h4⟩
  · exact .inl h'
  · exact .inr ⟨g, cap, cur, h1, h2, (hk.block g (Array.getElem?_eq_some_iff.1 h3).1 (fun hm => by have := hM g hm; omega)).trans h3, h4⟩

set_option maxHeartbeats 4000000 in
set_option maxRecDepth 100000 in
theorem completions_seq (q : Race) (A2 A3 A4 : Option Addr) (c2 c3 c4 : Nat) (rb : Nat) (hn : q.games.length ≤ 552) :
    Seq Try.prog 89 #[.pointer (some ⟨rb, 0, none⟩)] (counts q.games.length) (fun b => b = rb)
      (fun W => Box W rb #[.int .i64 q.win, .int .i64 q.draw, .slice A2 q.clubs.length c2, .slice A3 q.points.length c3, .slice A4 q.games.length c4, .int .i64 q.club, .int .i64 q.place]) := by
  rintro l M J Jx W X0 hcap hM hJ hJx hY h0
  have HJ := Lib.hid hJ
  have HJx := Lib.hid hJx
  have HY := Lib.hid hY
  have H0 := Lib.hid h0
  have HM := Lib.hid hM
  clear hcap hM hJ hJx hY h0
  generalize hN : q.games.length = n at *
  clear hN
  show Calls Try.prog 89 #[.func (.yield l) #[] #[], .pointer (some ⟨rb, 0, none⟩)] W _
  obtain ⟨lx, cx, fx⟩ := id X0
  have hrep := repeat_any W.heap.size 0 1 n (W.alloc (.cells #[.int .i64 1] 3)) (by simp) (by simp [go_sem]) (by rfl) (by omega)
  go_enter Try.func89, Try.ntmps89
  go_wp2_with (go_at_call 90; refine hrep.mono ?_; clear hrep; rintro e w' ⟨g, cap, rfl, hO, hb9⟩)
  clear lx cx fx
  have hs9 := hb9.size
  rw [World.size_alloc] at hs9
  have HB9 : Below W.heap.size W w' := (balloc0 W _).trans (hb9.mono (by simp))
  have hW9 : W.heap.size ≤ w'.heap.size := by omega
  rw [World.size_alloc] at hO
  have hO' := hO.mono (Nat.le_succ W.heap.size)
  clear hO
  go_loopg [] (counts n).length (fun gk wr => ∃ k L, Hid (gk + k = (counts n).length ∧ (counts n)[k]? = some L ∧ J k wr ∧ L.length = n ∧ ∀ x ∈ L, 1 ≤ x ∧ x ≤ 3) ∧ OwnI .i64 3 wr W.heap.size (some ⟨g, 0, none⟩) cap L ∧ W.heap.size ≤ wr.heap.size)
  case atStart => exact ⟨0, List.replicate n 1, ⟨rfl, counts_first n, HJ.out 0 W w' H0.out (Nat.le_refl _) HB9, by simp, fun x hx => by rw [List.eq_of_mem_replicate hx]; omega⟩, hO', hW9⟩
  case round =>
    obtain ⟨k, L, HK, hO, hWr⟩ := hrel
    have hLn : L.length ≤ cap := hO.len.1
    clear hO' hW9 HB9 hb9 hs9
    obtain ⟨n', hn'⟩ : ∃ n', n' = L.length := ⟨_, rfl⟩
    obtain rfl : n = n' := by have := HK.out.2.2.2.1; omega
    subst hn'
    go_upto_region 1 with (fail)
    refine (wpIn_wide (n := 0)).1 (wpIn_region_lit ?_)
    refine Seg2.tail_some Seg2.wide_wide (fun c h => by cases h) rfl (Seg2.some_value (v := .func (.yield l) #[] #[]) (w := wr) (by go_simp) ?_)
    simp only [Act.put, List.setIfInBounds_toArray, List.set_cons_zero, List.set_cons_succ]
    refine Seg2.tail_some Seg2.wide_wide (fun c h => by cases h) rfl (Seg2.some_value (v := .slice (some ⟨g, 0, none⟩) L.length cap) (w := wr) (by go_simp) ?_)
    simp only [Act.put, List.setIfInBounds_toArray, List.set_cons_zero, List.set_cons_succ]
    refine Seg2.tail_yield (fun c h => by cases h) rfl (HY.out k L wr (some ⟨g, 0, none⟩) cap HK.out.2.1 HK.out.2.2.1 hLn (hO.rowN (Nat.le_refl _)) hWr) (fun fn tmps assign body h => by go_simp) ?_
    rintro e w4 (⟨rfl, hJ4, hk4⟩ | ⟨rfl, hJ4, hs4⟩)
    · refine ⟨_, rfl, ?_⟩
      simp only [Act.put, List.setIfInBounds_toArray, List.set_cons_zero, List.set_cons_succ]
      have hO4 := hO.kept hk4 HM.out
      have hW4 : W.heap.size ≤ w4.heap.size := Nat.le_trans hWr hk4.size
      have HC_J : ∀ w5, Below W.heap.size w4 w5 → J (k + 1) w5 := fun w5 hb => HJ.out _ _ _ hJ4 hW4 hb
      clear hJ4 hO hWr hk4
      gi_wp2
      go_wp2
      go_loopw [4] (fun v4 w5 => ∃ i : Nat, i ≤ L.length ∧ v4 = .int .i64 i ∧ Hid (∀ j, j < i → rd L j = 3) ∧ OwnI .i64 3 w5 W.heap.size (some ⟨g, 0, none⟩) cap (carry i L) ∧ Below W.heap.size w4 w5) (fun i _ => L.length - (intOf i).toNat)
      case atStart => exact ⟨0, by omega, rfl, fun j hj => by omega, by simpa [carry] using hO4, Below.refl _ _⟩
      case round =>
        obtain ⟨i, hi, rfl, H3, hO5, hB5⟩ := hrel
        have hcl := carry_len i L hi
        by_cases hlt : i < L.length
        · have hc5 := hO5.int_at (j := i) (by omega)
          rw [carry_rd] at hc5
          have hfz := hO5.frozen i
          have hg5 : g < wr.heap.size := (hO5.new g rfl).2
          have HCl := Lib.hid hcl
          clear hcl
          by_cases h3 : rd L i = 3
          · have h3' : (rd L i == 3) = true := by simpa using h3
            have H3' := Lib.hid h3
            clear h3
            go_wp2
            have hset := hO5.set (j := i) (x := 1) (by rw [HCl.out]; exact hlt) (by rfl)
            rw [carry_step i L hlt] at hset
            refine ⟨⟨i + 1, by omega, by go_num, fun j hj => ?_, hset, bset hB5 (hO5.new g rfl).1⟩, by simp [intOf]; omega⟩
            rcases Nat.lt_or_ge j i with h' | h'
            · exact H3.out j h'
            · obtain rfl : j = i := by omega
              exact H3'.out
          · have h3' : (rd L i == 3) = false := by simpa using h3
            have H3' := Lib.hid h3
            clear h3
            have hdd : 1 ≤ rd L i ∧ rd L i ≤ 3 := HK.out.2.2.2.2 _ (mem_rd.2 ⟨i, hlt, rfl⟩)
            obtain ⟨hd1, hd2⟩ := hdd
            go_wp2
            have hset := hO5.set (j := i) (x := rd L i + 1) (by rw [HCl.out]; exact hlt) (WalkArith.wf_i64 (by omega))
            have hnx := (counts_next _ k L HK.out.2.1).trans (next_some i L hlt H3.out H3'.out)
            have hmem := counts_len _ _ (List.mem_of_getElem? hnx)
            have hk1 : k + 1 < (counts L.length).length := (List.getElem?_eq_some_iff.1 hnx).1
            have hgk := HK.out.1
            have hWr' : W.heap.size ≤ wr.heap.size := Nat.le_trans hW4 hB5.size
            go_roundg (gk - 1)
            case measure => omega
            case rel =>
              exact ⟨k + 1, _, ⟨by omega, hnx, HC_J _ (bset hB5 (hO5.new g rfl).1), hmem.1, hmem.2⟩, hset, by simpa [World.setCell] using hWr'⟩
        · obtain rfl : i = L.length := by omega
          have hall := next_none L H3.out
          have hnx := (counts_next _ k L HK.out.2.1).trans hall
          have hk0 : k < (counts L.length).length := (List.getElem?_eq_some_iff.1 HK.out.2.1).1
          have hk1 : k + 1 = (counts L.length).length := by have := List.getElem?_eq_none_iff.1 hnx; omega
          have hJ5 := HC_J wr hB5
          rw [hk1] at hJ5
          clear hall hnx hk1
          go_wp2
          exact bodyPost_ret (results_none rfl _ _ _) rfl ⟨⟨_, rfl⟩, .inl hJ5⟩
    · refine ⟨_, rfl, ?_⟩
      simp only [Act.put, List.setIfInBounds_toArray, List.set_cons_zero, List.set_cons_succ]
      gi_wp2
      go_wp2
      exact bodyPost_ret (results_none rfl _ _ _) rfl ⟨⟨_, rfl⟩, .inr hJ4⟩
end Go.Proofs.Ytfmekjpmjefpmaa
