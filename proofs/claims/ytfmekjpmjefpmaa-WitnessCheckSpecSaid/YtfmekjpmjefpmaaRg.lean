/- ref.sets, walked. -/
import Derived.Test.YtfmekjpmjefpmaaRd
import Derived.Test.YtfmekjpmjefpmaaOwn4
import Derived.Test.YtfmekjpmjefpmaaWq
set_option linter.unusedSimpArgs false
set_option linter.unusedVariables false
namespace Go.Proofs.Ytfmekjpmjefpmaa
open Go.RowKit Go.Shelf
attribute [local go_sem] Oper.semAt_some

/-- The rivals from i on. -/
def ge (club : Int) (n : Nat) : Nat → List Int
  | 0 => []
  | k + 1 => if ((n : Int) - (k + 1)) ≠ club then ((n : Int) - (k + 1)) :: ge club n k else ge club n k
theorem ge_len (club : Int) (n : Nat) : ∀ k, (ge club n k).length ≤ k
  | 0 => Nat.le_refl _
  | k + 1 => by
    have := ge_len club n k
    simp only [ge]
    split
    · simp; omega
    · omega
theorem pick_pre : ∀ (L : List Int) (m : Nat) (S : List Int), pick m L S = (pick m L []).map (S ++ ·)
  | _, 0, S => by simp [pick]
  | [], m + 1, S => by simp [pick]
  | x :: L, m + 1, S => by
    rw [pick, pick, pick_pre L m (S ++ [x]), pick_pre L m ([] ++ [x]), pick_pre L (m + 1) S, List.map_append, List.map_map]
    congr 1
    refine List.map_congr_left fun y _ => ?_
    simp
theorem pick_cons (x : Int) (L : List Int) (m : Nat) : pick (m + 1) (x :: L) [] = (pick m L []).map (x :: ·) ++ pick (m + 1) L [] := by
  rw [pick, pick_pre L m ([] ++ [x])]
  rfl
theorem pick_len : ∀ (L : List Int) (m : Nat) (S : List Int), (pick m L S).length ≤ 2 ^ L.length
  | L, 0, S => by simpa [pick] using Nat.one_le_two_pow
  | [], m + 1, S => by simp [pick]
  | x :: L, m + 1, S => by
    have h1 := pick_len L m (S ++ [x])
    have h2 := pick_len L (m + 1) S
    rw [pick, List.length_append, List.length_cons, Nat.pow_succ]
    omega
theorem pick_mem_len : ∀ (L : List Int) (m : Nat) (S T : List Int), T ∈ pick m L S → T.length ≤ S.length + L.length
  | L, 0, S, T, h => by simp [pick] at h; subst h; omega
  | [], m + 1, S, T, h => by simp [pick] at h
  | x :: L, m + 1, S, T, h => by
    rw [pick, List.mem_append] at h
    rcases h with h | h
    · have := pick_mem_len L m _ T h; simp at this ⊢; omega
    · have := pick_mem_len L (m + 1) S T h; simp; omega
/-- The sets of m rivals from i on. -/
def setsGe (q : Race) (m i : Nat) : List (List Int) := pick m (ge q.club q.clubs.length (q.clubs.length - i)) []
theorem setsGe_none (q : Race) (m i : Nat) (hi : q.clubs.length ≤ i) : setsGe q (m + 1) i = [] := by
  rw [setsGe, show q.clubs.length - i = 0 by omega]
  rfl
theorem ge_at (club : Int) (n i : Nat) (hi : i < n) : ge club n (n - i) = if (i : Int) ≠ club then (i : Int) :: ge club n (n - (i + 1)) else ge club n (n - (i + 1)) := by
  obtain ⟨k, hk⟩ : ∃ k, n - i = k + 1 := ⟨n - i - 1, by omega⟩
  rw [hk, ge, show n - (i + 1) = k by omega, show (n : Int) - (k + 1) = i by omega]
theorem setsGe_skip (q : Race) (m i : Nat) (hi : i < q.clubs.length) (h : (i : Int) = q.club) : setsGe q m i = setsGe q m (i + 1) := by
  rw [setsGe, setsGe, ge_at _ _ _ hi, if_neg (Classical.not_not.2 h)]
theorem setsGe_step (q : Race) (m i : Nat) (hi : i < q.clubs.length) (h : (i : Int) ≠ q.club) : setsGe q (m + 1) i = (setsGe q m (i + 1)).map ((i : Int) :: ·) ++ setsGe q (m + 1) (i + 1) := by
  rw [setsGe, ge_at _ _ _ hi, if_pos h, pick_cons]
  rfl
theorem setsGe_len (q : Race) (m i : Nat) (h6 : q.clubs.length ≤ 6) : (setsGe q m i).length ≤ 64 := by
  have h1 := pick_len (ge q.club q.clubs.length (q.clubs.length - i)) m []
  have h2 := ge_len q.club q.clubs.length (q.clubs.length - i)
  have h3 : 2 ^ (ge q.club q.clubs.length (q.clubs.length - i)).length ≤ 2 ^ 6 := Nat.pow_le_pow_right (by omega) (by omega)
  unfold setsGe
  omega
theorem setsGe_mem_len (q : Race) (m i : Nat) (h6 : q.clubs.length ≤ 6) : ∀ l ∈ setsGe q m i, l.length ≤ 6 := fun l hl => by
  have h1 := pick_mem_len _ m [] l hl
  have h2 := ge_len q.club q.clubs.length (q.clubs.length - i)
  simp at h1
  omega
theorem ge_rivals (club : Int) (n : Nat) : ∀ k, k ≤ n → rivalsTo club (n - k) ++ ge club n k = rivalsTo club n
  | 0, _ => by simp [ge]
  | k + 1, hk => by
    have ih := ge_rivals club n k (by omega)
    rw [show n - k = (n - (k + 1)) + 1 by omega, rivalsTo] at ih
    rw [← ih, ge, show ((n : Int) - (k + 1)) = ((n - (k + 1) : Nat) : Int) by omega]
    split <;> simp
theorem setsGe_zero (q : Race) (m : Nat) : setsGe q m 0 = setsOf q m := by
  rw [setsGe, setsOf, rivals]
  have := ge_rivals q.club q.clubs.length q.clubs.length (Nat.le_refl _)
  rw [Nat.sub_self, rivalsTo, List.nil_append] at this
  rw [Nat.sub_zero, this]

theorem info22 : (Try.prog.info? 22).map (fun i => (i.zero, i.size, i.bytes)) = some (some (.slice none 0 0), 1, 24) := by kernel_rfl

/-- What sets hands back. -/
def SetsPost (L : List (List Int)) (w : World) (e : Ending) (w' : World) : Prop := ∃ A c, e = .returned (.slice A L.length c) ∧ OwnL w' w.heap.size A c L ∧ Below w.heap.size w w'
set_option maxHeartbeats 8000000 in
set_option maxRecDepth 100000 in
theorem rsets_any (m : RaceM) (h6 : m.q.clubs.length ≤ 6) : ∀ (many : Nat) (least : Nat) (w : World), least ≤ 6 → many ≤ 24 →
    Calls Try.prog 73 #[m.v, .int .i64 least, .int .i64 many] w (SetsPost (setsGe m.q many least) w) := by
  obtain ⟨q, A2, c2, A3, c3, A4, c4⟩ := m
  dsimp only [RaceM.v] at *
  intro many
  induction many with
  | zero =>
    intro least w hl hm
    rw [show setsGe q 0 least = [[]] by simp [setsGe, pick]]
    go_enter Try.func73, Try.ntmps73
    go_upto_region 1 with (fail)
    obtain ⟨W0, hW0, hB0, X0⟩ := box1 w #[.int .i64 q.win, .int .i64 q.draw, .slice A2 q.clubs.length c2, .slice A3 q.points.length c3, .slice A4 q.games.length c4, .int .i64 q.club, .int .i64 q.place] 25
    rw [hW0]
    clear hW0
    go_wp2
    go_ret
    have h := OwnL.one_nil (w := W0.alloc (.cells #[] 3)) (base := W0.heap.size) (B := W0.heap.size) (Nat.le_refl _) (by simp) (by simp)
    exact ⟨_, _, rfl, (by simpa using h.mono hB0.size), balloc (balloc hB0 _) _⟩
  | succ many ih =>
    intro least w hl hm
    have IH := Lib.hid ih
    clear ih
    have hne0 : ¬ ((many : Int) + 1 = 0) := by omega
    go_enter Try.func73, Try.ntmps73
    go_upto_region 1 with (fail)
    obtain ⟨W0, hW0, hB0, X0⟩ := box1 w #[.int .i64 q.win, .int .i64 q.draw, .slice A2 q.clubs.length c2, .slice A3 q.points.length c3, .slice A4 q.games.length c4, .int .i64 q.club, .int .i64 q.place] 25
    rw [hW0]
    clear hW0
    obtain ⟨lx, cx, fx⟩ := id X0
    go_wp2
    clear lx cx fx
    have hBa := balloc0 W0 (.cells #[] 22)
    go_loopw [7, 8] (fun v7 v8 wr => ∃ (i : Nat) (A : Option Addr) (c : Nat) (L : List (List Int)), i ≤ 7 ∧ v8 = .int .i64 i ∧ v7 = .slice A L.length c ∧ Hid (L ++ setsGe q (many + 1) i = setsGe q (many + 1) least) ∧ OwnL wr W0.heap.size A c L ∧ Below W0.heap.size W0 wr) (fun _ i _ => 7 - (intOf i).toNat)
    case atStart => exact ⟨least, _, 0, [], by omega, rfl, rfl, rfl, OwnL.made W0 (Nat.le_refl _), hBa⟩
    case round =>
      generalize wr = wo at *
      obtain ⟨i, A, c, L, hi, rfl, rfl, HL, hO, HB⟩ := hrel
      obtain ⟨lx, cx, fx⟩ := X0.below HB
      by_cases hlt : i < q.clubs.length
      · by_cases hcl : (i : Int) = q.club
        · have hcl' : ((i : Int) == q.club) = true := by simpa using hcl
          have HC := Lib.hid hcl
          clear hcl
          go_wp2
          go_roundw
          case rel => exact ⟨i + 1, A, c, L, by omega, by go_num, rfl, Lib.hid (by rw [← HL.out, setsGe_skip q _ i hlt HC.out]), hO, HB⟩
          case measure => simp [intOf]; omega
        · have hcl' : ((i : Int) == q.club) = false := by simpa using hcl
          have HC := Lib.hid hcl
          clear hcl
          have hrec := IH.out (i + 1) wo (by omega) (by omega)
          rw [show ((i + 1 : Nat) : Int) = (i : Int) + 1 by omega] at hrec
          have HRec := Lib.hid hrec
          clear hrec
          have hmm : IntKind.i64.wrap ((many : Int) + 1 - 1) = many := by rw [IntWalk.i64_in _ (by omega)]; omega
          go_wp2_with (go_at_call 73; refine HRec.out.mono ?_; rintro e w1 ⟨R, d, rfl, hR, hb1⟩)
          have hRR := hR.rows (by have := setsGe_len q many (i + 1) h6; omega)
          have h64 := setsGe_len q many (i + 1) h6
          have hml := Lib.hid (setsGe_mem_len q many (i + 1) h6)
          have HS : Hid (L ++ (setsGe q many (i + 1)).map ((i : Int) :: ·) ++ setsGe q (many + 1) (i + 1) = setsGe q (many + 1) least) := Lib.hid (by rw [← HL.out, setsGe_step q _ i hlt HC.out, List.append_assoc])
          have hL64 : L.length ≤ 64 := by have h1 := HL.out; have h2 := setsGe_len q (many + 1) least h6; rw [← h1] at h2; simp at h2; omega
          generalize setsGe q many (i + 1) = Rl at *
          have HB1 := bthen HB hb1
          clear lx cx fx HRec
          go_loopw [7, 10] (fun v7 v10 wz => ∃ (k : Nat) (A' : Option Addr) (c' : Nat), k ≤ Rl.length ∧ v10 = .int .i64 k ∧ v7 = .slice A' (L ++ (Rl.take k).map ((i : Int) :: ·)).length c' ∧ OwnL wz W0.heap.size A' c' (L ++ (Rl.take k).map ((i : Int) :: ·)) ∧ Hid (∀ b, (Value.slice A' (L ++ (Rl.take k).map ((i : Int) :: ·)).length c').ownBlock = some b → b < wo.heap.size ∨ w1.heap.size ≤ b) ∧ RowsIn wz wo.heap.size w1.heap.size R Rl ∧ Below W0.heap.size W0 wz) (fun _ k _ => Rl.length - (intOf k).toNat)
          case atStart => exact ⟨0, A, c, by omega, rfl, by simp, by simpa using hO.below hb1, Lib.hid (fun b hb => .inl (hO.new b (by simpa using hb)).2), hRR, HB1⟩
          case round =>
            obtain ⟨k, A', c', hk, rfl, rfl, hO', HG', hRI, HBz⟩ := hrel
            obtain ⟨lx, cx, fx⟩ := X0.below HBz
            by_cases hkt : k < Rl.length
            · obtain ⟨g, rfl, hg1, hg2, hrows⟩ := hRI.2.2 (by intro e; rw [e] at hkt; simp at hkt)
              obtain ⟨B, f, hcell, hf, hrow, hblk⟩ := hrows k _ (List.getElem?_eq_getElem hkt)
              have hl6 := hml.out _ (List.getElem_mem hkt)
              have hgw : g < wr.heap.size := Nat.lt_of_lt_of_le hg2 hRI.1
              generalize hl : Rl[k] = l at *
              have HLk := Lib.hid hl
              clear hl hrows
              go_upto_region 12 with (fail)
              refine (wpIn_wide (n := 0)).1 (wpIn_region_lit ?_)
              refine' Seg2.tail_some Seg2.wide_wide (fun c h => by cases h) rfl (Seg2.some_value (v := _) (w := wr) ?_ ?_)
              rotate_left 1
              · go_simp
                rfl
              simp only [Act.put, List.setIfInBounds_toArray, List.set_cons_zero, List.set_cons_succ]
              refine' Seg2.tail_some Seg2.wide_wide (fun c h => by cases h) rfl (Seg2.some_value (v := _) (w := wr) ?_ ?_)
              rotate_left 1
              · go_simp
                rfl
              simp only [Act.put, List.setIfInBounds_toArray, List.set_cons_zero, List.set_cons_succ]
              refine Seg2.tail_some Seg2.wide_wide (fun c h => by cases h) rfl (Seg2.some_value (v := .slice (some ⟨wr.heap.size, 0, none⟩) 1 1) (w := wr.alloc (.cells #[.int .i64 i] 3)) (by go_simp) ?_)
              simp only [Act.put, List.setIfInBounds_toArray, List.set_cons_zero, List.set_cons_succ]
              have hI := OwnI.made1 (base := wr.heap.size) .i64 3 wr i (Nat.le_refl _) (WalkArith.wf_i64 (by omega))
              have hb3 := balloc0 wr (.cells #[.int .i64 (i : Int)] 3)
              generalize wr.alloc (.cells #[.int .i64 (i : Int)] 3) = w3 at *
              have hcell3 := (hb3.cell (p := ⟨g, k, none⟩) hgw).trans hcell
              have hrow3 := hrow.below hb3
              refine' Seg2.tail_some Seg2.wide_wide (fun c h => by cases h) rfl (Seg2.some_value (v := _) (w := w3) ?_ ?_)
              rotate_left 1
              · go_simp
                rfl
              simp only [Act.put, List.setIfInBounds_toArray, List.set_cons_zero, List.set_cons_succ]
              refine' Seg2.tail_some Seg2.wide_wide (fun c h => by cases h) rfl (Seg2.some_value (v := _) (w := w3) ?_ ?_)
              rotate_left 1
              · go_simp
                rfl
              simp only [Act.put, List.setIfInBounds_toArray, List.set_cons_zero, List.set_cons_succ]
              refine' Seg2.tail_some Seg2.wide_wide (fun c h => by cases h) rfl (Seg2.some_value (v := _) (w := w3) ?_ ?_)
              rotate_left 1
              · go_simp
                rfl
              simp only [Act.put, List.setIfInBounds_toArray, List.set_cons_zero, List.set_cons_succ]
              refine' Seg2.tail_some Seg2.wide_wide (fun c h => by cases h) rfl (Seg2.some_value (v := _) (w := w3) ?_ ?_)
              rotate_left 1
              · go_simp
                rfl
              simp only [Act.put, List.setIfInBounds_toArray, List.set_cons_zero, List.set_cons_succ]
              refine Seg2.tail_some Seg2.wide_wide (fun c h => by cases h) rfl (some_appendL (xs := [(i : Int)]) (base := wr.heap.size) _ _ 22 rfl Try.underlying22 infoI _ rfl rfl hI B f l rfl hrow3 (by simp; omega) hb3.size (fun A'' cap w4 hO4 hg4 => ?_))
              simp only [Act.put, List.setIfInBounds_toArray, List.set_cons_zero, List.set_cons_succ]
              have hb4 := below_append hb3 hI hg4 hb3.size
              refine Seg2.tail_some Seg2.wide_wide (fun c h => by cases h) rfl (Seg2.some_value (v := .slice (some ⟨w4.heap.size, 0, none⟩) 1 1) (w := w4.alloc (.cells #[.slice A'' ([(i : Int)].length + l.length) cap] 22)) (by go_simp) ?_)
              simp only [Act.put, List.setIfInBounds_toArray, List.set_cons_zero, List.set_cons_succ]
              have hb5 := balloc hb4 (.cells #[.slice A'' ([(i : Int)].length + l.length) cap] 22)
              have hlen4 : [(i : Int)].length + l.length = ([(i : Int)] ++ l).length := by simp; omega
              have hcell5 : (w4.alloc (.cells #[.slice A'' ([(i : Int)].length + l.length) cap] 22)).cell? ⟨w4.heap.size, 0, none⟩ = some (.slice A'' ([(i : Int)] ++ l).length cap) := by rw [← hlen4]; simp [go_sem]
              have hO5 := hO4.below (balloc0 w4 (.cells #[.slice A'' ([(i : Int)].length + l.length) cap] 22))
              have hs5 : w4.heap.size < (w4.alloc (.cells #[.slice A'' ([(i : Int)].length + l.length) cap] 22)).heap.size := by simp
              generalize w4.alloc (.cells #[.slice A'' ([(i : Int)].length + l.length) cap] 22) = w5 at *
              have hOL5 := hO'.below hb5
              have hRI5 := hRI.below hb5
              refine Seg2.tail_some Seg2.wide_wide (fun c h => by cases h) rfl (some_appendS (base := W0.heap.size) _ _ 101 rfl Try.underlying101 info22 _ rfl (by simp [Nat.min_eq_left (Nat.le_of_lt hkt)]) hOL5 ⟨w4.heap.size, 0, none⟩ rfl A'' ([(i : Int)] ++ l) cap hcell5 hO5.len.1 hO5.row ?_ (by simp; omega) (bthen HBz hb5).size (fun g' cap' w6 hO6 hg6 hor hl6 => ?_))
              · intro b hb
                subst hb
                have h1 := hO4.new b.block rfl
                refine ⟨Nat.le_trans HBz.size h1.1, by omega, fun e => ?_⟩
                have h2 := hO'.new b.block e.symm
                omega
              simp only [Act.put, List.setIfInBounds_toArray, List.set_cons_zero, List.set_cons_succ]
              have HB6 := (bthen HBz hb5).grown hg6 (bthen HBz hb5).size (fun b hb => (hO'.new b hb).1)
              have hRI6 := hRI5.grown hg6 HG'.out
              have htk : Hid (L ++ (Rl.take (k + 1)).map ((i : Int) :: ·) = L ++ (Rl.take k).map ((i : Int) :: ·) ++ [[(i : Int)] ++ l]) := Lib.hid (by
                rw [List.take_add_one, List.getElem?_eq_getElem hkt, HLk.out]
                simp)
              have hG6 : Hid (∀ b, (Value.slice (some ⟨g', 0, none⟩) (L ++ (Rl.take (k + 1)).map ((i : Int) :: ·)).length cap').ownBlock = some b → b < wo.heap.size ∨ w1.heap.size ≤ b) := Lib.hid (fun b hb => by
                simp only [Value.ownBlock, Option.some.injEq] at hb
                subst hb
                rcases hor with h | h
                · exact HG'.out _ h
                · right; have := hRI5.1; omega)
              rw [← htk.out] at hO6
              gi_wp2
              go_wp2
              go_roundw
              case rel => exact ⟨k + 1, some ⟨g', 0, none⟩, cap', by omega, by go_num, by rw [htk.out]; simp; omega, hO6, hG6, hRI6, HB6⟩
              case measure => simp [intOf]; omega
            · obtain rfl : k = Rl.length := by omega
              rw [List.take_length] at hO' HG'
              go_wp2
              go_roundw
              case rel =>
                iterate 37 (apply Exists.intro)
                exact ⟨⟨i + 1, A', c', _, by omega, by go_num, by rw [List.take_length], HS, hO', HBz⟩, rfl⟩
              case measure => simp [intOf]; omega
      · obtain rfl : L = setsGe q (many + 1) least := by rw [← HL.out, setsGe_none q many i (by omega), List.append_nil]
        go_wp2
        go_ret
        exact ⟨_, _, rfl, hO.mono hB0.size, bthen hB0 HB⟩
end Go.Proofs.Ytfmekjpmjefpmaa
