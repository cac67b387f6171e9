/- The plain laws of verdicts: what is accepted as certain holds in every completion, and likewise what is accepted as out of reach. -/
import Derived.Test.YtfmekjpmjefpmaaLaw
import Derived.Test.YtfmekjpmjefpmaaWv
namespace Go.Proofs.Ytfmekjpmjefpmaa
open Go Go.RowKit

theorem pick_mem : ∀ (L : List Int) (m : Nat) (S T : List Int), T.Sublist L → T.length = m → S ++ T ∈ pick m L S := by
  intro L
  induction L with
  | nil =>
    intro m S T h hm
    have : T = [] := List.sublist_nil.1 h
    subst this
    have : m = 0 := by simpa using hm.symm
    subst this
    simp [pick]
  | cons x L ih =>
    intro m S T h hm
    cases m with
    | zero =>
      have : T = [] := List.eq_nil_of_length_eq_zero hm
      subst this
      simp [pick]
    | succ m =>
      rw [pick, List.mem_append]
      cases h with
      | cons _ h => exact .inr (ih (m + 1) S T h hm)
      | cons_cons _ h =>
        rename_i T'
        refine .inl ?_
        have := ih m (S ++ [x]) T' h (by simpa using hm)
        simpa using this
theorem rivals_mem (club : Int) : ∀ (n : Nat) (i : Int), i ∈ rivalsTo club n ↔ 0 ≤ i ∧ i < n ∧ i ≠ club
  | 0, i => by simp [rivalsTo]; omega
  | n + 1, i => by
    rw [rivalsTo, List.mem_append, rivals_mem club n i]
    by_cases h : (n : Int) = club
    · rw [if_neg (fun hn => hn h)]
      simp
      omega
    · rw [if_pos h]
      simp
      omega
theorem rivals_length (club : Int) (h0 : 0 ≤ club) : ∀ n : Nat, (rivalsTo club n).length = if club < n then n - 1 else n
  | 0 => by simp [rivalsTo]
  | n + 1 => by
    rw [rivalsTo, List.length_append, rivals_length club h0 n]
    by_cases h : (n : Int) = club
    · rw [if_neg (Classical.not_not.2 h), if_neg (by omega), if_pos (by omega)]
      simp
    · rw [if_pos h]
      simp only [List.length_singleton]
      split
      · rw [if_pos (by omega)]; omega
      · rw [if_neg (by omega)]
theorem many_count (q : Race) (p : List Int) : ∀ n : Nat, manyTo q p n = ((rivalsTo q.club n).filter (fun i => decide (rd p q.club.toNat ≤ rd p i.toNat))).length
  | 0 => rfl
  | n + 1 => by
    rw [manyTo, rivalsTo, List.filter_append, List.length_append, many_count q p n]
    by_cases h : (n : Int) = q.club
    · rw [if_neg (fun hn => hn.1 h), if_neg (fun hn => hn h)]
      simp
    · rw [if_pos h]
      by_cases h2 : rd p q.club.toNat ≤ rd p n
      · rw [if_pos ⟨h, h2⟩]
        simp [h2]
      · rw [if_neg (fun hn => h2 hn.2)]
        simp [h2]
theorem more_count (q : Race) (p : List Int) : ∀ n : Nat, moreTo q p n = ((rivalsTo q.club n).filter (fun i => decide (rd p q.club.toNat < rd p i.toNat))).length
  | 0 => rfl
  | n + 1 => by
    rw [moreTo, rivalsTo, List.filter_append, List.length_append, more_count q p n]
    by_cases h : (n : Int) = q.club
    · rw [if_neg (fun hn => hn.1 h), if_neg (fun hn => hn h)]
      simp
    · rw [if_pos h]
      by_cases h2 : rd p q.club.toNat < rd p n
      · rw [if_pos ⟨h, h2⟩]
        simp [h2]
      · rw [if_neg (fun hn => h2 hn.2)]
        simp [h2]
theorem more_le_many (q : Race) (p : List Int) : ∀ n : Nat, moreTo q p n ≤ manyTo q p n
  | 0 => Int.le_refl _
  | n + 1 => by
    have := more_le_many q p n
    rw [moreTo, manyTo]
    by_cases h : (n : Int) ≠ q.club ∧ rd p q.club.toNat < rd p n
    · rw [if_pos h, if_pos ⟨h.1, by have := h.2; omega⟩]; omega
    · rw [if_neg h]; split <;> omega
/-- A list of m places that holds all that a test picks. -/
theorem fill {f : Int → Bool} : ∀ (L : List Int) (m : Nat), (L.filter f).length ≤ m → m ≤ L.length → ∃ T : List Int, T.Sublist L ∧ T.length = m ∧ ∀ x ∈ L, f x = true → x ∈ T
  | [], m, _, h => ⟨[], List.Sublist.refl _, by simp at h; simp [h], by simp⟩
  | x :: L, m, h1, h2 => by
    by_cases hx : f x = true
    · rw [List.filter_cons, if_pos hx, List.length_cons] at h1
      obtain ⟨T, a, b, c⟩ := fill (f := f) L (m - 1) (by omega) (by simp at h2; omega)
      refine ⟨x :: T, a.cons_cons x, by simp [b]; omega, fun y hy hf => ?_⟩
      rcases List.mem_cons.1 hy with rfl | hy
      · exact List.mem_cons_self
      · exact List.mem_cons_of_mem _ (c y hy hf)
    · rw [List.filter_cons, if_neg hx] at h1
      rcases Nat.lt_or_ge L.length m with h' | h'
      · exact ⟨x :: L, List.Sublist.refl _, by simp at h2 ⊢; omega, fun y hy _ => hy⟩
      · obtain ⟨T, a, b, c⟩ := fill (f := f) L m h1 h'
        refine ⟨T, a.cons x, b, fun y hy hf => ?_⟩
        rcases List.mem_cons.1 hy with rfl | hy
        · exact absurd hf hx
        · exact c y hy hf

theorem cut_of_set {q : Race} {ce : Bool} {L : List Cut} (h : cutsB q ce L = true) {S : List Int} (hS : S ∈ setsOf q (size q ce).toNat) : ∃ c : Cut, c.free = S ∧ Fit q ce c := by
  simp only [cutsB, Bool.and_eq_true, decide_eq_true_eq] at h
  obtain ⟨i, hi, hiS⟩ := List.mem_iff_getElem.1 hS
  have h1 := h.1 i hi
  simp only [cutOk, Bool.and_eq_true, decide_eq_true_eq] at h1
  refine ⟨rdC L i, ?_, fit_of h1.2.2⟩
  rw [h1.2.1, List.getD_eq_getElem?_getD, List.getElem?_eq_getElem hi, hiS]
  rfl

/-- A completion. -/
def Compl (q : Race) (o : List Int) : Prop := o.length = q.games.length ∧ ∀ x ∈ o, 1 ≤ x ∧ x ≤ 3
theorem search_all {q : Race} {ce : Bool} (h : searchB q ce = true) {o : List Int} (ho : Compl q o) : against q ce o = false := by
  simp only [searchB, decide_eq_true_eq] at h
  refine h o ?_
  rw [← ho.1]
  exact counts_mem o ho.2

theorem certain_all {q : Race} (hg : Good q) {v : Verdict} (h : shownB q true v = true) {o : List Int} (ho : Compl q o) : many q o ≤ q.place - 1 := by
  unfold shownB at h
  split at h
  · cases h
  · split at h
    · refine Classical.byContradiction fun hno => ?_
      have hmany : q.place ≤ many q o := by omega
      have hp0 := hg.p0
      have hsz : (size q true).toNat = q.place.toNat := rfl
      have hcnt := many_count q (after q o) q.points.length
      rw [hg.pl] at hcnt
      have hm : q.place ≤ (((rivals q).filter (fun i => decide (rd (after q o) q.club.toNat ≤ rd (after q o) i.toNat))).length : Int) := by
        rw [rivals, ← hcnt, ← hg.pl]; exact hmany
      obtain ⟨c, hc, hf⟩ := cut_of_set h (S := ((rivals q).filter (fun i => decide (rd (after q o) q.club.toNat ≤ rd (after q o) i.toNat))).take q.place.toNat) (by
        rw [setsOf, hsz, ← List.nil_append (List.take _ _)]
        exact pick_mem _ _ _ _ ((List.take_sublist _ _).trans List.filter_sublist) (by rw [List.length_take]; omega))
      obtain ⟨i, _, _, hor⟩ := cut_shows hg true c hf o
      rcases hor with ⟨_, h1, h2⟩ | ⟨h1, _⟩
      · rw [hc] at h1
        have := (List.mem_filter.1 (List.mem_of_mem_take h1)).2
        simp at this
        omega
      · cases h1
    · split at h
      · cases h
      · have := search_all h ho
        simp [against] at this
        omega
theorem out_all {q : Race} (hg : Good q) {v : Verdict} (h : shownB q false v = true) {o : List Int} (ho : Compl q o) : q.place ≤ more q o := by
  unfold shownB at h
  split at h
  · cases h
  · split at h
    · refine Classical.byContradiction fun hno => ?_
      have hmore : more q o ≤ q.place - 1 := by omega
      have hp0 := hg.p0
      have hp1 := hg.p1
      have hc0 := hg.c0
      have hc1 := hg.c1
      have hsz : (size q false).toNat = (q.place - 1).toNat := rfl
      have hcnt := more_count q (after q o) q.points.length
      rw [hg.pl] at hcnt
      have hm : (((rivals q).filter (fun i => decide (rd (after q o) q.club.toNat < rd (after q o) i.toNat))).length : Int) ≤ q.place - 1 := by
        rw [rivals, ← hcnt, ← hg.pl]; exact hmore
      have hlen := rivals_length q.club hc0 q.clubs.length
      rw [if_pos hc1] at hlen
      obtain ⟨T, t1, t2, t3⟩ := fill (f := fun i => decide (rd (after q o) q.club.toNat < rd (after q o) i.toNat)) (rivals q) (q.place - 1).toNat (by omega) (by rw [rivals, hlen]; omega)
      obtain ⟨c, hc, hf⟩ := cut_of_set h (S := T) (by
        rw [setsOf, hsz, ← List.nil_append T]
        exact pick_mem _ _ _ _ t1 t2)
      obtain ⟨i, hi, hne, hor⟩ := cut_shows hg false c hf o
      rcases hor with ⟨h1, _⟩ | ⟨_, h1, h2⟩
      · cases h1
      · refine h1 ?_
        rw [hc]
        refine t3 i ((rivals_mem _ _ _).2 ⟨by omega, by rw [← hg.pl]; omega, hne⟩) ?_
        simpa using h2
    · split at h
      · cases h
      · have := search_all h ho
        simp [against] at this
        omega
theorem compl_of {q : Race} {o : List Int} (hv : validB q = true) (h : complOf q o = 0) : Compl q o := by
  unfold complOf at h
  rw [if_pos hv] at h
  split at h
  · cases h
  · rename_i hb
    have hb' : badArg q o = false := by simpa using hb
    refine ⟨badArg_len hb', fun x hx => ?_⟩
    simp only [badArg, Bool.or_eq_false_iff, List.any_eq_false] at hb'
    have := hb'.2 x hx
    simp [badOut] at this
    omega
theorem reached_of {q : Race} {o : List Int} (hv : validB q = true) (h : reachedOf q o = 0) : Compl q o ∧ more q o < q.place := by
  unfold reachedOf at h
  split at h
  · rename_i hc
    refine ⟨compl_of hv hc, ?_⟩
    split at h
    · cases h
    · omega
  · contradiction
theorem missed_of {q : Race} {o : List Int} (hv : validB q = true) (h : missedOf q o = 0) : Compl q o ∧ q.place ≤ many q o := by
  unfold missedOf at h
  split at h
  · rename_i hc
    refine ⟨compl_of hv hc, ?_⟩
    split at h
    · cases h
    · omega
  · contradiction
theorem outs_compl (q : Race) (ou : List Int) (hou : ∀ x ∈ ou, 0 ≤ x) : Compl q (outs q ou) := by
  refine ⟨outs_len q ou, fun x hx => ?_⟩
  simp only [outs, List.mem_map] at hx
  obtain ⟨n, _, rfl⟩ := hx
  unfold outB
  split
  · rename_i h
    have := hou (rd ou n) (mem_rd.2 ⟨n, h, rfl⟩)
    omega
  · omega
theorem draws_compl (q : Race) : Compl q (outs q []) := outs_compl q [] (by simp)
theorem check_of {q : Race} {v : Verdict} (h : checkOf q v = 0) : validB q = true ∧ showsB q v = true := by
  unfold checkOf at h
  split at h
  · rename_i h1
    split at h
    · rename_i h2; exact ⟨h1, h2⟩
    · cases h
  · cases h
theorem shows_cases {q : Race} {v : Verdict} (h : showsB q v = true) : (v.kind = 1 ∧ shownB q true v = true) ∨ (v.kind = 2 ∧ shownB q false v = true) ∨ (v.kind = 3 ∧ openB q v = true) ∨ (v.kind = 4) := by
  unfold showsB at h
  split at h
  · exact .inl ⟨by assumption, h⟩
  · split at h
    · exact .inr (.inl ⟨by assumption, h⟩)
    · split at h
      · exact .inr (.inr (.inl ⟨by assumption, h⟩))
      · split at h
        · exact .inr (.inr (.inr (by assumption)))
        · cases h
theorem open_of {q : Race} {v : Verdict} (h : openB q v = true) : reachedOf q v.reached = 0 ∧ missedOf q v.missed = 0 := by
  simp only [openB, Bool.and_eq_true, beq_iff_eq] at h
  exact ⟨h.1.2, h.2⟩
/-- **No two kinds.** -/
theorem one_kind {q : Race} {v w : Verdict} (hv : checkOf q v = 0) (hw : checkOf q w = 0) : v.kind = w.kind ∨ v.kind = 4 ∨ w.kind = 4 := by
  obtain ⟨hval, h1⟩ := check_of hv
  obtain ⟨_, h2⟩ := check_of hw
  have hg := good_of hval
  have hd := draws_compl q
  have hle := fun o => more_le_many q (after q o) q.points.length
  rcases shows_cases h1 with ⟨k1, a1⟩ | ⟨k1, a1⟩ | ⟨k1, a1⟩ | k1 <;> rcases shows_cases h2 with ⟨k2, a2⟩ | ⟨k2, a2⟩ | ⟨k2, a2⟩ | k2 <;> try omega
  · have e1 := certain_all hg a1 hd; have e2 := out_all hg a2 hd; have e3 := hle (outs q []); unfold more at e2; unfold many at e1; omega
  · obtain ⟨hc, hm⟩ := missed_of hval (open_of a2).2; have e1 := certain_all hg a1 hc; omega
  · have e1 := certain_all hg a2 hd; have e2 := out_all hg a1 hd; have e3 := hle (outs q []); unfold more at e2; unfold many at e1; omega
  · obtain ⟨hc, hm⟩ := reached_of hval (open_of a2).1; have e1 := out_all hg a1 hc; omega
  · obtain ⟨hc, hm⟩ := missed_of hval (open_of a1).2; have e1 := certain_all hg a2 hc; omega
  · obtain ⟨hc, hm⟩ := reached_of hval (open_of a1).1; have e1 := out_all hg a2 hc; omega
end Go.Proofs.Ytfmekjpmjefpmaa
