/- The plain law of cuts: a cut that fits shows for every completion that its set is no threat, or no shield. -/
import Derived.Test.YtfmekjpmjefpmaaPure2
namespace Go.Proofs.Ytfmekjpmjefpmaa
open Go Go.RowKit

/-- The half wins that a game brings its left and its right club. -/
def halfL (o : Int) : Int := if o = 1 then 2 else if o = 3 then 0 else 1
def halfR (o : Int) : Int := if o = 1 then 0 else if o = 3 then 2 else 1
def gain (x : Edge) (o i : Int) : Int := (if i = x.l then halfL o else 0) + (if i = x.r then halfR o else 0)
def hTo (q : Race) (o : List Int) (i : Int) : Nat → Int
  | 0 => 0
  | k + 1 => hTo q o i k + gain (rdE q.games k) (rd o k) i
theorem half_sum (o : Int) : halfL o + halfR o = 2 ∧ 0 ≤ halfL o ∧ 0 ≤ halfR o := by
  unfold halfL halfR; split
  · omega
  · split <;> omega

theorem halves_of {q : Race} (h : halves q = true) : 0 < q.draw ∧ q.win = 2 * q.draw := by
  simp only [halves, Bool.and_eq_true, decide_eq_true_eq, beq_iff_eq] at h
  exact h

theorem step_rd {q : Race} (hg : Good q) (hh : q.win = 2 * q.draw) (k : Nat) (hk : k < q.games.length) (o : Int) (p : List Int) (hp : p.length = q.points.length) (i : Nat) (hi : i < q.points.length) :
    rd (stepTo q (rdE q.games k) o p) i = rd p i + q.draw * gain (rdE q.games k) o i := by
  have g := hg.gm k hk
  have hpl := hg.pl
  have e1 : (i = (rdE q.games k).l.toNat) ↔ ((i : Int) = (rdE q.games k).l) := by omega
  have e2 : (i = (rdE q.games k).r.toNat) ↔ ((i : Int) = (rdE q.games k).r) := by omega
  unfold stepTo gain halfL halfR
  by_cases h1 : o = 1
  · simp only [h1, if_true, rd_bump, hp, hi, and_true, e1, hh]
    split
    · split <;> omega
    · split <;> omega
  · by_cases h3 : o = 3
    · simp only [h3, if_true, if_neg (show ¬ (3 : Int) = 1 by decide), rd_bump, hp, hi, and_true, e2, hh]
      split
      · split <;> omega
      · split <;> omega
    · simp only [if_neg h1, if_neg h3, rd_bump, bump_len, hp, hi, and_true, e1, e2]
      split
      · split <;> omega
      · split <;> omega
theorem after_rd {q : Race} (hg : Good q) (hh : q.win = 2 * q.draw) (o : List Int) (i : Nat) (hi : i < q.points.length) : ∀ k, k ≤ q.games.length → rd (afterTo q o k) i = rd q.points i + q.draw * hTo q o i k
  | 0, _ => by simp [afterTo, hTo]
  | k + 1, hk => by
    rw [afterTo, step_rd hg hh k (by omega) _ _ (afterTo_len q o k) i hi, after_rd hg hh o i hi k (by omega), hTo, Int.mul_add]
    omega
theorem gain_nonneg (x : Edge) (o i : Int) : 0 ≤ gain x o i := by
  have := half_sum o
  unfold gain
  split <;> split <;> omega
theorem hTo_nonneg (q : Race) (o : List Int) (i : Int) : ∀ k, 0 ≤ hTo q o i k
  | 0 => by simp [hTo]
  | k + 1 => by have := hTo_nonneg q o i k; have := gain_nonneg (rdE q.games k) (rd o k) i; simp only [hTo]; omega

/-- Sums over a list's first places. -/
def sumL (f : Int → Int) (cl : List Int) : Nat → Int
  | 0 => 0
  | j + 1 => sumL f cl j + f (rd cl j)
theorem sumL_add (f g : Int → Int) (cl : List Int) : ∀ j, sumL (fun i => f i + g i) cl j = sumL f cl j + sumL g cl j
  | 0 => rfl
  | j + 1 => by simp only [sumL, sumL_add f g cl j]; omega
theorem sumL_le (f g : Int → Int) (cl : List Int) : ∀ j, (∀ i, i < j → f (rd cl i) ≤ g (rd cl i)) → sumL f cl j ≤ sumL g cl j
  | 0, _ => Int.le_refl _
  | j + 1, h => by
    have h1 := sumL_le f g cl j (fun i hi => h i (by omega))
    have h2 := h j (by omega)
    simp only [sumL]; omega
theorem sumL_zero (cl : List Int) : ∀ j, sumL (fun _ => 0) cl j = 0
  | 0 => rfl
  | j + 1 => by simp only [sumL, sumL_zero cl j]; omega

/-- Strictly increasing: each number stands there once at most. -/
theorem SetP.mono {n club : Int} {l : List Int} {k : Nat} (h : SetP n club l k) : ∀ i j, i < j → j < k → rd l i < rd l j := by
  intro i j hij
  induction j with
  | zero => omega
  | succ j ih =>
    intro hj
    have h1 := (h (j + 1) hj).2.2.2 (by omega)
    simp only [Nat.add_sub_cancel] at h1
    rcases Nat.lt_or_ge i j with h' | h'
    · have := ih h' (by omega); omega
    · have : i = j := by omega
      subst this; exact h1
theorem sum_one {n club : Int} {cl : List Int} (a x : Int) : ∀ k, k ≤ cl.length → SetP n club cl cl.length → sumL (fun i => if i = x then a else 0) cl k = if (∃ j, j < k ∧ rd cl j = x) then a else 0
  | 0, _, _ => by simp [sumL]
  | k + 1, hk, hs => by
    have ih := sum_one a x k (by omega) hs
    simp only [sumL, ih]
    by_cases hx : rd cl k = x
    · have hno : ¬ ∃ j, j < k ∧ rd cl j = x := by
        rintro ⟨j, hj, he⟩
        have := hs.mono j k hj (by omega)
        omega
      rw [if_neg hno, if_pos hx, if_pos ⟨k, by omega, hx⟩]
      omega
    · rw [if_neg hx]
      by_cases he : ∃ j, j < k ∧ rd cl j = x
      · obtain ⟨j, hj, h⟩ := he
        rw [if_pos ⟨j, hj, h⟩, if_pos ⟨j, by omega, h⟩]
        omega
      · rw [if_neg he, if_neg (by
          rintro ⟨j, hj, h⟩
          rcases Nat.lt_or_ge j k with h' | h'
          · exact he ⟨j, h', h⟩
          · have : j = k := by omega
            subst this; exact hx h)]
        omega
theorem sum_gain {n club : Int} {cl : List Int} (hs : SetP n club cl cl.length) (x : Edge) (o : Int) :
    sumL (fun i => gain x o i) cl cl.length = (if x.l ∈ cl then halfL o else 0) + (if x.r ∈ cl then halfR o else 0) := by
  unfold gain
  rw [sumL_add, sum_one (n := n) (club := club) _ _ _ (Nat.le_refl _) hs, sum_one (n := n) (club := club) _ _ _ (Nat.le_refl _) hs]
  simp only [mem_rd]
theorem sum_hTo {q : Race} {cl : List Int} (o : List Int) (k : Nat) : sumL (fun i => hTo q o i (k + 1)) cl cl.length = sumL (fun i => hTo q o i k) cl cl.length + sumL (fun i => gain (rdE q.games k) (rd o k) i) cl cl.length := by
  rw [← sumL_add]; rfl
theorem sum_le_games {q : Race} {n club : Int} {cl : List Int} (hs : SetP n club cl cl.length) (o : List Int) : ∀ k, sumL (fun i => hTo q o i k) cl cl.length ≤ 2 * ((gamesTo q true cl k).length : Int)
  | 0 => by rw [show (fun i => hTo q o i 0) = fun _ => (0 : Int) from rfl, sumL_zero]; simp [gamesTo]
  | k + 1 => by
    have ih := sum_le_games (q := q) hs o k
    have hh := half_sum (rd o k)
    rw [sum_hTo, sum_gain hs]
    simp only [gamesTo, List.length_append, sel]
    by_cases h1 : (rdE q.games k).l ∈ cl <;> by_cases h2 : (rdE q.games k).r ∈ cl <;> simp [h1, h2] <;> omega
theorem games_le_sum {q : Race} {n club : Int} {cl : List Int} (hs : SetP n club cl cl.length) (o : List Int) : ∀ k, 2 * ((gamesTo q false cl k).length : Int) ≤ sumL (fun i => hTo q o i k) cl cl.length
  | 0 => by rw [show (fun i => hTo q o i 0) = fun _ => (0 : Int) from rfl, sumL_zero]; simp [gamesTo]
  | k + 1 => by
    have ih := games_le_sum (q := q) hs o k
    have hh := half_sum (rd o k)
    rw [sum_hTo, sum_gain hs]
    simp only [gamesTo, List.length_append, sel]
    by_cases h1 : (rdE q.games k).l ∈ cl <;> by_cases h2 : (rdE q.games k).r ∈ cl <;> simp [h1, h2] <;> omega

theorem floorI_eq (a b : Int) (hb : 0 < b) : floorI a b = a / b := by
  unfold floorI
  rw [Int.tmod_eq_emod, Int.tdiv_eq_ediv]
  have h1 := Int.emod_nonneg a (by omega : b ≠ 0)
  have h2 := Int.emod_lt_of_pos a hb
  have hsg : b.sign = 1 := Int.sign_eq_one_of_pos hb
  by_cases h : 0 ≤ a ∨ b ∣ a
  · simp only [h, if_true]
    have h' : (0 ≤ a ∨ b ∣ a) := h
    split
    · rename_i hc
      exfalso
      omega
    · omega
  · simp only [h, if_false, hsg]
    have hnz : a % b ≠ 0 := fun e => h (.inr (Int.dvd_of_emod_eq_zero e))
    have hnat : (b.natAbs : Int) = b := by omega
    split
    · omega
    · rename_i hc
      exfalso
      omega
theorem sumTo_eq (q : Race) (ce : Bool) (high : Int) (cl : List Int) : ∀ k, sumTo q ce high cl k = sumL (fun i => term q ce high i) cl k
  | 0 => rfl
  | k + 1 => by simp only [sumTo, sumL, sumTo_eq q ce high cl k]
theorem low_le {q : Race} (hg : Good q) (hh : q.win = 2 * q.draw) (o : List Int) : low q ≤ rd (after q o) q.club.toNat := by
  have hi : q.club.toNat < q.points.length := by have := hg.c0; have := hg.c1; have := hg.pl; omega
  rw [after, after_rd hg hh o _ hi _ (Nat.le_refl _), low]
  have := Int.mul_nonneg hg.d0 (hTo_nonneg q o q.club.toNat q.games.length)
  omega
theorem le_high {q : Race} (hg : Good q) (hh : q.win = 2 * q.draw) (o : List Int) : ∀ k, k ≤ q.games.length → low q + q.draw * hTo q o q.club k ≤ highTo q k
  | 0, _ => by simp [hTo, highTo]
  | k + 1, hk => by
    have ih := le_high hg hh o k (by omega)
    have g := hg.gm k (by omega)
    have hs := half_sum (rd o k)
    have hd := hg.d0
    simp only [hTo, highTo, Int.mul_add]
    unfold gain
    by_cases h1 : q.club = (rdE q.games k).l
    · have h2 : ¬ q.club = (rdE q.games k).r := by omega
      rw [if_pos h1, if_neg h2, if_pos (.inl h1.symm), hh, Int.add_zero]
      have : q.draw * halfL (rd o k) ≤ q.draw * 2 := Int.mul_le_mul_of_nonneg_left (by omega) hd
      omega
    · by_cases h2 : q.club = (rdE q.games k).r
      · rw [if_neg h1, if_pos h2, if_pos (.inr h2.symm), hh, Int.zero_add]
        have : q.draw * halfR (rd o k) ≤ q.draw * 2 := Int.mul_le_mul_of_nonneg_left (by omega) hd
        omega
      · rw [if_neg h1, if_neg h2, if_neg (by rintro (h | h) <;> omega)]
        omega

structure Fit (q : Race) (ce : Bool) (c : Cut) : Prop where
  hv : halves q = true
  sf : SetP q.clubs.length q.club c.free c.free.length
  sc : SetP q.clubs.length q.club c.clubs c.clubs.length
  ne : c.clubs.length ≠ 0
  fl : (c.free.length : Int) = size q ce
  mem : ∀ i, i < c.clubs.length → decide (rd c.clubs i ∈ c.free) = ce
  gm : gamesTo q ce c.clubs q.games.length = c.games
  gt : 2 * ((gamesTo q ce c.clubs q.games.length).length : Int) < sumTo q ce (highTo q q.games.length) c.clubs c.clubs.length + if ce = true then 0 else 4 * ((gamesTo q ce c.clubs q.games.length).length : Int)
theorem fit_of {q : Race} {ce : Bool} {c : Cut} (h : fits q ce c = true) : Fit q ce c := by
  simp only [fits, isSet, Bool.and_eq_true, decide_eq_true_eq] at h
  obtain ⟨h1, h2, h3, h4, h5, h6, h7, h8⟩ := h
  exact ⟨h1, h2, h3, h4, h5, h6, h7, h8⟩

/-- **A cut that fits.** -/
theorem cut_shows {q : Race} (hg : Good q) (ce : Bool) (c : Cut) (hf : Fit q ce c) (o : List Int) :
    ∃ i : Nat, i < q.points.length ∧ (i : Int) ≠ q.club ∧ ((ce = true ∧ (i : Int) ∈ c.free ∧ rd (after q o) i < rd (after q o) q.club.toNat) ∨ (ce = false ∧ (i : Int) ∉ c.free ∧ rd (after q o) q.club.toNat < rd (after q o) i)) := by
  obtain ⟨hd, hh⟩ := halves_of hf.hv
  have hpl := hg.pl
  have hci : q.club.toNat < q.points.length := by have := hg.c0; have := hg.c1; omega
  have hcn : ((q.club.toNat : Nat) : Int) = q.club := by have := hg.c0; omega
  refine Classical.byContradiction fun hno => ?_
  have hno' : ∀ j, j < c.clubs.length → ¬ ((ce = true ∧ rd c.clubs j ∈ c.free ∧ rd (after q o) (rd c.clubs j).toNat < rd (after q o) q.club.toNat) ∨ (ce = false ∧ rd c.clubs j ∉ c.free ∧ rd (after q o) q.club.toNat < rd (after q o) (rd c.clubs j).toNat)) := fun j hj h => by
    obtain ⟨h0, h1, h2, _⟩ := hf.sc j hj
    have e : (((rd c.clubs j).toNat : Nat) : Int) = rd c.clubs j := by omega
    exact hno ⟨(rd c.clubs j).toNat, by omega, by omega, by rw [e]; exact h⟩
  have hgt := hf.gt
  rw [sumTo_eq] at hgt
  cases ce
  · have hle : sumL (fun i => hTo q o i q.games.length) c.clubs c.clubs.length ≤ - sumL (fun i => term q false (highTo q q.games.length) i) c.clubs c.clubs.length := by
      have e : ∀ (f : Int → Int) k, - sumL f c.clubs k = sumL (fun i => - f i) c.clubs k := fun f k => by
        induction k with
        | zero => rfl
        | succ k ih => simp only [sumL, ← ih]; omega
      rw [e]
      refine sumL_le _ _ _ _ fun j hj => ?_
      obtain ⟨h0, h1, h2, _⟩ := hf.sc j hj
      have hm := hf.mem j hj
      have hn := hno' j hj
      have hnf : rd c.clubs j ∉ c.free := by simpa using hm
      have hle : rd (after q o) (rd c.clubs j).toNat ≤ rd (after q o) q.club.toNat := by
        refine Int.not_lt.1 fun h => hn (.inr ⟨rfl, hnf, h⟩)
      rw [after, after_rd hg hh o _ (by omega) _ (Nat.le_refl _), after_rd hg hh o _ hci _ (Nat.le_refl _), hcn] at hle
      have e : (((rd c.clubs j).toNat : Nat) : Int) = rd c.clubs j := by omega
      rw [e] at hle
      have hhi := le_high hg hh o _ (Nat.le_refl q.games.length)
      unfold low at hhi
      simp only [term]
      rw [if_neg (by decide), floorI_eq _ _ hd, Int.neg_neg]
      refine (Int.le_ediv_iff_mul_le hd).2 ?_
      rw [Int.mul_comm]
      omega
    have h2 := games_le_sum (q := q) hf.sc o q.games.length
    simp only [Bool.false_eq_true, if_false] at hgt
    omega
  · have hle : sumL (fun i => term q true (highTo q q.games.length) i) c.clubs c.clubs.length ≤ sumL (fun i => hTo q o i q.games.length) c.clubs c.clubs.length := by
      refine sumL_le _ _ _ _ fun j hj => ?_
      obtain ⟨h0, h1, h2, _⟩ := hf.sc j hj
      have hm := hf.mem j hj
      have hn := hno' j hj
      have hnf : rd c.clubs j ∈ c.free := by simpa using hm
      have hle : rd (after q o) q.club.toNat ≤ rd (after q o) (rd c.clubs j).toNat := by
        refine Int.not_lt.1 fun h => hn (.inl ⟨rfl, hnf, h⟩)
      have hlo := low_le hg hh o
      rw [after, after_rd hg hh o (rd c.clubs j).toNat (by omega) _ (Nat.le_refl _)] at hle
      rw [after] at hlo
      have e : (((rd c.clubs j).toNat : Nat) : Int) = rd c.clubs j := by omega
      rw [e] at hle
      have hnn := hTo_nonneg q o (rd c.clubs j) q.games.length
      simp only [term]
      rw [if_pos trivial, floorI_eq _ _ hd]
      split
      · have : - hTo q o (rd c.clubs j) q.games.length ≤ (rd q.points (rd c.clubs j).toNat - low q) / q.draw := by
          refine (Int.le_ediv_iff_mul_le hd).2 ?_
          rw [Int.neg_mul, Int.mul_comm]
          omega
        omega
      · exact hnn
    have h2 := sum_le_games (q := q) hf.sc o q.games.length
    simp only [if_true, Int.add_zero] at hgt
    omega
end Go.Proofs.Ytfmekjpmjefpmaa
