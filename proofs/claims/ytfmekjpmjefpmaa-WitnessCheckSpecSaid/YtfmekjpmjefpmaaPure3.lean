/- Plain words: all completions, counted up. -/
import Derived.Test.YtfmekjpmjefpmaaPure2
namespace Go.Proofs.Ytfmekjpmjefpmaa
open Go Go.RowKit

/-- All lists of n outcomes, the first place running fastest. -/
def counts : Nat → List (List Int)
  | 0 => [[]]
  | n + 1 => (counts n).flatMap fun l => [1 :: l, 2 :: l, 3 :: l]
def next : List Int → Option (List Int)
  | [] => none
  | d :: l => if d = 3 then (next l).map (1 :: ·) else some ((d + 1) :: l)

theorem flat3_at (f : List Int → List Int) (g : List Int → List Int) (h : List Int → List Int) : ∀ (xs : List (List Int)) (a : Nat),
    (xs.flatMap fun l => [f l, g l, h l])[3 * a]? = xs[a]?.map f ∧ (xs.flatMap fun l => [f l, g l, h l])[3 * a + 1]? = xs[a]?.map g ∧ (xs.flatMap fun l => [f l, g l, h l])[3 * a + 2]? = xs[a]?.map h
  | [], a => by simp
  | x :: xs, 0 => by simp
  | x :: xs, a + 1 => by
    have ih := flat3_at f g h xs a
    rw [show 3 * (a + 1) = 3 * a + 1 + 1 + 1 by omega, show 3 * a + 1 + 1 + 1 + 2 = 3 * a + 2 + 1 + 1 + 1 by omega]
    simp only [List.flatMap_cons, List.cons_append, List.nil_append, List.getElem?_cons_succ]
    exact ih
theorem counts_next : ∀ (n k : Nat) (L : List Int), (counts n)[k]? = some L → (counts n)[k + 1]? = next L
  | 0, 0, L, h => by simp [counts] at h; subst h; simp [counts, next]
  | 0, k + 1, L, h => by simp [counts] at h
  | n + 1, k, L, h => by
    have H := fun a => flat3_at (fun l => 1 :: l) (fun l => 2 :: l) (fun l => 3 :: l) (counts n) a
    obtain ⟨a, b, hb, rfl⟩ : ∃ a b, b < 3 ∧ k = 3 * a + b := ⟨k / 3, k % 3, Nat.mod_lt _ (by omega), by omega⟩
    obtain ⟨h0, h1, h2⟩ := H a
    simp only [counts] at h ⊢
    rcases (by omega : b = 0 ∨ b = 1 ∨ b = 2) with rfl | rfl | rfl
    · rw [Nat.add_zero, h0] at h
      obtain ⟨l, hl, rfl⟩ := Option.map_eq_some_iff.1 h
      rw [Nat.add_zero, h1, hl]
      rfl
    · rw [h1] at h
      obtain ⟨l, hl, rfl⟩ := Option.map_eq_some_iff.1 h
      rw [show 3 * a + 1 + 1 = 3 * a + 2 by omega, h2, hl]
      rfl
    · rw [h2] at h
      obtain ⟨l, hl, rfl⟩ := Option.map_eq_some_iff.1 h
      rw [show 3 * a + 2 + 1 = 3 * (a + 1) by omega, (H (a + 1)).1, counts_next n a l hl]
      rfl
theorem counts_len : ∀ (n : Nat) (L : List Int), L ∈ counts n → L.length = n ∧ ∀ x ∈ L, 1 ≤ x ∧ x ≤ 3
  | 0, L, h => by simp [counts] at h; subst h; simp
  | n + 1, L, h => by
    simp only [counts, List.mem_flatMap] at h
    obtain ⟨l, hl, h⟩ := h
    have ih := counts_len n l hl
    simp only [List.mem_cons, List.not_mem_nil, or_false] at h
    rcases h with rfl | rfl | rfl <;> exact ⟨by simp [ih.1], fun x hx => by
      rcases List.mem_cons.1 hx with rfl | hx
      · omega
      · exact ih.2 x hx⟩
theorem counts_mem : ∀ (L : List Int), (∀ x ∈ L, 1 ≤ x ∧ x ≤ 3) → L ∈ counts L.length
  | [], _ => by simp [counts]
  | x :: L, h => by
    have ih := counts_mem L (fun y hy => h y (List.mem_cons_of_mem _ hy))
    have hx := h x List.mem_cons_self
    simp only [List.length_cons, counts, List.mem_flatMap]
    refine ⟨L, ih, ?_⟩
    rcases (by omega : x = 1 ∨ x = 2 ∨ x = 3) with rfl | rfl | rfl <;> simp
theorem counts_first : ∀ n, (counts n)[0]? = some (List.replicate n 1)
  | 0 => rfl
  | n + 1 => by
    have := (flat3_at (fun l => 1 :: l) (fun l => 2 :: l) (fun l => 3 :: l) (counts n) 0).1
    simp only [counts]
    rw [show 3 * 0 = 0 from rfl] at this
    rw [this, counts_first n]
    rfl

def carry (i : Nat) (L : List Int) : List Int := List.replicate i 1 ++ L.drop i
theorem carry_len (i : Nat) (L : List Int) (h : i ≤ L.length) : (carry i L).length = L.length := by simp [carry]; omega
theorem carry_step (i : Nat) (L : List Int) (h : i < L.length) : (carry i L).set i 1 = carry (i + 1) L := by
  unfold carry
  have h2 : L.drop i = L[i] :: L.drop (i + 1) := List.drop_eq_getElem_cons h
  rw [h2, List.replicate_succ', List.append_assoc, List.set_append_right _ _ (by simp), List.length_replicate, Nat.sub_self]
  rfl
theorem carry_rd (i : Nat) (L : List Int) : rd (carry i L) i = rd L i := by
  simp [rd, carry, List.getD_eq_getElem?_getD, List.getElem?_append_right]
theorem next_none : ∀ (L : List Int), (∀ j, j < L.length → rd L j = 3) → next L = none
  | [], _ => rfl
  | d :: L, h => by
    have h0 : d = 3 := by simpa [rd] using h 0 (by simp)
    have ih := next_none L (fun j hj => by simpa [rd] using h (j + 1) (by simpa using hj))
    rw [next, if_pos h0, ih]
    rfl
theorem next_some : ∀ (i : Nat) (L : List Int), i < L.length → (∀ j, j < i → rd L j = 3) → rd L i ≠ 3 → next L = some ((carry i L).set i (rd L i + 1))
  | _, [], h, _, _ => by simp at h
  | 0, d :: L, _, _, h3 => by
    have h0 : d ≠ 3 := by simpa [rd] using h3
    rw [next, if_neg h0]
    simp [carry, rd]
  | i + 1, d :: L, h1, h2, h3 => by
    have h0 : d = 3 := by simpa [rd] using h2 0 (by omega)
    have ih := next_some i L (by simpa using h1) (fun j hj => by simpa [rd] using h2 (j + 1) (by omega)) (by simpa [rd] using h3)
    rw [next, if_pos h0, ih]
    simp [carry, rd, List.replicate_succ]
end Go.Proofs.Ytfmekjpmjefpmaa
