/- Regions that draw their order: operations that give one value in every world of a class S, whatever their order, are walked in the text's order. -/
import Derived.Orders
import Derived.WalkKit
import Derived.Below
namespace Go.Proofs.Ytfmekjpmjefpmaa.Seg
open Go Go.RowKit

/-- From here on 'o' gives 'v' and stays in the class S. -/
def GivesAt (P : Program) (S : World → Prop) (v : Value) : Result Next → Prop
  | .ok (.value u) w => u = v ∧ S w
  | .ok .skip w => v = undef ∧ S w
  | .ok (.enter f args) w => Calls P f args w fun e w' => e = .returned v ∧ S w'
  | _ => False

def Gives (P : Program) (ops : Array Oper) (S : World → Prop) (o : Oper) (v : Value) (a : Act) : Prop :=
  (Region.wanted o (yielded ops a.tmps) = true → ∀ w, S w → GivesAt P S v ((execOp a.eval o).run P w)) ∧
  (Region.wanted o (yielded ops a.tmps) = false → v = undef)

/-- The operations of l, one behind the other. -/
def Walk (P : Program) (ops : Array Oper) (S : World → Prop) (K : Act → Prop) : List Oper → Act → Prop
  | [], a => K a
  | o :: rest, a => ∃ v, Gives P ops S o v a ∧ Walk P ops S K rest (a.put o.dst v)

section
variable {P : Program} {ops : Array Oper} {S : World → Prop} {K : Act → Prop} {Q : Exit → Act → World → Prop}

theorem GivesAt.upon {o : Oper} {v : Value} {a : Act} {r : Result Next} (h : GivesAt P S v r) {N : Act → World → Prop} (hN : ∀ w, S w → N (a.put o.dst v) w) :
    o.upon P a N Q r := by
  cases r with
  | ok x w =>
    cases x <;> simp only [GivesAt] at h
    case value u => obtain ⟨rfl, hs⟩ := h; exact hN _ hs
    case skip => obtain ⟨rfl, hs⟩ := h; exact hN _ hs
    case enter f args =>
      refine Calls.mono h fun e w' he => ?_
      obtain ⟨rfl, hs⟩ := he
      exact hN _ hs
  | halt x w => simp [GivesAt] at h

theorem Gives.wpOp {i : Nat} {o : Oper} {v : Value} {a : Act} (hi : ops[i]? = some o) (h : Gives P ops S o v a) {N : Act → World → Prop} (hN : ∀ w, S w → N (a.put o.dst v) w) {w : World} (hw : S w) :
    wpOp P ops Q i N a w := by
  unfold Go.wpOp
  simp only [hi]
  cases hb : Region.wanted o (yielded ops a.tmps) with
  | true => simp only [if_true]; exact .inl ((h.1 hb w hw).upon hN)
  | false => simp only [Bool.false_eq_true, if_false]; rw [← h.2 hb]; exact hN w hw

theorem Gives.of_same {o : Oper} {v : Value} {a a' : Act} (h : Gives P ops S o v a) (he : execOp a'.eval o = execOp a.eval o)
    (hw : Region.wanted o (yielded ops a'.tmps) = Region.wanted o (yielded ops a.tmps)) : Gives P ops S o v a' := by
  unfold Gives at *
  rw [he, hw]
  exact h

/-! ### what must come before what -/
def bits (acc : List Nat) (o : Oper) : Nat := o.after.toList.foldl (fun s e => if Region.binds .any e then s ||| 2 ^ e.on ||| acc.getD e.on 0 else s) 0
def befGo : List Nat → List Oper → List Nat
  | acc, [] => acc
  | acc, o :: l => befGo (acc ++ [bits acc o]) l

theorem bits_spec (acc : List Nat) (i : Nat) : ∀ (l : List Edge) (s : Nat), (l.foldl (fun s e => if Region.binds .any e then s ||| 2 ^ e.on ||| acc.getD e.on 0 else s) s).testBit i = true →
    s.testBit i = true ∨ ∃ e ∈ l, Region.binds .any e = true ∧ (e.on = i ∨ (acc.getD e.on 0).testBit i = true) := by
  intro l
  induction l with
  | nil => intro s h; exact .inl h
  | cons e l ih =>
    intro s h
    rw [List.foldl_cons] at h
    rcases ih _ h with h | ⟨e', he', hb, h⟩
    · by_cases hb : Region.binds .any e = true
      · rw [if_pos hb] at h
        rw [Nat.testBit_or, Nat.testBit_or, Bool.or_eq_true, Bool.or_eq_true, Nat.testBit_two_pow] at h
        rcases h with (h | h) | h
        · exact .inl h
        · exact .inr ⟨e, List.mem_cons_self, hb, .inl (of_decide_eq_true h)⟩
        · exact .inr ⟨e, List.mem_cons_self, hb, .inr h⟩
      · rw [if_neg hb] at h; exact .inl h
    · exact .inr ⟨e', List.mem_cons_of_mem _ he', hb, h⟩

/-- L is closed under the edges of l's operations, which stand at m, m + 1, .. -/
def Closed (L : Nat → Prop) (m : Nat) (l : List Oper) : Prop := ∀ j o, l[j]? = some o → L (m + j) → ∀ e ∈ o.after.toList, Region.binds .any e = true → L e.on

theorem befGo_spec {L : Nat → Prop} : ∀ (l : List Oper) (acc : List Nat), (∀ j i, L j → (acc.getD j 0).testBit i = true → L i) → Closed L acc.length l →
    ∀ j i, L j → ((befGo acc l).getD j 0).testBit i = true → L i := by
  intro l
  induction l with
  | nil => intro acc h _; exact h
  | cons o l ih =>
    intro acc h hc
    refine ih _ ?_ ?_
    · intro j i hL hb
      rcases Nat.lt_trichotomy j acc.length with hj | hj | hj
      · rw [List.getD_eq_getElem?_getD, List.getElem?_append_left hj, ← List.getD_eq_getElem?_getD] at hb; exact h j i hL hb
      · subst hj
        rw [List.getD_eq_getElem?_getD, List.getElem?_append_right (Nat.le_refl _)] at hb
        simp only [Nat.sub_self, List.getElem?_cons_zero, Option.getD_some] at hb
        rcases bits_spec acc i _ _ hb with h0 | ⟨e, he, hbind, h1⟩
        · simp at h0
        · have hLe := hc 0 o rfl hL e he hbind
          rcases h1 with rfl | h1
          · exact hLe
          · exact h _ _ hLe h1
      · rw [List.getD_eq_getElem?_getD, List.getElem?_eq_none (by simp; omega)] at hb; simp at hb
    · intro j o' ho hL e he hb
      have := hc (j + 1) o' (by simpa using ho) (by simpa [Nat.add_assoc, Nat.add_comm 1 j] using hL) e he hb
      exact this

/-- For each pair of the first n: apart, or the earlier one must come first; edges lead back; what stands behind the first n waits for all of them. -/
def okPairs (ops : Array Oper) (B : List Nat) (n : Nat) : Bool :=
  (List.range ops.size).all fun j => match ops[j]? with
    | none => true
    | some oj => (List.range (min j n)).all fun i => (B.getD j 0).testBit i || (decide (j < n) && match ops[i]? with
        | some oi => oi.apart ops oj
        | none => true)
def okBack (ops : Array Oper) : Bool := (List.range ops.size).all fun j => match ops[j]? with
    | none => true
    | some oj => oj.after.all fun e => !Region.binds .any e || decide (e.on < j)
def okLow (ops : Array Oper) (B : List Nat) : Bool := decide (B.length ≤ ops.size) && (List.range ops.size).all fun j => decide (B.getD j 0 < 2 ^ j)
def ok (ops : Array Oper) (n : Nat) : Bool := Region.noSelect ops && okBack ops && okLow ops (befGo [] ops.toList) && okPairs ops (befGo [] ops.toList) n

theorem okPairs_spec {B : List Nat} {n : Nat} (h : okPairs ops B n = true) {i j : Nat} {oi oj : Oper} (hi : ops[i]? = some oi) (hj : ops[j]? = some oj) (hij : i < j) (hin : i < n) :
    (B.getD j 0).testBit i = true ∨ (j < n ∧ oi.apart ops oj = true) := by
  unfold okPairs at h
  rw [List.all_eq_true] at h
  have h1 := h j (List.mem_range.2 (Array.getElem?_eq_some_iff.1 hj).1)
  simp only [hj, List.all_eq_true, List.mem_range, Bool.or_eq_true, Bool.and_eq_true, decide_eq_true_eq] at h1
  have h2 := h1 i (by omega)
  simp only [hi] at h2
  exact h2
theorem okBack_spec (h : okBack ops = true) {j : Nat} {oj : Oper} (hj : ops[j]? = some oj) (e : Edge) (he : e ∈ oj.after) (hb : Region.binds .any e = true) : e.on < j := by
  unfold okBack at h
  rw [List.all_eq_true] at h
  have h1 := h j (List.mem_range.2 (Array.getElem?_eq_some_iff.1 hj).1)
  simp only [hj, Array.all_eq_true_iff_forall_mem, Bool.or_eq_true, Bool.not_eq_true', decide_eq_true_eq] at h1
  rcases h1 e he with h2 | h2
  · rw [hb] at h2; cases h2
  · exact h2

theorem okLow_spec {B : List Nat} (h : okLow ops B = true) {i j : Nat} (hb : (B.getD j 0).testBit i = true) : i < j := by
  unfold okLow at h
  rw [Bool.and_eq_true, List.all_eq_true, decide_eq_true_eq] at h
  rcases Nat.lt_or_ge j ops.size with hj | hj
  · have h1 : B.getD j 0 < 2 ^ j := of_decide_eq_true (h.2 j (List.mem_range.2 hj))
    rcases Nat.lt_or_ge i j with hij | hij
    · exact hij
    · rw [Nat.testBit_lt_two_pow (Nat.lt_of_lt_of_le h1 (Nat.pow_le_pow_right (by omega) hij))] at hb; cases hb
  · rw [List.getD_eq_getElem?_getD, List.getElem?_eq_none (by omega)] at hb; simp at hb

/-! ### an operation that may come up is taken out of the row -/
/-- The remaining ones, as indexes in the text's order. -/
def Rem (P : Program) (ops : Array Oper) (S : World → Prop) (K : Act → Prop) : List Nat → Act → Prop
  | [], a => K a
  | i :: rest, a => ∃ o v, ops[i]? = some o ∧ Gives P ops S o v a ∧ Rem P ops S K rest (a.put o.dst v)

theorem Rem.take (hsel : Region.noSelect ops = true) {j : Nat} {oj : Oper} (hj : ops[j]? = some oj) : ∀ (rem : List Nat) (a : Act), rem.Pairwise (· < ·) → j ∈ rem →
    (∀ i ∈ rem, i < j → ∀ oi, ops[i]? = some oi → oi.apart ops oj = true) → Rem P ops S K rem a →
    ∃ v, Gives P ops S oj v a ∧ Rem P ops S K (rem.erase j) (a.put oj.dst v) := by
  intro rem
  induction rem with
  | nil => intro a _ h; simp at h
  | cons i rem ih =>
    intro a hp hm hap h
    obtain ⟨oi, vi, hi, gi, hr⟩ := h
    by_cases hij : i = j
    · subst hij
      rw [hi] at hj; cases hj
      exact ⟨vi, gi, by rw [List.erase_cons_head]; exact hr⟩
    · have hm' : j ∈ rem := (List.mem_cons.1 hm).resolve_left (Ne.symm hij)
      have hlt : i < j := (List.pairwise_cons.1 hp).1 j hm'
      have hapi := hap i List.mem_cons_self hlt oi hi
      obtain ⟨h1, h2, h3⟩ := Oper.apart_spec hapi
      obtain ⟨vj, gj, hr'⟩ := ih _ (List.pairwise_cons.1 hp).2 hm' (fun k hk => hap k (List.mem_cons_of_mem _ hk)) hr
      have hseli := fun cs b => Region.noSelect_spec hsel i oi cs b hi
      have hselj := fun cs b => Region.noSelect_spec hsel j oj cs b hj
      refine ⟨vj, gj.of_same (execOp_put oj hselj a oi.dst vi h1).symm (wanted_put oj a oi.dst vi h1).symm, ?_⟩
      rw [List.erase_cons_tail (by simp [hij])]
      refine ⟨oi, vi, hi, gi.of_same (execOp_put oi hseli a oj.dst vj h3) (wanted_put oi a oj.dst vj h3), ?_⟩
      rw [← Act.put_comm a vi vj h2]
      exact hr'

theorem Rem_of_Walk : ∀ (l : List Oper) (k : Nat) (a : Act), (∀ j, l[j]? = if j < l.length then ops[k + j]? else none) → Walk P ops S K l a → Rem P ops S K (List.range' k l.length) a := by
  intro l
  induction l with
  | nil => intro k a _ h; exact h
  | cons o l ih =>
    intro k a hl h
    obtain ⟨v, g, h⟩ := h
    have h0 := hl 0
    simp at h0
    refine ⟨o, v, h0.symm, g, ih (k + 1) _ (fun j => ?_) h⟩
    have := hl (j + 1)
    simpa [Nat.add_assoc, Nat.add_comm 1 j] using this

/-- Behind the first n: what is asked then, of whatever world of the class. -/
theorem any_of_rem {n : Nat} (hok : ok ops n = true) (T : Act → World → Prop)
    (htail : ∀ fuel listed a w, listed.size = ops.size → (∀ i, i < n → listed.getD i true = true) → (∀ i, n ≤ i → i < ops.size → listed.getD i true = false) → fuel = ops.size - n → T a w → wpAny P .any ops Q fuel listed a w) :
    ∀ (fuel : Nat) (rem : List Nat) (listed : Array Bool) (a : Act), fuel = rem.length + (ops.size - n) → rem.Pairwise (· < ·) → (∀ i, i ∈ rem ↔ i < n ∧ i < ops.size ∧ listed.getD i true = false) →
      listed.size = ops.size → (∀ i, n ≤ i → i < ops.size → listed.getD i true = false) →
      (∀ j, listed.getD j false = true → ∀ o, ops[j]? = some o → ∀ e ∈ o.after, Region.binds .any e = true → listed.getD e.on false = true) → n ≤ ops.size →
      Rem P ops S (fun a => ∀ w, S w → T a w) rem a →
      ∀ w, S w → wpAny P .any ops Q fuel listed a w := by
  simp only [ok, Bool.and_eq_true] at hok
  obtain ⟨⟨⟨hsel, hback⟩, hlow⟩, hpairs⟩ := hok
  intro fuel
  induction fuel with
  | zero =>
    intro rem listed a hf _ hmem hsz htl hcl hn h w hw
    have hr : rem = [] := List.eq_nil_of_length_eq_zero (by omega)
    subst hr
    have hall : ∀ i, i < n → listed.getD i true = true := fun i hi => by
      cases hb : listed.getD i true with
      | true => rfl
      | false => exact absurd ((hmem i).2 ⟨hi, by omega, hb⟩) (by simp)
    exact htail 0 listed a w hsz hall htl (by simpa using hf) (h w hw)
  | succ fuel ih =>
    intro rem listed a hf hp hmem hsz htl hcl hn h w hw
    cases rem with
    | nil =>
      have hall : ∀ i, i < n → listed.getD i true = true := fun i hi => by
        cases hb : listed.getD i true with
        | true => rfl
        | false => exact absurd ((hmem i).2 ⟨hi, by omega, hb⟩) (by simp)
      exact htail (fuel + 1) listed a w hsz hall htl (by simpa using hf) (h w hw)
    | cons i0 rem0 =>
      have hi0 := (hmem i0).1 List.mem_cons_self
      have hfalse : ∀ i, listed.getD i true = false → listed.getD i false = true → False := fun i h0 h1 => by
        rcases Nat.lt_or_ge i listed.size with h' | h'
        · simp [h'] at h0 h1; rw [h0] at h1; cases h1
        · simp [Array.getElem?_eq_none h'] at h1
      have hwait : ∀ j, j ∈ Region.ready .any ops listed → ∀ oj, ops[j]? = some oj → ∀ i, listed.getD i true = false → ((befGo [] ops.toList).getD j 0).testBit i = true → False := by
        intro j hj oj hoj i hi hb
        obtain ⟨hjun, oj', hoj', hall⟩ := mem_ready.1 hj
        rw [hoj] at hoj'; cases hoj'
        have hc : ∀ k i, (listed.setIfInBounds j true).getD k false = true → ((befGo [] ops.toList).getD k 0).testBit i = true → (listed.setIfInBounds j true).getD i false = true := by
          refine befGo_spec (L := fun k => (listed.setIfInBounds j true).getD k false = true) ops.toList [] (fun j i _ hb => by simp at hb) ?_
          intro k o ho hL e he hbe
          have ho' : ops[k]? = some o := by simpa using ho
          have he' : e ∈ o.after := by simpa using he
          have hL : (listed.setIfInBounds j true).getD k false = true := by simpa using hL
          by_cases hkj : k = j
          · subst hkj
            rw [hoj] at ho'; cases ho'
            exact getD_set_true (hall e he' hbe)
          · rw [getD_set_ne false (Ne.symm hkj)] at hL
            exact getD_set_true (hcl k hL o ho' e he' hbe)
        have hjlt : j < listed.size := by rw [hsz]; exact (Array.getElem?_eq_some_iff.1 hoj).1
        have h1 := hc j i (by simp [hjlt]) hb
        have hij := okLow_spec hlow hb
        rw [getD_set_ne false (by omega)] at h1
        exact hfalse i hi h1
      refine ⟨fun hnil => ?_, fun j hj => ?_⟩
      · -- the first of those that are left may come up
        exfalso
        have : i0 ∈ Region.ready .any ops listed := by
          rw [mem_ready]
          have ho0 : ops[i0]? = some ops[i0] := Array.getElem?_eq_getElem hi0.2.1
          refine ⟨hi0.2.2, _, ho0, fun e he hb => ?_⟩
          have hlt : e.on < i0 := okBack_spec hback ho0 e he hb
          cases hl : listed.getD e.on false with
          | true => rfl
          | false =>
            have hlt' : e.on < listed.size := by rw [hsz]; omega
            have : e.on ∈ i0 :: rem0 := (hmem e.on).2 ⟨by omega, by omega, by simp [hlt'] at hl ⊢; exact hl⟩
            rcases List.mem_cons.1 this with h' | h'
            · omega
            · have := (List.pairwise_cons.1 hp).1 _ h'; omega
        rw [hnil] at this
        cases this
      · obtain ⟨hjun, oj, hoj, hall⟩ := mem_ready.1 hj
        have hjlt : j < ops.size := (Array.getElem?_eq_some_iff.1 hoj).1
        rcases Nat.lt_or_ge j n with hjn | hjn
        · have hm : j ∈ i0 :: rem0 := (hmem j).2 ⟨hjn, hjlt, hjun⟩
          obtain ⟨v, gj, hr⟩ := Rem.take hsel hoj (i0 :: rem0) a hp hm (fun i hi hij oi hoi => by
            rcases okPairs_spec hpairs hoi hoj hij ((hmem i).1 hi).1 with hb | hb
            · exact (hwait j hj oj hoj i ((hmem i).1 hi).2.2 hb).elim
            · exact hb.2) h
          refine gj.wpOp hoj (fun w' hw' => ?_) hw
          have hnd : (i0 :: rem0).Nodup := hp.imp (fun h => by omega)
          refine ih ((i0 :: rem0).erase j) (listed.setIfInBounds j true) _ ?_ (hp.sublist List.erase_sublist) (fun i => ?_) (by simpa using hsz) (fun i hi hi' => ?_) (fun k hk o ho e he hb => ?_) hn hr w' hw'
          · have hl : ((i0 :: rem0).erase j).length = (i0 :: rem0).length - 1 := List.length_erase_of_mem hm
            simp only [List.length_cons] at hf hl ⊢
            omega
          · rw [hnd.mem_erase_iff, hmem i]
            by_cases hij : i = j
            · subst hij
              have : i < listed.size := by rw [hsz]; exact hjlt
              simp [this]
            · rw [getD_set_ne true (Ne.symm hij)]
              simp [hij]
          · rw [getD_set_ne true (by omega)]; exact htl i hi hi'
          · by_cases hkj : k = j
            · subst hkj
              rw [hoj] at ho; cases ho
              exact getD_set_true (hall e he hb)
            · rw [getD_set_ne false (Ne.symm hkj)] at hk
              exact getD_set_true (hcl k hk o ho e he hb)
        · exfalso
          rcases okPairs_spec hpairs (Array.getElem?_eq_getElem hi0.2.1) hoj (by omega) hi0.1 with hb | hb
          · exact hwait j hj oj hoj i0 hi0.2.2 hb
          · omega

/-! ### the region -/
/-- Those behind the first n come up in the text's order. -/
def okTail (ops : Array Oper) (n : Nat) : Bool :=
  (List.range (ops.size - n)).all fun k => Region.ready .any ops ((Array.range ops.size).map fun i => decide (i < n + k)) == [n + k]

theorem listed_eq {m : Nat} {listed : Array Bool} (hsz : listed.size = ops.size) (h1 : ∀ i, i < m → listed.getD i true = true) (h2 : ∀ i, m ≤ i → i < ops.size → listed.getD i true = false) :
    listed = (Array.range ops.size).map fun i => decide (i < m) := by
  refine Array.ext (by simp [hsz]) (fun i hi1 hi2 => ?_)
  simp only [Array.getElem_map, Array.getElem_range]
  rcases Nat.lt_or_ge i m with h | h
  · have := h1 i h; simp [hi1] at this; simp [this, h]
  · have := h2 i h (by omega); simp [hi1] at this; simp [this]; omega

theorem any_tail {n : Nat} (ht : okTail ops n = true) : ∀ (k : Nat) (listed : Array Bool) (a : Act) (w : World), listed.size = ops.size → k ≤ ops.size - n → n ≤ ops.size →
    (∀ i, i < ops.size - k → listed.getD i true = true) → (∀ i, ops.size - k ≤ i → i < ops.size → listed.getD i true = false) →
    wpList P ops Q (ops.toList.drop (ops.size - k)) a w → wpAny P .any ops Q k listed a w := by
  intro k
  induction k with
  | zero =>
    intro listed a w hsz _ _ h1 _ h
    rw [List.drop_eq_nil_of_le (by simp)] at h
    refine ⟨?_, h⟩
    unfold Region.ready
    rw [List.filter_eq_nil_iff]
    intro i hi
    rw [h1 i (by simpa using hi)]
    simp
  | succ k ih =>
    intro listed a w hsz hk hn h1 h2 h
    have hlt : ops.size - (k + 1) < ops.size := by omega
    have hready : Region.ready .any ops listed = [ops.size - (k + 1)] := by
      rw [listed_eq hsz h1 h2]
      unfold okTail at ht
      rw [List.all_eq_true] at ht
      have := ht (ops.size - (k + 1) - n) (List.mem_range.2 (by omega))
      rw [beq_iff_eq, show n + (ops.size - (k + 1) - n) = ops.size - (k + 1) by omega] at this
      exact this
    refine ⟨(fun hnil => by rw [hready] at hnil; cases hnil), ?_⟩
    rw [hready]
    intro i hi
    rw [List.mem_singleton] at hi
    subst hi
    have hdrop : ops.toList.drop (ops.size - (k + 1)) = ops[ops.size - (k + 1)] :: ops.toList.drop (ops.size - k) := by
      rw [List.drop_eq_getElem_cons (by simpa using hlt)]
      congr 1
      congr 1
      omega
    rw [hdrop] at h
    unfold wpOp
    rw [Array.getElem?_eq_getElem hlt]
    simp only
    have next : ∀ a w, wpList P ops Q (ops.toList.drop (ops.size - k)) a w → wpAny P .any ops Q k (listed.setIfInBounds (ops.size - (k + 1)) true) a w := fun a w h => by
      refine ih _ a w (by simpa using hsz) (by omega) hn (fun i hi => ?_) (fun i hi hi' => ?_) h
      · by_cases he : i = ops.size - (k + 1)
        · subst he; simp [hsz, hlt]
        · rw [getD_set_ne true (Ne.symm he)]; exact h1 i (by omega)
      · rw [getD_set_ne true (by omega)]; exact h2 i (by omega) hi'
    unfold wpList at h
    split
    · rename_i hw
      rw [if_pos hw] at h
      exact h.imp (Oper.wp_mono next) id
    · rename_i hw
      rw [if_neg hw] at h
      exact next _ _ h

/-- **A region that draws its order**: its first n operations each give one value in every world of S and stay in S; those behind them come in the text's order. -/
theorem region {id : Nat} {l : List Oper} {a : Act} {w : World} (n : Nat) (hm : P.follows .mixedOrders = true) (hok : ok l.toArray n = true) (ht : okTail l.toArray n = true) (hn : decide (n ≤ l.length) = true)
    (S : World → Prop) (hS : S w.drew) (h : Walk P l.toArray S (fun a => ∀ w, S w → wpList P l.toArray Q (l.drop n) a w) (l.take n) a) : (Code.region id l.toArray true).wp P Q a w := by
  have hn : n ≤ l.length := of_decide_eq_true hn
  refine wp_region_any hm ?_
  have hlen : (l.take n).length = n := by simp; omega
  have hr := Rem_of_Walk (ops := l.toArray) (l.take n) 0 a (fun j => ?_) h
  · rw [hlen] at hr
    refine any_of_rem (S := S) hok (fun a w => wpList P l.toArray Q (l.drop n) a w) (fun fuel listed a w hsz h1 h2 hf hl => ?_) l.toArray.size (List.range' 0 n)
      (Array.replicate l.toArray.size false) a ?_ List.pairwise_lt_range' ?_ (by simp) ?_ ?_ (by simpa using hn) hr _ hS
    · have hn' : n ≤ l.toArray.size := by simpa using hn
      have hk : l.toArray.size - (l.toArray.size - n) = n := by omega
      subst hf
      exact any_tail ht (l.toArray.size - n) listed a w hsz (Nat.le_refl _) hn' (fun i hi => h1 i (by omega)) (fun i hi hi' => h2 i (by omega) hi') (by rw [hk]; exact hl)
    · simp; omega
    · intro i
      simp only [List.mem_range', Nat.zero_add, Nat.one_mul]
      constructor
      · rintro ⟨k, hk, rfl⟩
        refine ⟨hk, by simp; omega, ?_⟩
        have : i < l.length := by omega
        simp [this]
      · rintro ⟨h1, h2, _⟩
        exact ⟨i, h1, rfl⟩
    · intro i _ hi; simp at hi; simp [hi]
    · intro j hj
      rcases Nat.lt_or_ge j l.length with h' | h'
      · simp [h'] at hj
      · simp [h'] at hj
  · split
    · rename_i hj
      simp only [Nat.zero_add, List.getElem?_toArray]
      rw [List.getElem?_take_of_lt (by omega)]
    · rename_i hj
      exact List.getElem?_eq_none (Nat.le_of_not_lt hj)

/-- The whole region. -/
theorem region0 {id : Nat} {l : List Oper} {a : Act} {w : World} (hm : P.follows .mixedOrders = true) (hok : ok l.toArray l.length = true)
    (S : World → Prop) (hS : S w.drew) (h : Walk P l.toArray S (fun a => ∀ w, S w → Q .normal a w) l a) : (Code.region id l.toArray true).wp P Q a w := by
  refine region l.length hm hok (by simp [okTail]) (by simp) S hS ?_
  rw [List.take_length, List.drop_length]
  exact h

theorem Walk.imp {K' : Act → Prop} (hK : ∀ a, K a → K' a) : ∀ (l : List Oper) (a : Act), Walk P ops S K l a → Walk P ops S K' l a
  | [], a, h => hK a h
  | _ :: l, _, ⟨v, g, h⟩ => ⟨v, g, Walk.imp hK l _ h⟩

theorem list_of_walk {S : World → Prop} (l2 : List Oper) : ∀ (l1 : List Oper) (a : Act), Walk P ops S (fun a => ∀ w, S w → wpList P ops Q l2 a w) l1 a → ∀ w, S w → wpList P ops Q (l1 ++ l2) a w := by
  intro l1
  induction l1 with
  | nil => intro a h w hw; exact h w hw
  | cons o l1 ih =>
    intro a h w hw
    obtain ⟨v, g, h⟩ := h
    rw [List.cons_append]
    refine wpList_step fun N hN => ?_
    cases hb : Region.wanted o (yielded ops a.tmps) with
    | true => simp only [if_true]; exact (g.1 hb w hw).upon fun w' hw' => hN _ _ (ih _ h w' hw')
    | false => simp only [Bool.false_eq_true, if_false]; rw [← g.2 hb]; exact hN _ _ (ih _ h w hw)

/-- The class: what lay there lies as it lay. -/
theorem regionB {id : Nat} {l : List Oper} {a : Act} {w : World} (hm : P.follows .mixedOrders = true) (hok : ok l.toArray l.length = true)
    (h : Walk P l.toArray (Below w.heap.size w) (fun a => ∀ w', Below w.heap.size w w' → Q .normal a w') l a) : (Code.region id l.toArray true).wp P Q a w :=
  region0 hm hok _ (Below.refl _ _).drew h
theorem plainB {id : Nat} {l : List Oper} {a : Act} {w : World}
    (h : Walk P l.toArray (Below w.heap.size w) (fun a => ∀ w', Below w.heap.size w w' → Q .normal a w') l a) : (Code.region id l.toArray false).wp P Q a w := by
  refine wp_region_lit ?_
  have := list_of_walk (S := Below w.heap.size w) (Q := Q) [] l a h w (Below.refl _ _)
  rwa [List.append_nil] at this

/-- A region in the text's order that leaves the world. -/
theorem plainE {id : Nat} {l : List Oper} {a : Act} {w : World}
    (h : Walk P l.toArray (fun w' => w = w') (fun a => Q .normal a w) l a) : (Code.region id l.toArray false).wp P Q a w := by
  refine wp_region_lit ?_
  have := list_of_walk (S := fun w' => w = w') (Q := Q) [] l a (Walk.imp (fun a h w' hw => by cases hw; exact h) l a h) w rfl
  rwa [List.append_nil] at this
/-- One that draws its order and leaves the world. -/
theorem regionE {id : Nat} {l : List Oper} {a : Act} {w : World} (hm : P.follows .mixedOrders = true) (hok : ok l.toArray l.length = true)
    (h : Walk P l.toArray (fun w' => w.drew = w') (fun a => Q .normal a w.drew) l a) : (Code.region id l.toArray true).wp P Q a w :=
  region0 hm hok (fun w' => w.drew = w') rfl (Walk.imp (fun a h w' hw => by cases hw; exact h) l a h)

/-- The same of a region in the text's order. -/
theorem plain {id : Nat} {l : List Oper} {a : Act} {w : World} (n : Nat) (S : World → Prop) (hS : S w)
    (h : Walk P l.toArray S (fun a => ∀ w, S w → wpList P l.toArray Q (l.drop n) a w) (l.take n) a) : (Code.region id l.toArray false).wp P Q a w := by
  refine wp_region_lit ?_
  have := list_of_walk (l.drop n) (l.take n) a h w hS
  rwa [List.take_append_drop] at this

theorem done {w : World} {a : Act} (h : Q .normal a w) : Walk P ops S (fun a => Q .normal a w) [] a := h
theorem doneB {w : World} {a : Act} (h : ∀ w', Below w.heap.size w w' → Q .normal a w') : Walk P ops S (fun a => ∀ w', Below w.heap.size w w' → Q .normal a w') [] a := h

/-! ### one operation -/
/-- What an operation under a guard leaves. -/
def opt (b : Bool) (v : Value) : Value := if b = true then v else undef
@[simp, go_sem] theorem opt_true (v : Value) : opt true v = v := rfl
/-- The slot of an operation. -/
def slotOf (ops : Array Oper) (a : Act) (g : Nat) : Option Value := ((ops[g]?).bind (·.dst)).bind (a.tmps[·]?)
theorem wanted1 {o : Oper} {a : Act} {g : Nat} {want b : Bool} (hg : o.guard = some (g, want)) (hy : slotOf ops a g = some (.bool b)) : Region.wanted o (yielded ops a.tmps) = (b == want) := by
  unfold slotOf at hy
  simp [Region.wanted, hg, yielded, hy]
theorem wanted2 {o : Oper} {a : Act} {g : Nat} {want b G : Bool} (hg : o.guard = some (g, want)) (hy : slotOf ops a g = some (opt G (.bool b))) : Region.wanted o (yielded ops a.tmps) = (G && (b == want)) := by
  unfold slotOf at hy
  cases G with
  | true => rw [opt_true] at hy; simp [Region.wanted, hg, yielded, hy]
  | false => simp [Region.wanted, hg, yielded, hy, opt, undef]
variable {o : Oper} {rest : List Oper} {a : Act}
theorem val {v : Value} (hg : o.guard = none) (h : ∀ w, S w → (execOp a.eval o).run P w = .ok (.value v) w) (hr : Walk P ops S K rest (a.put o.dst v)) : Walk P ops S K (o :: rest) a :=
  ⟨v, ⟨fun _ w hw => by rw [h w hw]; exact ⟨rfl, hw⟩, fun hw => by simp [Region.wanted, hg] at hw⟩, hr⟩
theorem call {v : Value} {f : FuncId} {args : Array Value} (hg : o.guard = none) (h : ∀ w, (execOp a.eval o).run P w = .ok (.enter f args) w)
    (hc : ∀ w, S w → Calls P f args w fun e w' => e = .returned v ∧ S w') (hr : Walk P ops S K rest (a.put o.dst v)) : Walk P ops S K (o :: rest) a :=
  ⟨v, ⟨fun _ w hw => by rw [h w]; exact hc w hw, fun hw => by simp [Region.wanted, hg] at hw⟩, hr⟩
theorem val_if {v : Value} {G : Bool} (hG : Region.wanted o (yielded ops a.tmps) = G) (h : G = true → ∀ w, S w → (execOp a.eval o).run P w = .ok (.value v) w)
    (hr : Walk P ops S K rest (a.put o.dst (opt G v))) : Walk P ops S K (o :: rest) a := by
  subst hG
  refine ⟨_, ⟨fun hw w hS => ?_, fun hw => ?_⟩, hr⟩
  · rw [h hw w hS, hw, opt_true]; exact ⟨rfl, hS⟩
  · rw [hw]; rfl
theorem skip (h : Region.wanted o (yielded ops a.tmps) = false) (hr : Walk P ops S K rest (a.put o.dst undef)) : Walk P ops S K (o :: rest) a :=
  ⟨undef, ⟨(fun hw => by rw [h] at hw; cases hw), fun _ => rfl⟩, hr⟩
theorem call_if {v : Value} {f : FuncId} {args : Array Value} {G : Bool} (hG : Region.wanted o (yielded ops a.tmps) = G) (h : G = true → ∀ w, (execOp a.eval o).run P w = .ok (.enter f args) w)
    (hc : G = true → ∀ w, S w → Calls P f args w fun e w' => e = .returned v ∧ S w')
    (hr : Walk P ops S K rest (a.put o.dst (opt G v))) : Walk P ops S K (o :: rest) a := by
  subst hG
  refine ⟨_, ⟨fun hw w hS => ?_, fun hw => ?_⟩, hr⟩
  · rw [h hw w, hw, opt_true]; exact hc hw w hS
  · rw [hw]; rfl
theorem run_pick {ρ : Operand → Value} {x : Bool} {c y z : Operand} (ho : o.op = .pick c y z) (h1 : ρ c = .bool x) (w : World) : (execOp ρ o).run P w = .ok (.value (if x = true then ρ y else ρ z)) w := by
  simp [execOp, ho, h1, asBool, go_sem]
/-- 'c || y', y come to where c is false. -/
theorem pick_or {b x : Bool} {c y : Operand} (hg : o.guard = none) (ho : o.op = .pick c (.const (.bool true)) y) (h1 : a.eval c = .bool b) (h2 : a.eval y = opt (b == false) (.bool x))
    (hr : Walk P ops S K rest (a.put o.dst (.bool (b || x)))) : Walk P ops S K (o :: rest) a := by
  refine val hg (fun w hw => ?_) hr
  rw [run_pick ho h1 w, h2]
  cases b <;> rfl
theorem pick_and {b x : Bool} {c y : Operand} (hg : o.guard = none) (ho : o.op = .pick c y (.const (.bool false))) (h1 : a.eval c = .bool b) (h2 : a.eval y = opt (b == true) (.bool x))
    (hr : Walk P ops S K rest (a.put o.dst (.bool (b && x)))) : Walk P ops S K (o :: rest) a := by
  refine val hg (fun w hw => ?_) hr
  rw [run_pick ho h1 w, h2]
  cases b <;> rfl
/-- The same inside a guard. -/
theorem pick_or_if {b x G : Bool} {c y : Operand} (hG : Region.wanted o (yielded ops a.tmps) = G) (ho : o.op = .pick c (.const (.bool true)) y)
    (h1 : a.eval c = opt G (.bool b)) (h2 : a.eval y = opt (G && (b == false)) (.bool x))
    (hr : Walk P ops S K rest (a.put o.dst (opt G (.bool (b || x))))) : Walk P ops S K (o :: rest) a := by
  refine val_if hG (fun hu w hw => ?_) hr
  subst hu
  rw [run_pick ho h1 w, h2]
  cases b <;> rfl
theorem pick_and_if {b x G : Bool} {c y : Operand} (hG : Region.wanted o (yielded ops a.tmps) = G) (ho : o.op = .pick c y (.const (.bool false)))
    (h1 : a.eval c = opt G (.bool b)) (h2 : a.eval y = opt (G && (b == true)) (.bool x))
    (hr : Walk P ops S K rest (a.put o.dst (opt G (.bool (b && x))))) : Walk P ops S K (o :: rest) a := by
  refine val_if hG (fun hu w hw => ?_) hr
  subst hu
  rw [run_pick ho h1 w, h2]
  cases b <;> rfl
end
end Go.Proofs.Ytfmekjpmjefpmaa.Seg
