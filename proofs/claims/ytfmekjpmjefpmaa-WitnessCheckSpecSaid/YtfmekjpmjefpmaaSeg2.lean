/- Regions that draw their order, a second law: operations with one value (calm), then operations with some value (special), then the rest in the text's order; in whatever wide fence. -/
import Derived.Test.YtfmekjpmjefpmaaSeg
import Derived.Test.YtfmekjpmjefpmaaBase
import Derived.OrdersIn
import Derived.RangeFuncCalls
import Derived.RangeFuncSeq
namespace Go.Proofs.Ytfmekjpmjefpmaa.Seg2
open Go Go.RowKit Go.Proofs.Ytfmekjpmjefpmaa.Seg

/-- A fence that lets every function in: the wide one, or a round's. -/
structure Wide (F : Fence) : Prop where
  fn : ∀ f, F.fn f
  depth : F.depth = none
  calls : ∀ {n : Nat} {P : Program} {f : FuncId} {args : Array Value} {w : World} {R : Ending → World → Prop}, Calls P f args w R → CallsIn F n P f args w R
theorem wide_wide : Wide Fence.wide := ⟨fun _ => trivial, rfl, fun h => callsIn_wide.2 h⟩
theorem wide_round (l : Nat) : Wide (Fence.wide.inRound l) := ⟨fun _ => trivial, rfl, fun h => CallsIn.inRound l (callsIn_wide.2 h)⟩

def GivesSome (P : Program) (N : Value → World → Prop) : Result Next → Prop
  | .ok (.value u) w => N u w
  | .ok .skip w => N undef w
  | .ok (.enter f args) w => Calls P f args w fun e w' => ∃ u, e = .returned u ∧ N u w'
  | _ => False
theorem GivesSome.imp {P : Program} {N N' : Value → World → Prop} {r : Result Next} (h : GivesSome P N r) (hN : ∀ u w, N u w → N' u w) : GivesSome P N' r := by
  cases r with
  | ok x w =>
    cases x <;> simp only [GivesSome] at h ⊢
    case value u => exact hN _ _ h
    case skip => exact hN _ _ h
    case enter f args => exact h.mono fun e w' ⟨u, he, hu⟩ => ⟨u, he, hN _ _ hu⟩
  | halt x w => simp [GivesSome] at h

/-- One value, in every world of the class S; the world only grows. -/
def Gives2 (P : Program) (ops : Array Oper) (S : World → Prop) (o : Oper) (v : Value) (a : Act) : Prop :=
  (Region.wanted o (yielded ops a.tmps) = true → ∀ w, S w → GivesSome P (fun u w' => u = v ∧ Below w.heap.size w w') ((execOp a.eval o).run P w)) ∧
  (Region.wanted o (yielded ops a.tmps) = false → v = undef)

def Walk2 (P : Program) (ops : Array Oper) (S : World → Prop) (K : Act → Prop) : List Oper → Act → Prop
  | [], a => K a
  | o :: rest, a => ∃ v, Gives2 P ops S o v a ∧ Walk2 P ops S K rest (a.put o.dst v)
def Rem2 (P : Program) (ops : Array Oper) (S : World → Prop) (K : Act → Prop) : List Nat → Act → Prop
  | [], a => K a
  | i :: rest, a => ∃ o v, ops[i]? = some o ∧ Gives2 P ops S o v a ∧ Rem2 P ops S K rest (a.put o.dst v)

section
variable {F : Fence} {n : Nat} {P : Program} {ops : Array Oper} {S : World → Prop} {K : Act → Prop} {Q : Exit → Act → World → Prop}

/-- Operations that give some value, one behind the other; then the rest. -/
def Spec (S : World → Prop) (F : Fence) (n : Nat) (P : Program) (ops : Array Oper) (Q : Exit → Act → World → Prop) (tail : List Oper) : List Oper → Act → World → Prop
  | [], a, w => ∀ w', Below w.heap.size w w' → wpListIn F n P ops Q tail a w'
  | s :: X, a, w => Region.wanted s (yielded ops a.tmps) = true ∧ ∀ w', Below w.heap.size w w' →
      GivesSome P (fun v w'' => S w'' ∧ Spec S F n P ops Q tail X (a.put s.dst v) w'') ((execOp a.eval s).run P w')

theorem bthen {a b c : World} (h : Below a.heap.size a b) (k : Below b.heap.size b c) : Below a.heap.size a c := h.trans (k.mono h.size)
theorem Spec.later {tail : List Oper} : ∀ {X : List Oper} {a : Act} {w w1 : World}, Spec S F n P ops Q tail X a w → Below w.heap.size w w1 → Spec S F n P ops Q tail X a w1
  | [], _, _, _, h, hb => fun w' hw => h w' (bthen hb hw)
  | _ :: _, _, _, _, h, hb => ⟨h.1, fun w' hw => h.2 w' (bthen hb hw)⟩

theorem Rem2.imp {K K' : Act → Prop} (hK : ∀ a, K a → K' a) : ∀ {rem : List Nat} {a : Act}, Rem2 P ops S K rem a → Rem2 P ops S K' rem a
  | [], _, h => hK _ h
  | _ :: _, _, ⟨o, v, hi, g, h⟩ => ⟨o, v, hi, g, Rem2.imp hK h⟩

theorem Gives2.of_same {o : Oper} {v : Value} {a a' : Act} (h : Gives2 P ops S o v a) (he : execOp a'.eval o = execOp a.eval o)
    (hw : Region.wanted o (yielded ops a'.tmps) = Region.wanted o (yielded ops a.tmps)) : Gives2 P ops S o v a' := by
  unfold Gives2 at *
  rw [he, hw]
  exact h

def noDefer (ops : Array Oper) : Bool := ops.all fun o => match o.op with | .defer _ => false | _ => true
theorem noDefer_spec (h : noDefer ops = true) {i : Nat} {o : Oper} (hi : ops[i]? = some o) : ∀ c, o.op ≠ .defer c := by
  intro c hc
  unfold noDefer at h
  rw [Array.all_eq_true_iff_forall_mem] at h
  have := h o (Array.mem_of_getElem? hi)
  rw [hc] at this
  cases this

theorem wpIn_of_some {o : Oper} {a : Act} {w : World} {N : Act → World → Prop} (hF : Wide F) (hd : ∀ c, o.op ≠ .defer c)
    (h : GivesSome P (fun u w' => N (a.put o.dst u) w') ((execOp a.eval o).run P w)) : o.wpIn F n P a w N Q := by
  refine ⟨fun f _ => hF.fn f, ?_⟩
  rw [Oper.semAt_eq _ _ _ hd]
  generalize (execOp a.eval o).run P w = r at *
  cases r with
  | ok x w =>
    cases x <;> simp only [GivesSome] at h
    case value u => exact h
    case skip => exact h
    case enter f args =>
      refine ⟨fun hs => by simp [hF.depth] at hs, hF.calls (Calls.mono h fun e w' he => ?_)⟩
      obtain ⟨u, rfl, hu⟩ := he
      exact hu
  | halt x w => simp [GivesSome] at h

theorem wpOpIn_of_gives {i : Nat} {o : Oper} {v : Value} {a : Act} {w : World} {N : Act → World → Prop} (hF : Wide F) (hd : ∀ c, o.op ≠ .defer c) (hi : ops[i]? = some o) (h : Gives2 P ops S o v a)
    (hB : S w) (hN : ∀ w', Below w.heap.size w w' → N (a.put o.dst v) w') : wpOpIn F n P ops Q i N a w := by
  unfold wpOpIn
  simp only [hi]
  cases hb : Region.wanted o (yielded ops a.tmps) with
  | true =>
    simp only [if_true]
    exact wpIn_of_some hF hd ((h.1 hb w hB).imp fun u w' ⟨hu, hw⟩ => by rw [hu]; exact hN w' hw)
  | false =>
    simp only [Bool.false_eq_true, if_false]
    rw [← h.2 hb]
    exact ⟨fun f _ => hF.fn f, hN w (Below.refl _ _)⟩

theorem Rem2.take (hsel : Region.noSelect ops = true) {j : Nat} {oj : Oper} (hj : ops[j]? = some oj) : ∀ (rem : List Nat) (a : Act), rem.Pairwise (· < ·) → j ∈ rem →
    (∀ i ∈ rem, i < j → ∀ oi, ops[i]? = some oi → oi.apart ops oj = true) → Rem2 P ops S K rem a →
    ∃ v, Gives2 P ops S oj v a ∧ Rem2 P ops S K (rem.erase j) (a.put oj.dst v) := by
  intro rem
  induction rem with
  | nil => intro a _ h; simp at h
  | cons i rem ih =>
    intro a hp hm hap h
    obtain ⟨oi, vi, hi, gi, hr⟩ := h
    by_cases hij : i = j
    · subst hij
      rw [hi] at hj; cases hj
      exact ⟨vi, gi, by rw [List.erase_cons_head]; exact hr⟩
    · have hm' : j ∈ rem := (List.mem_cons.1 hm).resolve_left (Ne.symm hij)
      have hlt : i < j := (List.pairwise_cons.1 hp).1 j hm'
      have hapi := hap i List.mem_cons_self hlt oi hi
      obtain ⟨h1, h2, h3⟩ := Oper.apart_spec hapi
      obtain ⟨vj, gj, hr'⟩ := ih _ (List.pairwise_cons.1 hp).2 hm' (fun k hk => hap k (List.mem_cons_of_mem _ hk)) hr
      have hseli := fun cs b => Region.noSelect_spec hsel i oi cs b hi
      have hselj := fun cs b => Region.noSelect_spec hsel j oj cs b hj
      refine ⟨vj, gj.of_same (execOp_put oj hselj a oi.dst vi h1).symm (wanted_put oj a oi.dst vi h1).symm, ?_⟩
      rw [List.erase_cons_tail (by simp [hij])]
      refine ⟨oi, vi, hi, gi.of_same (execOp_put oi hseli a oj.dst vj h3) (wanted_put oi a oj.dst vj h3), ?_⟩
      rw [← Act.put_comm a vi vj h2]
      exact hr'

/-- A special operation comes up while calm ones are left. -/
theorem Rem2.special (hsel : Region.noSelect ops = true) {tail X : List Oper} {j : Nat} {s : Oper} (hj : ops[j]? = some s) {w : World} : ∀ (rem : List Nat) (a : Act),
    (∀ i ∈ rem, ∀ oi, ops[i]? = some oi → oi.apart ops s = true) → Rem2 P ops S (fun a => Spec S F n P ops Q tail (s :: X) a w) rem a →
    Region.wanted s (yielded ops a.tmps) = true ∧ GivesSome P (fun v w'' => S w'' ∧ Rem2 P ops S (fun a => Spec S F n P ops Q tail X a w'') rem (a.put s.dst v)) ((execOp a.eval s).run P w) := by
  intro rem
  induction rem with
  | nil => intro a _ h; exact ⟨h.1, h.2 w (Below.refl _ _)⟩
  | cons i rem ih =>
    intro a hap h
    obtain ⟨oi, vi, hi, gi, hr⟩ := h
    obtain ⟨h1, h2, h3⟩ := Oper.apart_spec (hap i List.mem_cons_self oi hi)
    have hseli := fun cs b => Region.noSelect_spec hsel i oi cs b hi
    have hsels := fun cs b => Region.noSelect_spec hsel j s cs b hj
    obtain ⟨hw, hg⟩ := ih _ (fun k hk => hap k (List.mem_cons_of_mem _ hk)) hr
    rw [wanted_put s a oi.dst vi h1] at hw
    rw [execOp_put s hsels a oi.dst vi h1] at hg
    refine ⟨hw, hg.imp fun u w'' ⟨hb, hu⟩ => ⟨hb, oi, vi, hi, gi.of_same (execOp_put oi hseli a s.dst u h3) (wanted_put oi a s.dst u h3), ?_⟩⟩
    rw [← Act.put_comm a vi u h2]
    exact hu

/-- i comes ahead of j, or they are apart. -/
def okPairs2 (ops : Array Oper) (Bf : List Nat) (n1 n2 : Nat) : Bool :=
  (List.range ops.size).all fun j => match ops[j]? with
    | none => true
    | some oj => (List.range (min j n2)).all fun i => (Bf.getD j 0).testBit i || (decide (i < n1) && decide (j < n2) && match ops[i]? with
        | some oi => oi.apart ops oj
        | none => true)
def ok2 (ops : Array Oper) (n1 n2 : Nat) : Bool := noDefer ops && (Region.noSelect ops && okBack ops && okLow ops (befGo [] ops.toList) && okPairs2 ops (befGo [] ops.toList) n1 n2)
theorem okPairs2_spec {Bf : List Nat} {n1 n2 : Nat} (h : okPairs2 ops Bf n1 n2 = true) {i j : Nat} {oi oj : Oper} (hi : ops[i]? = some oi) (hj : ops[j]? = some oj) (hij : i < j) (hin : i < n2) :
    (Bf.getD j 0).testBit i = true ∨ (i < n1 ∧ j < n2 ∧ oi.apart ops oj = true) := by
  unfold okPairs2 at h
  rw [List.all_eq_true] at h
  have h1 := h j (List.mem_range.2 (Array.getElem?_eq_some_iff.1 hj).1)
  simp only [hj, List.all_eq_true, List.mem_range, Bool.or_eq_true, Bool.and_eq_true, decide_eq_true_eq] at h1
  have h2 := h1 i (by omega)
  simp only [hi] at h2
  rcases h2 with h2 | ⟨⟨h2, h3⟩, h4⟩
  · exact .inl h2
  · exact .inr ⟨h2, h3, h4⟩

theorem getD_set_true' {l : Array Bool} {i j : Nat} (h : l.getD i true = true) : (l.setIfInBounds j true).getD i true = true := by
  by_cases e : j = i
  · subst e
    by_cases h' : j < l.size
    · simp [h']
    · simp [h']
  · rw [getD_set_ne true e]; exact h
theorem any_tailIn {n2 : Nat} (ht : okTail ops n2 = true) : ∀ (k : Nat) (listed : Array Bool) (a : Act) (w : World), listed.size = ops.size → k ≤ ops.size - n2 → n2 ≤ ops.size →
    (∀ i, i < ops.size - k → listed.getD i true = true) → (∀ i, ops.size - k ≤ i → i < ops.size → listed.getD i true = false) →
    wpListIn F n P ops Q (ops.toList.drop (ops.size - k)) a w → wpAnyIn F n P .any ops Q k listed a w := by
  intro k
  induction k with
  | zero =>
    intro listed a w hsz _ _ h1 _ h
    rw [List.drop_eq_nil_of_le (by simp)] at h
    refine ⟨?_, h⟩
    unfold Region.ready
    rw [List.filter_eq_nil_iff]
    intro i hi
    rw [h1 i (by simpa using hi)]
    simp
  | succ k ih =>
    intro listed a w hsz hk hn h1 h2 h
    have hlt : ops.size - (k + 1) < ops.size := by omega
    have hready : Region.ready .any ops listed = [ops.size - (k + 1)] := by
      rw [listed_eq hsz h1 h2]
      unfold okTail at ht
      rw [List.all_eq_true] at ht
      have := ht (ops.size - (k + 1) - n2) (List.mem_range.2 (by omega))
      rw [beq_iff_eq, show n2 + (ops.size - (k + 1) - n2) = ops.size - (k + 1) by omega] at this
      exact this
    refine ⟨(fun hnil => by rw [hready] at hnil; cases hnil), ?_⟩
    rw [hready]
    intro i hi
    rw [List.mem_singleton] at hi
    subst hi
    have hdrop : ops.toList.drop (ops.size - (k + 1)) = ops[ops.size - (k + 1)] :: ops.toList.drop (ops.size - k) := by
      rw [List.drop_eq_getElem_cons (by simpa using hlt)]
      congr 1
      congr 1
      omega
    rw [hdrop] at h
    unfold wpOpIn
    rw [Array.getElem?_eq_getElem hlt]
    simp only
    have next : ∀ a w, wpListIn F n P ops Q (ops.toList.drop (ops.size - k)) a w → wpAnyIn F n P .any ops Q k (listed.setIfInBounds (ops.size - (k + 1)) true) a w := fun a w h => by
      refine ih _ a w (by simpa using hsz) (by omega) hn (fun i hi => ?_) (fun i hi hi' => ?_) h
      · by_cases he : i = ops.size - (k + 1)
        · subst he; simp [hsz, hlt]
        · rw [getD_set_ne true (Ne.symm he)]; exact h1 i (by omega)
      · rw [getD_set_ne true (by omega)]; exact h2 i (by omega) hi'
    unfold wpListIn at h
    split
    · rename_i hw
      rw [if_pos hw] at h
      exact Oper.wpIn_mono next h
    · rename_i hw
      rw [if_neg hw] at h
      exact ⟨h.1, next _ _ h.2⟩

theorem any2 {n1 n2 : Nat} (hF : Wide F) (hS : ∀ w w', S w → Below w.heap.size w w' → S w') (hok : ok2 ops n1 n2 = true) (ht : okTail ops n2 = true) (hn1 : n1 ≤ n2) (hn2 : n2 ≤ ops.size) :
    ∀ (fuel : Nat) (rem : List Nat) (p : Nat) (listed : Array Bool) (a : Act) (w : World), fuel = rem.length + (ops.size - (n1 + p)) → n1 + p ≤ n2 → rem.Pairwise (· < ·) →
      (∀ i, i ∈ rem ↔ i < n1 ∧ i < ops.size ∧ listed.getD i true = false) → listed.size = ops.size → (∀ i, n1 ≤ i → i < n1 + p → listed.getD i true = true) → (∀ i, n1 + p ≤ i → i < ops.size → listed.getD i true = false) →
      (∀ j, listed.getD j false = true → ∀ o, ops[j]? = some o → ∀ e ∈ o.after, Region.binds .any e = true → listed.getD e.on false = true) → S w →
      Rem2 P ops S (fun a => Spec S F n P ops Q (ops.toList.drop n2) ((ops.toList.take n2).drop (n1 + p)) a w) rem a → wpAnyIn F n P .any ops Q fuel listed a w := by
  simp only [ok2, Bool.and_eq_true] at hok
  obtain ⟨hnd, ⟨⟨hsel, hback⟩, hlow⟩, hpairs⟩ := hok
  intro fuel
  induction fuel with
  | zero =>
    intro rem p listed a w hf hp2 _ hmem hsz hdone htl hcl hB h
    have hr : rem = [] := List.eq_nil_of_length_eq_zero (by omega)
    subst hr
    have hpe : n1 + p = n2 := by omega
    have hall : ∀ i, i < n2 → listed.getD i true = true := fun i hi => by
      rcases Nat.lt_or_ge i n1 with h1 | h1
      · cases hb : listed.getD i true with
        | true => rfl
        | false => exact absurd ((hmem i).2 ⟨h1, by omega, hb⟩) (by simp)
      · exact hdone i h1 (by omega)
    have h' : Spec S F n P ops Q (ops.toList.drop n2) ((ops.toList.take n2).drop (n1 + p)) a w := h
    have hdn : (ops.toList.take n2).drop (n1 + p) = [] := List.drop_eq_nil_of_le (by simp; omega)
    rw [hdn] at h'
    exact any_tailIn ht 0 listed a w hsz (by omega) hn2 (fun i hi => hall i (by omega)) (fun i hi hi' => by omega) (by rw [show ops.size - 0 = n2 by omega]; exact h' w (Below.refl _ _))
  | succ fuel ih =>
    intro rem p listed a w hf hp2 hp hmem hsz hdone htl hcl hB h
    by_cases hend : rem = [] ∧ n1 + p = n2
    · obtain ⟨rfl, hpe⟩ := hend
      have hall : ∀ i, i < n2 → listed.getD i true = true := fun i hi => by
        rcases Nat.lt_or_ge i n1 with h1 | h1
        · cases hb : listed.getD i true with
          | true => rfl
          | false => exact absurd ((hmem i).2 ⟨h1, by omega, hb⟩) (by simp)
        · exact hdone i h1 (by omega)
      have h' : Spec S F n P ops Q (ops.toList.drop n2) ((ops.toList.take n2).drop (n1 + p)) a w := h
      have hdn : (ops.toList.take n2).drop (n1 + p) = [] := List.drop_eq_nil_of_le (by simp; omega)
      rw [hdn] at h'
      have hf' : fuel + 1 = ops.size - (n1 + p) := by simpa using hf
      rw [hf']
      exact any_tailIn ht (ops.size - (n1 + p)) listed a w hsz (by omega) hn2 (fun i hi => hall i (by omega)) (fun i hi hi' => htl i (by omega) hi') (by rw [show ops.size - (ops.size - (n1 + p)) = n2 by omega]; exact h' w (Below.refl _ _))
    · have hfalse : ∀ i, listed.getD i true = false → listed.getD i false = true → False := fun i h0 h1 => by
        rcases Nat.lt_or_ge i listed.size with h' | h'
        · simp [h'] at h0 h1; rw [h0] at h1; cases h1
        · simp [Array.getElem?_eq_none h'] at h1
      have hwait : ∀ j, j ∈ Region.ready .any ops listed → ∀ oj, ops[j]? = some oj → ∀ i, listed.getD i true = false → ((befGo [] ops.toList).getD j 0).testBit i = true → False := by
        intro j hj oj hoj i hi hb
        obtain ⟨hjun, oj', hoj', hall⟩ := mem_ready.1 hj
        rw [hoj] at hoj'; cases hoj'
        have hc : ∀ k i, (listed.setIfInBounds j true).getD k false = true → ((befGo [] ops.toList).getD k 0).testBit i = true → (listed.setIfInBounds j true).getD i false = true := by
          refine befGo_spec (L := fun k => (listed.setIfInBounds j true).getD k false = true) ops.toList [] (fun j i _ hb => by simp at hb) ?_
          intro k o ho hL e he hbe
          have ho' : ops[k]? = some o := by simpa using ho
          have he' : e ∈ o.after := by simpa using he
          have hL : (listed.setIfInBounds j true).getD k false = true := by simpa using hL
          by_cases hkj : k = j
          · subst hkj
            rw [hoj] at ho'; cases ho'
            exact getD_set_true (hall e he' hbe)
          · rw [getD_set_ne false (Ne.symm hkj)] at hL
            exact getD_set_true (hcl k hL o ho' e he' hbe)
        have hjlt : j < listed.size := by rw [hsz]; exact (Array.getElem?_eq_some_iff.1 hoj).1
        have h1 := hc j i (by simp [hjlt]) hb
        have hij := okLow_spec hlow hb
        rw [getD_set_ne false (by omega)] at h1
        exact hfalse i hi h1
      have hcl' : ∀ j oj, ops[j]? = some oj → (∀ e ∈ oj.after, Region.binds .any e = true → listed.getD e.on false = true) → ∀ k, (listed.setIfInBounds j true).getD k false = true → ∀ o, ops[k]? = some o → ∀ e ∈ o.after, Region.binds .any e = true → (listed.setIfInBounds j true).getD e.on false = true := by
        intro j oj hoj hall k hk o ho e he hb
        by_cases hkj : k = j
        · subst hkj
          rw [hoj] at ho; cases ho
          exact getD_set_true (hall e he hb)
        · rw [getD_set_ne false (Ne.symm hkj)] at hk
          exact getD_set_true (hcl k hk o ho e he hb)
      -- one that is left and may come up
      have hfirst : ∃ i0, i0 < n2 ∧ listed.getD i0 true = false ∧ (∀ i, i < i0 → listed.getD i true = true) := by
        cases rem with
        | nil =>
          have hlt : n1 + p < n2 := by
            rcases Nat.lt_or_ge (n1 + p) n2 with h' | h'
            · exact h'
            · exact absurd ⟨rfl, by omega⟩ hend
          refine ⟨n1 + p, hlt, htl _ (Nat.le_refl _) (by omega), fun i hi => ?_⟩
          rcases Nat.lt_or_ge i n1 with h1 | h1
          · cases hb : listed.getD i true with
            | true => rfl
            | false => exact absurd ((hmem i).2 ⟨h1, by omega, hb⟩) (by simp)
          · exact hdone i h1 hi
        | cons i0 rem0 =>
          have hi0 := (hmem i0).1 List.mem_cons_self
          refine ⟨i0, by omega, hi0.2.2, fun i hi => ?_⟩
          cases hb : listed.getD i true with
          | true => rfl
          | false =>
            rcases List.mem_cons.1 ((hmem i).2 ⟨by omega, by omega, hb⟩) with h' | h'
            · omega
            · have := (List.pairwise_cons.1 hp).1 _ h'; omega
      obtain ⟨i0, hi0n, hi0u, hi0l⟩ := hfirst
      refine ⟨fun hnil => ?_, fun j hj => ?_⟩
      · exfalso
        have : i0 ∈ Region.ready .any ops listed := by
          rw [mem_ready]
          have ho0 : ops[i0]? = some (ops[i0]'(by omega)) := Array.getElem?_eq_getElem (by omega)
          refine ⟨hi0u, _, ho0, fun e he hb => ?_⟩
          have hlt : e.on < i0 := okBack_spec hback ho0 e he hb
          have hlt' : e.on < listed.size := by rw [hsz]; omega
          have := hi0l e.on hlt
          simp [hlt'] at this ⊢
          exact this
        rw [hnil] at this
        cases this
      · obtain ⟨hjun, oj, hoj, hall⟩ := mem_ready.1 hj
        have hjlt : j < ops.size := (Array.getElem?_eq_some_iff.1 hoj).1
        have hdj := noDefer_spec hnd hoj
        rcases Nat.lt_or_ge j n1 with hjn | hjn
        · -- a calm one
          have hm : j ∈ rem := (hmem j).2 ⟨hjn, hjlt, hjun⟩
          obtain ⟨v, gj, hr⟩ := Rem2.take hsel hoj rem a hp hm (fun i hi hij oi hoi => by
            rcases okPairs2_spec hpairs hoi hoj hij (by have := ((hmem i).1 hi).1; omega) with hb | hb
            · exact (hwait j hj oj hoj i ((hmem i).1 hi).2.2 hb).elim
            · exact hb.2.2) h
          refine wpOpIn_of_gives hF hdj hoj gj hB (fun w' hw' => ?_)
          have hnd' : rem.Nodup := hp.imp (fun h => by omega)
          refine ih (rem.erase j) p (listed.setIfInBounds j true) _ w' ?_ hp2 (hp.sublist List.erase_sublist) (fun i => ?_) (by simpa using hsz) (fun i hi hi' => ?_) (fun i hi hi' => ?_) (hcl' j oj hoj hall) (hS _ _ hB hw') (Rem2.imp (fun a h => h.later hw') hr)
          · have hl : (rem.erase j).length = rem.length - 1 := List.length_erase_of_mem hm
            have hpos : 0 < rem.length := List.length_pos_of_mem hm
            omega
          · rw [hnd'.mem_erase_iff, hmem i]
            by_cases hij : i = j
            · subst hij
              have : i < listed.size := by rw [hsz]; exact hjlt
              simp [this]
            · rw [getD_set_ne true (Ne.symm hij)]
              simp [hij]
          · exact getD_set_true' (hdone i hi hi')
          · rw [getD_set_ne true (by omega)]; exact htl i hi hi'
        · -- a special one
          have hjp : n1 + p ≤ j := by
            rcases Nat.lt_or_ge j (n1 + p) with h' | h'
            · rw [hdone j hjn h'] at hjun; cases hjun
            · exact h'
          have hwt : ∀ i oi, ops[i]? = some oi → i < j → i < n2 → listed.getD i true = false → i < n1 ∧ j < n2 ∧ oi.apart ops oj = true := fun i oi hoi hij hin hun => by
            rcases okPairs2_spec hpairs hoi hoj hij hin with hb | hb
            · exact (hwait j hj oj hoj i hun hb).elim
            · exact hb
          have hpn : n1 + p < n2 := by
            rcases Nat.lt_or_ge (n1 + p) n2 with h' | h'
            · exact h'
            · have hij : i0 < j := by omega
              have := hwt i0 _ (Array.getElem?_eq_getElem (by omega)) hij hi0n hi0u
              omega
          have hje : j = n1 + p := by
            rcases Nat.eq_or_lt_of_le hjp with h' | h'
            · exact h'.symm
            · have := hwt (n1 + p) _ (Array.getElem?_eq_getElem (by omega)) h' hpn (htl _ (Nat.le_refl _) (by omega))
              omega
          subst hje
          have hdrop : (ops.toList.take n2).drop (n1 + p) = oj :: (ops.toList.take n2).drop (n1 + (p + 1)) := by
            rw [List.drop_eq_getElem_cons (by simp; omega)]
            congr 1
            have := (Array.getElem?_eq_some_iff.1 hoj).2
            simpa using this
          rw [hdrop] at h
          obtain ⟨hw, hg⟩ := Rem2.special hsel hoj rem a (fun i hi oi hoi => (hwt i oi hoi (by have := ((hmem i).1 hi).1; omega) (by have := ((hmem i).1 hi).1; omega) ((hmem i).1 hi).2.2).2.2) h
          unfold wpOpIn
          simp only [hoj, hw, if_true]
          refine wpIn_of_some hF hdj (hg.imp fun u w'' ⟨hb, hr⟩ => ?_)
          refine ih rem (p + 1) (listed.setIfInBounds (n1 + p) true) _ w'' (by omega) (by omega) hp (fun i => ?_) (by simpa using hsz) (fun i hi hi' => ?_) (fun i hi hi' => ?_) (hcl' (n1 + p) oj hoj hall) hb hr
          · rw [hmem i]
            by_cases hij : i = n1 + p
            · subst hij
              constructor
              · intro h; omega
              · intro h; omega
            · rw [getD_set_ne true (Ne.symm hij)]
          · by_cases hij : i = n1 + p
            · subst hij
              have : n1 + p < listed.size := by rw [hsz]; exact hjlt
              simp [this]
            · rw [getD_set_ne true (Ne.symm hij)]; exact hdone i hi (by omega)
          · rw [getD_set_ne true (by omega)]; exact htl i (by omega) hi'

theorem Rem2_of_Walk : ∀ (l : List Oper) (k : Nat) (a : Act), (∀ j, l[j]? = if j < l.length then ops[k + j]? else none) → Walk2 P ops S K l a → Rem2 P ops S K (List.range' k l.length) a := by
  intro l
  induction l with
  | nil => intro k a _ h; exact h
  | cons o l ih =>
    intro k a hl h
    obtain ⟨v, g, h⟩ := h
    have h0 := hl 0
    simp at h0
    refine ⟨o, v, h0.symm, g, ih (k + 1) _ (fun j => ?_) h⟩
    have := hl (j + 1)
    simpa [Nat.add_assoc, Nat.add_comm 1 j] using this

/-- **A region that draws its order**: n1 calm operations; special ones up to n2; the rest in the text's order. -/
theorem regionS {id : Nat} {l : List Oper} {a : Act} {w : World} (S : World → Prop) (hS : ∀ w w', S w → Below w.heap.size w w' → S w') (hS0 : S w) (n1 n2 : Nat) (hF : Wide F) (hm : P.follows .mixedOrders = true) (hok : ok2 l.toArray n1 n2 = true) (ht : okTail l.toArray n2 = true) (hn : decide (n1 ≤ n2 ∧ n2 ≤ l.length) = true)
    (h : Walk2 P l.toArray S (fun a => Spec S F n P l.toArray Q (l.drop n2) ((l.take n2).drop n1) a w) (l.take n1) a) : (Code.region id l.toArray true).wpIn F n P Q a w := by
  obtain ⟨hn1, hn2⟩ := of_decide_eq_true hn
  refine wpIn_region_any hm ?_
  have hlen : (l.take n1).length = n1 := by simp; omega
  have hr := Rem2_of_Walk (ops := l.toArray) (l.take n1) 0 a (fun j => ?_) h
  · rw [hlen] at hr
    have hbd : Below w.heap.size w w.drew := (Below.refl _ _).drew
    refine any2 hF hS hok ht hn1 (by simpa using hn2) l.toArray.size (List.range' 0 n1) 0 (Array.replicate l.toArray.size false) a _ ?_ (by omega) List.pairwise_lt_range' ?_ (by simp) (fun i hi hi' => by omega) ?_ ?_ (hS _ _ hS0 hbd) (Rem2.imp (fun a h => Spec.later h hbd) hr)
    · simp; omega
    · intro i
      simp only [List.mem_range', Nat.zero_add, Nat.one_mul]
      constructor
      · rintro ⟨k, hk, rfl⟩
        refine ⟨hk, by simp; omega, ?_⟩
        have : i < l.length := by omega
        simp [this]
      · rintro ⟨h1, h2, _⟩
        exact ⟨i, h1, rfl⟩
    · intro i _ hi; simp at hi; simp [hi]
    · intro j hj
      rcases Nat.lt_or_ge j l.length with h' | h'
      · simp [h'] at hj
      · simp [h'] at hj
  · split
    · rename_i hj
      simp only [Nat.zero_add, List.getElem?_toArray]
      rw [List.getElem?_take_of_lt (by omega)]
    · rename_i hj
      exact List.getElem?_eq_none (Nat.le_of_not_lt hj)

theorem spec_nil {tail : List Oper} {a : Act} {w : World} (h : ∀ w', Below w.heap.size w w' → wpListIn F n P ops Q tail a w') : Spec S F n P ops Q tail [] a w := h
theorem spec_cons {tail X : List Oper} {s : Oper} {a : Act} {w : World} (hg : Region.wanted s (yielded ops a.tmps) = true)
    (h : ∀ w', Below w.heap.size w w' → GivesSome P (fun v w'' => S w'' ∧ Spec S F n P ops Q tail X (a.put s.dst v) w'') ((execOp a.eval s).run P w')) : Spec S F n P ops Q tail (s :: X) a w := ⟨hg, h⟩
theorem some_value {N : Value → World → Prop} {r : Result Next} {v : Value} {w : World} (hr : r = .ok (.value v) w) (h : N v w) : GivesSome P N r := by rw [hr]; exact h
theorem some_call {N : Value → World → Prop} {r : Result Next} {f : FuncId} {args : Array Value} {w : World} (hr : r = .ok (.enter f args) w) (h : Calls P f args w fun e w' => ∃ u, e = .returned u ∧ N u w') : GivesSome P N r := by rw [hr]; exact h

/-! ### one operation -/
theorem done {a : Act} (h : K a) : Walk2 P ops S K [] a := h
variable {o : Oper} {rest : List Oper} {a : Act}
theorem val {v : Value} (hg : o.guard = none) (h : ∀ w, S w → (execOp a.eval o).run P w = .ok (.value v) w) (hr : Walk2 P ops S K rest (a.put o.dst v)) : Walk2 P ops S K (o :: rest) a :=
  ⟨v, ⟨fun _ w hw => by rw [h w hw]; exact ⟨rfl, Below.refl _ _⟩, fun hw => by simp [Region.wanted, hg] at hw⟩, hr⟩
theorem call {v : Value} {f : FuncId} {args : Array Value} (hg : o.guard = none) (h : ∀ w, (execOp a.eval o).run P w = .ok (.enter f args) w)
    (hc : ∀ w, S w → Calls P f args w fun e w' => e = .returned v ∧ Below w.heap.size w w') (hr : Walk2 P ops S K rest (a.put o.dst v)) : Walk2 P ops S K (o :: rest) a :=
  ⟨v, ⟨fun _ w hw => by rw [h w]; exact (hc w hw).mono fun e w' ⟨he, hb⟩ => ⟨v, he, rfl, hb⟩, fun hw => by simp [Region.wanted, hg] at hw⟩, hr⟩
theorem val_if {v : Value} {G : Bool} (hG : Region.wanted o (yielded ops a.tmps) = G) (h : G = true → ∀ w, S w → (execOp a.eval o).run P w = .ok (.value v) w)
    (hr : Walk2 P ops S K rest (a.put o.dst (opt G v))) : Walk2 P ops S K (o :: rest) a := by
  subst hG
  refine ⟨_, ⟨fun hw w hS => ?_, fun hw => ?_⟩, hr⟩
  · rw [h hw w hS, hw, opt_true]; exact ⟨rfl, Below.refl _ _⟩
  · rw [hw]; rfl
theorem skip (h : Region.wanted o (yielded ops a.tmps) = false) (hr : Walk2 P ops S K rest (a.put o.dst undef)) : Walk2 P ops S K (o :: rest) a :=
  ⟨undef, ⟨(fun hw => by rw [h] at hw; cases hw), fun _ => rfl⟩, hr⟩
theorem call_if {v : Value} {f : FuncId} {args : Array Value} {G : Bool} (hG : Region.wanted o (yielded ops a.tmps) = G) (h : G = true → ∀ w, (execOp a.eval o).run P w = .ok (.enter f args) w)
    (hc : G = true → ∀ w, S w → Calls P f args w fun e w' => e = .returned v ∧ Below w.heap.size w w')
    (hr : Walk2 P ops S K rest (a.put o.dst (opt G v))) : Walk2 P ops S K (o :: rest) a := by
  subst hG
  refine ⟨_, ⟨fun hw w hS => ?_, fun hw => ?_⟩, hr⟩
  · rw [h hw w, hw, opt_true]; exact (hc hw w hS).mono fun e w' ⟨he, hb⟩ => ⟨v, he, rfl, hb⟩
  · rw [hw]; rfl
theorem pick_or {b x : Bool} {c y : Operand} (hg : o.guard = none) (ho : o.op = .pick c (.const (.bool true)) y) (h1 : a.eval c = .bool b) (h2 : a.eval y = opt (b == false) (.bool x))
    (hr : Walk2 P ops S K rest (a.put o.dst (.bool (b || x)))) : Walk2 P ops S K (o :: rest) a := by
  refine val hg (fun w hw => ?_) hr
  rw [run_pick ho h1 w, h2]
  cases b <;> rfl
theorem pick_and {b x : Bool} {c y : Operand} (hg : o.guard = none) (ho : o.op = .pick c y (.const (.bool false))) (h1 : a.eval c = .bool b) (h2 : a.eval y = opt (b == true) (.bool x))
    (hr : Walk2 P ops S K rest (a.put o.dst (.bool (b && x)))) : Walk2 P ops S K (o :: rest) a := by
  refine val hg (fun w hw => ?_) hr
  rw [run_pick ho h1 w, h2]
  cases b <;> rfl
theorem pick_or_if {b x G : Bool} {c y : Operand} (hG : Region.wanted o (yielded ops a.tmps) = G) (ho : o.op = .pick c (.const (.bool true)) y)
    (h1 : a.eval c = opt G (.bool b)) (h2 : a.eval y = opt (G && (b == false)) (.bool x))
    (hr : Walk2 P ops S K rest (a.put o.dst (opt G (.bool (b || x))))) : Walk2 P ops S K (o :: rest) a := by
  refine val_if hG (fun hu w hw => ?_) hr
  subst hu
  rw [run_pick ho h1 w, h2]
  cases b <;> rfl
theorem pick_and_if {b x G : Bool} {c y : Operand} (hG : Region.wanted o (yielded ops a.tmps) = G) (ho : o.op = .pick c y (.const (.bool false)))
    (h1 : a.eval c = opt G (.bool b)) (h2 : a.eval y = opt (G && (b == true)) (.bool x))
    (hr : Walk2 P ops S K rest (a.put o.dst (opt G (.bool (b && x))))) : Walk2 P ops S K (o :: rest) a := by
  refine val_if hG (fun hu w hw => ?_) hr
  subst hu
  rw [run_pick ho h1 w, h2]
  cases b <;> rfl
/-- The tail: one operation that gives some value. -/
theorem tail_some {o : Oper} {rest : List Oper} {a : Act} {w : World} (hF : Wide F) (hd : ∀ c, o.op ≠ .defer c) (hw : Region.wanted o (yielded ops a.tmps) = true)
    (h : GivesSome P (fun u w' => wpListIn F n P ops Q rest (a.put o.dst u) w') ((execOp a.eval o).run P w)) : wpListIn F n P ops Q (o :: rest) a w := by
  unfold wpListIn
  rw [if_pos hw]
  exact wpIn_of_some hF hd h
/-- The tail: a call of yield. -/
theorem tail_yield {o : Oper} {rest : List Oper} {a : Act} {w : World} {l : Nat} {args : Array Value} {R : Ending → World → Prop} (hd : ∀ c, o.op ≠ .defer c) (hw : Region.wanted o (yielded ops a.tmps) = true) (hy : YieldAt Fence.wide 0 P l args w R)
    (hrun : ∀ fn tmps assign body, (Instr.yield l args).run P w = .ok (.round l fn tmps assign body) w → (execOp a.eval o).run P w = .ok (.round l fn tmps assign body) w)
    (hR : ∀ e w', R e w' → ∃ u, e = .returned u ∧ wpListIn Fence.wide 0 P ops Q rest (a.put o.dst u) w') : wpListIn Fence.wide 0 P ops Q (o :: rest) a w := by
  unfold wpListIn
  rw [if_pos hw]
  refine ⟨fun f _ => trivial, ?_⟩
  obtain ⟨fn, tmps, assign, body, h1, h2⟩ := hy
  rw [Oper.semAt_eq _ _ _ hd, hrun fn tmps assign body h1]
  refine ⟨fun h => by simp [Fence.wide] at h, h2.mono fun e w' he => ?_⟩
  obtain ⟨u, rfl, hu⟩ := hR e w' he
  exact hu
theorem below_up {B : World} : ∀ w w', Below B.heap.size B w → Below w.heap.size w w' → Below B.heap.size B w' := fun _ _ h k => bthen h k
/-- In a wide fence, the class 'behind the region's start'. -/
theorem regionIn {id : Nat} {l : List Oper} {a : Act} {w : World} (n1 n2 : Nat) (hF : Wide F) (hm : P.follows .mixedOrders = true) (hok : ok2 l.toArray n1 n2 = true) (ht : okTail l.toArray n2 = true) (hn : decide (n1 ≤ n2 ∧ n2 ≤ l.length) = true)
    (h : Walk2 P l.toArray (Below w.heap.size w) (fun a => Spec (Below w.heap.size w) F n P l.toArray Q (l.drop n2) ((l.take n2).drop n1) a w) (l.take n1) a) : (Code.region id l.toArray true).wpIn F n P Q a w :=
  regionS _ below_up (Below.refl _ _) n1 n2 hF hm hok ht hn h
/-- A region outside a fence. -/
theorem regionG {id : Nat} {l : List Oper} {a : Act} {w : World} (S : World → Prop) (hS : ∀ w w', S w → Below w.heap.size w w' → S w') (hS0 : S w) (n1 n2 : Nat) (hm : P.follows .mixedOrders = true) (hok : ok2 l.toArray n1 n2 = true) (ht : okTail l.toArray n2 = true) (hn : decide (n1 ≤ n2 ∧ n2 ≤ l.length) = true)
    (h : Walk2 P l.toArray S (fun a => Spec S Fence.wide 0 P l.toArray Q (l.drop n2) ((l.take n2).drop n1) a w) (l.take n1) a) : (Code.region id l.toArray true).wp P Q a w :=
  wpIn_wide.1 (regionS S hS hS0 n1 n2 wide_wide hm hok ht hn h)
theorem region {id : Nat} {l : List Oper} {a : Act} {w : World} (n1 n2 : Nat) (hm : P.follows .mixedOrders = true) (hok : ok2 l.toArray n1 n2 = true) (ht : okTail l.toArray n2 = true) (hn : decide (n1 ≤ n2 ∧ n2 ≤ l.length) = true)
    (h : Walk2 P l.toArray (Below w.heap.size w) (fun a => Spec (Below w.heap.size w) Fence.wide 0 P l.toArray Q (l.drop n2) ((l.take n2).drop n1) a w) (l.take n1) a) : (Code.region id l.toArray true).wp P Q a w :=
  wpIn_wide.1 (regionIn n1 n2 wide_wide hm hok ht hn h)
/-- A region of calm operations alone. -/
theorem regionC {id : Nat} {l : List Oper} {a : Act} {w : World} (hF : Wide F) (hm : P.follows .mixedOrders = true) (hok : ok2 l.toArray l.length l.length = true)
    (h : Walk2 P l.toArray (Below w.heap.size w) (fun a => ∀ w', Below w.heap.size w w' → Q .normal a w') l a) : (Code.region id l.toArray true).wpIn F n P Q a w := by
  refine regionIn l.length l.length hF hm hok (by simp [okTail]) (by simp) ?_
  rw [List.take_length, List.drop_length]
  exact h
end
end Go.Proofs.Ytfmekjpmjefpmaa.Seg2
