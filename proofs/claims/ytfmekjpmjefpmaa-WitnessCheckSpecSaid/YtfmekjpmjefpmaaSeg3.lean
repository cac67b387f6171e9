/- Regions that draw their order, a third law: calm operations, then special ones, then calm ones again. -/
import Derived.Test.YtfmekjpmjefpmaaSeg2
namespace Go.Proofs.Ytfmekjpmjefpmaa.Seg2
open Go Go.RowKit Go.Proofs.Ytfmekjpmjefpmaa.Seg

section
variable {F : Fence} {n : Nat} {P : Program} {ops : Array Oper} {S : World → Prop} {K : Act → Prop} {Q : Exit → Act → World → Prop} {T : Act → World → Prop}

/-- Operations that give some value, one behind the other; then T. -/
def SpecT (P : Program) (ops : Array Oper) (T : Act → World → Prop) (S : World → Prop) : List Oper → Act → World → Prop
  | [], a, w => ∀ w', Below w.heap.size w w' → T a w'
  | s :: X, a, w => Region.wanted s (yielded ops a.tmps) = true ∧ ∀ w', Below w.heap.size w w' →
      GivesSome P (fun v w'' => S w'' ∧ SpecT P ops T S X (a.put s.dst v) w'') ((execOp a.eval s).run P w')
theorem SpecT.later : ∀ {X : List Oper} {a : Act} {w w1 : World}, SpecT P ops T S X a w → Below w.heap.size w w1 → SpecT P ops T S X a w1
  | [], _, _, _, h, hb => fun w' hw => h w' (bthen hb hw)
  | _ :: _, _, _, _, h, hb => ⟨h.1, fun w' hw => h.2 w' (bthen hb hw)⟩

/-- A special operation comes up while calm ones are left. -/
theorem Rem2.specialT (hsel : Region.noSelect ops = true) {X : List Oper} {j : Nat} {s : Oper} (hj : ops[j]? = some s) {w : World} : ∀ (rem : List Nat) (a : Act),
    (∀ i ∈ rem, ∀ oi, ops[i]? = some oi → oi.apart ops s = true) → Rem2 P ops S (fun a => SpecT P ops T S (s :: X) a w) rem a →
    Region.wanted s (yielded ops a.tmps) = true ∧ GivesSome P (fun v w'' => S w'' ∧ Rem2 P ops S (fun a => SpecT P ops T S X a w'') rem (a.put s.dst v)) ((execOp a.eval s).run P w) := by
  intro rem
  induction rem with
  | nil => intro a _ h; exact ⟨h.1, h.2 w (Below.refl _ _)⟩
  | cons i rem ih =>
    intro a hap h
    obtain ⟨oi, vi, hi, gi, hr⟩ := h
    obtain ⟨h1, h2, h3⟩ := Oper.apart_spec (hap i List.mem_cons_self oi hi)
    have hseli := fun cs b => Region.noSelect_spec hsel i oi cs b hi
    have hsels := fun cs b => Region.noSelect_spec hsel j s cs b hj
    obtain ⟨hw, hg⟩ := ih _ (fun k hk => hap k (List.mem_cons_of_mem _ hk)) hr
    rw [wanted_put s a oi.dst vi h1] at hw
    rw [execOp_put s hsels a oi.dst vi h1] at hg
    refine ⟨hw, hg.imp fun u w'' ⟨hb, hu⟩ => ⟨hb, oi, vi, hi, gi.of_same (execOp_put oi hseli a s.dst u h3) (wanted_put oi a s.dst u h3), ?_⟩⟩
    rw [← Act.put_comm a vi u h2]
    exact hu

theorem any3 {n1 n2 : Nat} (hF : Wide F) (hS : ∀ w w', S w → Below w.heap.size w w' → S w') (hok : ok2 ops n1 n2 = true) (hn1 : n1 ≤ n2) (hn2 : n2 ≤ ops.size)
    (hT : ∀ (listed : Array Bool) (a : Act) (w : World), listed.size = ops.size → (∀ i, i < n2 → listed.getD i true = true) → (∀ i, n2 ≤ i → i < ops.size → listed.getD i true = false) →
      (∀ j, listed.getD j false = true → ∀ o, ops[j]? = some o → ∀ e ∈ o.after, Region.binds .any e = true → listed.getD e.on false = true) → S w → T a w → wpAnyIn F n P .any ops Q (ops.size - n2) listed a w) :
    ∀ (fuel : Nat) (rem : List Nat) (p : Nat) (listed : Array Bool) (a : Act) (w : World), fuel = rem.length + (ops.size - (n1 + p)) → n1 + p ≤ n2 → rem.Pairwise (· < ·) →
      (∀ i, i ∈ rem ↔ i < n1 ∧ i < ops.size ∧ listed.getD i true = false) → listed.size = ops.size → (∀ i, n1 ≤ i → i < n1 + p → listed.getD i true = true) → (∀ i, n1 + p ≤ i → i < ops.size → listed.getD i true = false) →
      (∀ j, listed.getD j false = true → ∀ o, ops[j]? = some o → ∀ e ∈ o.after, Region.binds .any e = true → listed.getD e.on false = true) → S w →
      Rem2 P ops S (fun a => SpecT P ops T S ((ops.toList.take n2).drop (n1 + p)) a w) rem a → wpAnyIn F n P .any ops Q fuel listed a w := by
  simp only [ok2, Bool.and_eq_true] at hok
  obtain ⟨hnd, ⟨⟨hsel, hback⟩, hlow⟩, hpairs⟩ := hok
  intro fuel
  induction fuel with
  | zero =>
    intro rem p listed a w hf hp2 _ hmem hsz hdone htl hcl hB h
    have hr : rem = [] := List.eq_nil_of_length_eq_zero (by omega)
    subst hr
    have hpe : n1 + p = n2 := by omega
    have hall : ∀ i, i < n2 → listed.getD i true = true := fun i hi => by
      rcases Nat.lt_or_ge i n1 with h1 | h1
      · cases hb : listed.getD i true with
        | true => rfl
        | false => exact absurd ((hmem i).2 ⟨h1, by omega, hb⟩) (by simp)
      · exact hdone i h1 (by omega)
    have h' : SpecT P ops T S ((ops.toList.take n2).drop (n1 + p)) a w := h
    have hdn : (ops.toList.take n2).drop (n1 + p) = [] := List.drop_eq_nil_of_le (by simp; omega)
    rw [hdn] at h'
    have h0 := hT listed a w hsz hall (fun i hi hi' => htl i (by omega) hi') hcl hB (h' w (Below.refl _ _))
    rw [show ops.size - n2 = 0 by omega] at h0
    exact h0
  | succ fuel ih =>
    intro rem p listed a w hf hp2 hp hmem hsz hdone htl hcl hB h
    by_cases hend : rem = [] ∧ n1 + p = n2
    · obtain ⟨rfl, hpe⟩ := hend
      have hall : ∀ i, i < n2 → listed.getD i true = true := fun i hi => by
        rcases Nat.lt_or_ge i n1 with h1 | h1
        · cases hb : listed.getD i true with
          | true => rfl
          | false => exact absurd ((hmem i).2 ⟨h1, by omega, hb⟩) (by simp)
        · exact hdone i h1 (by omega)
      have h' : SpecT P ops T S ((ops.toList.take n2).drop (n1 + p)) a w := h
      have hdn : (ops.toList.take n2).drop (n1 + p) = [] := List.drop_eq_nil_of_le (by simp; omega)
      rw [hdn] at h'
      have hf' : fuel + 1 = ops.size - (n1 + p) := by simpa using hf
      rw [hf', hpe]
      exact hT listed a w hsz hall (fun i hi hi' => htl i (by omega) hi') hcl hB (h' w (Below.refl _ _))
    · have hfalse : ∀ i, listed.getD i true = false → listed.getD i false = true → False := fun i h0 h1 => by
        rcases Nat.lt_or_ge i listed.size with h' | h'
        · simp [h'] at h0 h1; rw [h0] at h1; cases h1
        · simp [Array.getElem?_eq_none h'] at h1
      have hwait : ∀ j, j ∈ Region.ready .any ops listed → ∀ oj, ops[j]? = some oj → ∀ i, listed.getD i true = false → ((befGo [] ops.toList).getD j 0).testBit i = true → False := by
        intro j hj oj hoj i hi hb
        obtain ⟨hjun, oj', hoj', hall⟩ := mem_ready.1 hj
        rw [hoj] at hoj'; cases hoj'
        have hc : ∀ k i, (listed.setIfInBounds j true).getD k false = true → ((befGo [] ops.toList).getD k 0).testBit i = true → (listed.setIfInBounds j true).getD i false = true := by
          refine befGo_spec (L := fun k => (listed.setIfInBounds j true).getD k false = true) ops.toList [] (fun j i _ hb => by simp at hb) ?_
          intro k o ho hL e he hbe
          have ho' : ops[k]? = some o := by simpa using ho
          have he' : e ∈ o.after := by simpa using he
          have hL : (listed.setIfInBounds j true).getD k false = true := by simpa using hL
          by_cases hkj : k = j
          · subst hkj
            rw [hoj] at ho'; cases ho'
            exact getD_set_true (hall e he' hbe)
          · rw [getD_set_ne false (Ne.symm hkj)] at hL
            exact getD_set_true (hcl k hL o ho' e he' hbe)
        have hjlt : j < listed.size := by rw [hsz]; exact (Array.getElem?_eq_some_iff.1 hoj).1
        have h1 := hc j i (by simp [hjlt]) hb
        have hij := okLow_spec hlow hb
        rw [getD_set_ne false (by omega)] at h1
        exact hfalse i hi h1
      have hcl' : ∀ j oj, ops[j]? = some oj → (∀ e ∈ oj.after, Region.binds .any e = true → listed.getD e.on false = true) → ∀ k, (listed.setIfInBounds j true).getD k false = true → ∀ o, ops[k]? = some o → ∀ e ∈ o.after, Region.binds .any e = true → (listed.setIfInBounds j true).getD e.on false = true := by
        intro j oj hoj hall k hk o ho e he hb
        by_cases hkj : k = j
        · subst hkj
          rw [hoj] at ho; cases ho
          exact getD_set_true (hall e he hb)
        · rw [getD_set_ne false (Ne.symm hkj)] at hk
          exact getD_set_true (hcl k hk o ho e he hb)
      -- one that is left and may come up
      have hfirst : ∃ i0, i0 < n2 ∧ listed.getD i0 true = false ∧ (∀ i, i < i0 → listed.getD i true = true) := by
        cases rem with
        | nil =>
          have hlt : n1 + p < n2 := by
            rcases Nat.lt_or_ge (n1 + p) n2 with h' | h'
            · exact h'
            · exact absurd ⟨rfl, by omega⟩ hend
          refine ⟨n1 + p, hlt, htl _ (Nat.le_refl _) (by omega), fun i hi => ?_⟩
          rcases Nat.lt_or_ge i n1 with h1 | h1
          · cases hb : listed.getD i true with
            | true => rfl
            | false => exact absurd ((hmem i).2 ⟨h1, by omega, hb⟩) (by simp)
          · exact hdone i h1 hi
        | cons i0 rem0 =>
          have hi0 := (hmem i0).1 List.mem_cons_self
          refine ⟨i0, by omega, hi0.2.2, fun i hi => ?_⟩
          cases hb : listed.getD i true with
          | true => rfl
          | false =>
            rcases List.mem_cons.1 ((hmem i).2 ⟨by omega, by omega, hb⟩) with h' | h'
            · omega
            · have := (List.pairwise_cons.1 hp).1 _ h'; omega
      obtain ⟨i0, hi0n, hi0u, hi0l⟩ := hfirst
      refine ⟨fun hnil => ?_, fun j hj => ?_⟩
      · exfalso
        have : i0 ∈ Region.ready .any ops listed := by
          rw [mem_ready]
          have ho0 : ops[i0]? = some (ops[i0]'(by omega)) := Array.getElem?_eq_getElem (by omega)
          refine ⟨hi0u, _, ho0, fun e he hb => ?_⟩
          have hlt : e.on < i0 := okBack_spec hback ho0 e he hb
          have hlt' : e.on < listed.size := by rw [hsz]; omega
          have := hi0l e.on hlt
          simp [hlt'] at this ⊢
          exact this
        rw [hnil] at this
        cases this
      · obtain ⟨hjun, oj, hoj, hall⟩ := mem_ready.1 hj
        have hjlt : j < ops.size := (Array.getElem?_eq_some_iff.1 hoj).1
        have hdj := noDefer_spec hnd hoj
        rcases Nat.lt_or_ge j n1 with hjn | hjn
        · -- a calm one
          have hm : j ∈ rem := (hmem j).2 ⟨hjn, hjlt, hjun⟩
          obtain ⟨v, gj, hr⟩ := Rem2.take hsel hoj rem a hp hm (fun i hi hij oi hoi => by
            rcases okPairs2_spec hpairs hoi hoj hij (by have := ((hmem i).1 hi).1; omega) with hb | hb
            · exact (hwait j hj oj hoj i ((hmem i).1 hi).2.2 hb).elim
            · exact hb.2.2) h
          refine wpOpIn_of_gives hF hdj hoj gj hB (fun w' hw' => ?_)
          have hnd' : rem.Nodup := hp.imp (fun h => by omega)
          refine ih (rem.erase j) p (listed.setIfInBounds j true) _ w' ?_ hp2 (hp.sublist List.erase_sublist) (fun i => ?_) (by simpa using hsz) (fun i hi hi' => ?_) (fun i hi hi' => ?_) (hcl' j oj hoj hall) (hS _ _ hB hw') (Rem2.imp (fun a h => h.later hw') hr)
          · have hl : (rem.erase j).length = rem.length - 1 := List.length_erase_of_mem hm
            have hpos : 0 < rem.length := List.length_pos_of_mem hm
            omega
          · rw [hnd'.mem_erase_iff, hmem i]
            by_cases hij : i = j
            · subst hij
              have : i < listed.size := by rw [hsz]; exact hjlt
              simp [this]
            · rw [getD_set_ne true (Ne.symm hij)]
              simp [hij]
          · exact getD_set_true' (hdone i hi hi')
          · rw [getD_set_ne true (by omega)]; exact htl i hi hi'
        · -- a special one
          have hjp : n1 + p ≤ j := by
            rcases Nat.lt_or_ge j (n1 + p) with h' | h'
            · rw [hdone j hjn h'] at hjun; cases hjun
            · exact h'
          have hwt : ∀ i oi, ops[i]? = some oi → i < j → i < n2 → listed.getD i true = false → i < n1 ∧ j < n2 ∧ oi.apart ops oj = true := fun i oi hoi hij hin hun => by
            rcases okPairs2_spec hpairs hoi hoj hij hin with hb | hb
            · exact (hwait j hj oj hoj i hun hb).elim
            · exact hb
          have hpn : n1 + p < n2 := by
            rcases Nat.lt_or_ge (n1 + p) n2 with h' | h'
            · exact h'
            · have hij : i0 < j := by omega
              have := hwt i0 _ (Array.getElem?_eq_getElem (by omega)) hij hi0n hi0u
              omega
          have hje : j = n1 + p := by
            rcases Nat.eq_or_lt_of_le hjp with h' | h'
            · exact h'.symm
            · have := hwt (n1 + p) _ (Array.getElem?_eq_getElem (by omega)) h' hpn (htl _ (Nat.le_refl _) (by omega))
              omega
          subst hje
          have hdrop : (ops.toList.take n2).drop (n1 + p) = oj :: (ops.toList.take n2).drop (n1 + (p + 1)) := by
            rw [List.drop_eq_getElem_cons (by simp; omega)]
            congr 1
            have := (Array.getElem?_eq_some_iff.1 hoj).2
            simpa using this
          rw [hdrop] at h
          obtain ⟨hw, hg⟩ := Rem2.specialT hsel hoj rem a (fun i hi oi hoi => (hwt i oi hoi (by have := ((hmem i).1 hi).1; omega) (by have := ((hmem i).1 hi).1; omega) ((hmem i).1 hi).2.2).2.2) h
          unfold wpOpIn
          simp only [hoj, hw, if_true]
          refine wpIn_of_some hF hdj (hg.imp fun u w'' ⟨hb, hr⟩ => ?_)
          refine ih rem (p + 1) (listed.setIfInBounds (n1 + p) true) _ w'' (by omega) (by omega) hp (fun i => ?_) (by simpa using hsz) (fun i hi hi' => ?_) (fun i hi hi' => ?_) (hcl' (n1 + p) oj hoj hall) hb hr
          · rw [hmem i]
            by_cases hij : i = n1 + p
            · subst hij
              constructor
              · intro h; omega
              · intro h; omega
            · rw [getD_set_ne true (Ne.symm hij)]
          · by_cases hij : i = n1 + p
            · subst hij
              have : n1 + p < listed.size := by rw [hsz]; exact hjlt
              simp [this]
            · rw [getD_set_ne true (Ne.symm hij)]; exact hdone i hi (by omega)
          · rw [getD_set_ne true (by omega)]; exact htl i (by omega) hi'


/-- n1 calm operations; special ones up to n2; calm ones behind. -/
theorem region3 {id : Nat} {l : List Oper} {a : Act} {w : World} (n1 n2 : Nat) (hm : P.follows .mixedOrders = true) (hok : ok2 l.toArray n1 n2 = true) (hok' : ok2 l.toArray l.length l.length = true) (hn : decide (n1 ≤ n2 ∧ n2 ≤ l.length) = true)
    (h : Walk2 P l.toArray (Below w.heap.size w) (fun a => SpecT P l.toArray (fun a w1 => Walk2 P l.toArray (Below w1.heap.size w1) (fun a => ∀ w', Below w1.heap.size w1 w' → Q .normal a w') (l.drop n2) a) (Below w.heap.size w) ((l.take n2).drop n1) a w) (l.take n1) a) : (Code.region id l.toArray true).wp P Q a w := by
  obtain ⟨hn1, hn2⟩ := of_decide_eq_true hn
  refine (wpIn_wide (n := 0)).1 (wpIn_region_any hm ?_)
  have hlen : (l.take n1).length = n1 := by simp; omega
  have hS : ∀ (b : World) w w', Below b.heap.size b w → Below w.heap.size w w' → Below b.heap.size b w' := fun b w w' h1 h2 => bthen h1 h2
  have hr := Rem2_of_Walk (ops := l.toArray) (l.take n1) 0 a (fun j => ?_) h
  · rw [hlen] at hr
    have hbd : Below w.heap.size w w.drew := (Below.refl _ _).drew
    refine any3 wide_wide (hS w) hok hn1 (by simpa using hn2) ?_ l.toArray.size (List.range' 0 n1) 0 (Array.replicate l.toArray.size false) a _ ?_ (by omega) List.pairwise_lt_range' ?_ (by simp) (fun i hi hi' => by omega) ?_ ?_ (hS w _ _ (Below.refl _ _) hbd) (Rem2.imp (fun a h => SpecT.later h hbd) hr)
    · intro listed a w1 hsz hall htl hcl hB hT
      have hr2 := Rem2_of_Walk (ops := l.toArray) (l.drop n2) n2 a (fun j => ?_) hT
      · refine any2 wide_wide (hS w1) hok' (by simp [okTail]) (Nat.le_refl _) (by simp) (l.toArray.size - n2) (List.range' n2 (l.drop n2).length) 0 listed a w1 ?_ (by simp) List.pairwise_lt_range' ?_ hsz (fun i hi hi' => by omega) (fun i hi hi' => ?_) hcl (Below.refl _ _) (Rem2.imp (fun a h => ?_) hr2)
        · simp
        · intro i
          simp only [List.mem_range', Nat.one_mul, List.length_drop]
          constructor
          · rintro ⟨k, hk, rfl⟩
            exact ⟨by omega, by simp; omega, htl _ (by omega) (by simp; omega)⟩
          · rintro ⟨h1, h2, h3⟩
            rcases Nat.lt_or_ge i n2 with h' | h'
            · rw [hall i h'] at h3; cases h3
            · exact ⟨i - n2, by omega, by omega⟩
        · simp at hi'; omega
        · have e1 : (l.toArray.toList.take l.length).drop (l.length + 0) = [] := List.drop_eq_nil_of_le (by simp)
          have e2 : l.toArray.toList.drop l.length = [] := List.drop_eq_nil_of_le (by simp)
          rw [e1, e2]
          exact h
      · split
        · rename_i hj
          simp [List.getElem?_drop]
        · rename_i hj
          exact List.getElem?_eq_none (Nat.le_of_not_lt hj)
    · simp; omega
    · intro i
      simp only [List.mem_range', Nat.zero_add, Nat.one_mul]
      constructor
      · rintro ⟨k, hk, rfl⟩
        refine ⟨hk, by simp; omega, ?_⟩
        have : i < l.length := by omega
        simp [this]
      · rintro ⟨h1, h2, _⟩
        exact ⟨i, h1, rfl⟩
    · intro i _ hi; simp at hi; simp [hi]
    · intro j hj
      rcases Nat.lt_or_ge j l.length with h' | h'
      · simp [h'] at hj
      · simp [h'] at hj
  · split
    · rename_i hj
      simp only [Nat.zero_add, List.getElem?_toArray]
      rw [List.getElem?_take_of_lt (by omega)]
    · rename_i hj
      exact List.getElem?_eq_none (Nat.le_of_not_lt hj)
theorem specT_nil {a : Act} {w : World} (h : ∀ w', Below w.heap.size w w' → T a w') : SpecT P ops T S [] a w := h
theorem specT_cons {X : List Oper} {s : Oper} {a : Act} {w : World} (hg : Region.wanted s (yielded ops a.tmps) = true)
    (h : ∀ w', Below w.heap.size w w' → GivesSome P (fun v w'' => S w'' ∧ SpecT P ops T S X (a.put s.dst v) w'') ((execOp a.eval s).run P w')) : SpecT P ops T S (s :: X) a w := ⟨hg, h⟩
end
end Go.Proofs.Ytfmekjpmjefpmaa.Seg2
