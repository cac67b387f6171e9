/- Regions that draw their order, a fourth law: calm operations anywhere, special ones in whatever order they come up, then the rest in the text's order. -/
import Derived.Test.YtfmekjpmjefpmaaSeg3
namespace Go.Proofs.Ytfmekjpmjefpmaa.Seg2
open Go Go.RowKit Go.Proofs.Ytfmekjpmjefpmaa.Seg

section
variable {F : Fence} {n : Nat} {P : Program} {ops : Array Oper} {S : World → Prop} {K : Act → Prop} {Q : Exit → Act → World → Prop}

/-- Special operations, each as it comes up; R: those that are left. -/
def SpecD (S : World → Prop) (F : Fence) (n : Nat) (P : Program) (ops : Array Oper) (Q : Exit → Act → World → Prop) (tail : List Oper) : Nat → List Nat → Act → World → Prop
  | 0, _, a, w => ∀ w', Below w.heap.size w w' → wpListIn F n P ops Q tail a w'
  | m + 1, R, a, w => ∀ j ∈ R, (∀ i ∈ R, ((befGo [] ops.toList).getD j 0).testBit i = false) → ∀ s, ops[j]? = some s →
      Region.wanted s (yielded ops a.tmps) = true ∧ ∀ w', Below w.heap.size w w' →
        GivesSome P (fun v w'' => S w'' ∧ SpecD S F n P ops Q tail m (R.erase j) (a.put s.dst v) w'') ((execOp a.eval s).run P w')
theorem SpecD.later {tail : List Oper} : ∀ {m : Nat} {R : List Nat} {a : Act} {w w1 : World}, SpecD S F n P ops Q tail m R a w → Below w.heap.size w w1 → SpecD S F n P ops Q tail m R a w1
  | 0, _, _, _, _, h, hb => fun w' hw => h w' (bthen hb hw)
  | _ + 1, _, _, _, _, h, hb => fun j hj hr s hs => ⟨(h j hj hr s hs).1, fun w' hw => (h j hj hr s hs).2 w' (bthen hb hw)⟩

/-- Neither sees the other. -/
def Far (ops : Array Oper) (x y : Oper) : Prop := x.apart ops y = true ∨ y.apart ops x = true
theorem Far.symm {x y : Oper} (h : Far ops x y) : Far ops y x := Or.symm h

theorem Rem2.specialD (hsel : Region.noSelect ops = true) {tail : List Oper} {m j : Nat} {R : List Nat} {s : Oper} (hj : ops[j]? = some s) (hjR : j ∈ R) (hR : ∀ i ∈ R, ((befGo [] ops.toList).getD j 0).testBit i = false) {w : World} : ∀ (rem : List Nat) (a : Act),
    (∀ i ∈ rem, ∀ oi, ops[i]? = some oi → Far ops oi s) → Rem2 P ops S (fun a => SpecD S F n P ops Q tail (m + 1) R a w) rem a →
    Region.wanted s (yielded ops a.tmps) = true ∧ GivesSome P (fun v w'' => S w'' ∧ Rem2 P ops S (fun a => SpecD S F n P ops Q tail m (R.erase j) a w'') rem (a.put s.dst v)) ((execOp a.eval s).run P w) := by
  intro rem
  induction rem with
  | nil =>
    intro a _ h
    have h' : SpecD S F n P ops Q tail (m + 1) R a w := h
    exact ⟨(h' j hjR hR s hj).1, (h' j hjR hR s hj).2 w (Below.refl _ _)⟩
  | cons i rem ih =>
    intro a hap h
    obtain ⟨oi, vi, hi, gi, hr⟩ := h
    have hfar := hap i List.mem_cons_self oi hi
    have hseli := fun cs b => Region.noSelect_spec hsel i oi cs b hi
    have hsels := fun cs b => Region.noSelect_spec hsel j s cs b hj
    obtain ⟨hw, hg⟩ := ih _ (fun k hk => hap k (List.mem_cons_of_mem _ hk)) hr
    rcases hfar with hfar | hfar
    · obtain ⟨h1, h2, h3⟩ := Oper.apart_spec hfar
      rw [wanted_put s a oi.dst vi h1] at hw
      rw [execOp_put s hsels a oi.dst vi h1] at hg
      refine ⟨hw, hg.imp fun u w'' ⟨hb, hu⟩ => ⟨hb, oi, vi, hi, gi.of_same (execOp_put oi hseli a s.dst u h3) (wanted_put oi a s.dst u h3), ?_⟩⟩
      rw [← Act.put_comm a vi u h2]
      exact hu
    · obtain ⟨h3, h2, h1⟩ := Oper.apart_spec hfar
      rw [wanted_put s a oi.dst vi h1] at hw
      rw [execOp_put s hsels a oi.dst vi h1] at hg
      refine ⟨hw, hg.imp fun u w'' ⟨hb, hu⟩ => ⟨hb, oi, vi, hi, gi.of_same (execOp_put oi hseli a s.dst u h3) (wanted_put oi a s.dst u h3), ?_⟩⟩
      rw [Act.put_comm a u vi h2]
      exact hu

def okPairsD (ops : Array Oper) (Bf : List Nat) (Ss : List Nat) (n2 : Nat) : Bool :=
  (List.range ops.size).all fun j => match ops[j]? with
    | none => true
    | some oj => (List.range (min j n2)).all fun i =>
        if n2 ≤ j then (Bf.getD j 0).testBit i
        else (Ss.contains i && Ss.contains j) || ((!Ss.contains i && (Bf.getD j 0).testBit i) || match ops[i]? with
          | some oi => oi.apart ops oj
          | none => true)
def okD (ops : Array Oper) (Ss : List Nat) (n2 : Nat) : Bool := noDefer ops && (Region.noSelect ops && okBack ops && okLow ops (befGo [] ops.toList) && okPairsD ops (befGo [] ops.toList) Ss n2)
theorem okPairsD_spec {Bf : List Nat} {Ss : List Nat} {n2 : Nat} (h : okPairsD ops Bf Ss n2 = true) {i j : Nat} {oi oj : Oper} (hi : ops[i]? = some oi) (hj : ops[j]? = some oj) (hij : i < j) (hin : i < n2) :
    (n2 ≤ j ∧ (Bf.getD j 0).testBit i = true) ∨ (j < n2 ∧ ((i ∈ Ss ∧ j ∈ Ss) ∨ (i ∉ Ss ∧ (Bf.getD j 0).testBit i = true) ∨ oi.apart ops oj = true)) := by
  unfold okPairsD at h
  rw [List.all_eq_true] at h
  have h1 := h j (List.mem_range.2 (Array.getElem?_eq_some_iff.1 hj).1)
  simp only [hj, List.all_eq_true, List.mem_range] at h1
  have h2 := h1 i (by omega)
  by_cases hn : n2 ≤ j
  · rw [if_pos hn] at h2
    exact .inl ⟨hn, h2⟩
  · rw [if_neg hn] at h2
    simp only [hi, Bool.or_eq_true, Bool.and_eq_true, List.contains_iff_mem, Bool.not_eq_true'] at h2
    refine .inr ⟨by omega, ?_⟩
    rcases h2 with h2 | h2 | h2
    · exact .inl h2
    · exact .inr (.inl ⟨fun hm => by have := List.contains_iff_mem.2 hm; rw [this] at h2; simp at h2, h2.2⟩)
    · exact .inr (.inr h2)

theorem anyD {Ss : List Nat} {n2 : Nat} (hF : Wide F) (hS : ∀ w w', S w → Below w.heap.size w w' → S w') (hok : okD ops Ss n2 = true) (ht : okTail ops n2 = true) (hn2 : n2 ≤ ops.size) (hSs : ∀ i ∈ Ss, i < n2) :
    ∀ (fuel : Nat) (rem R : List Nat) (listed : Array Bool) (a : Act) (w : World), fuel = rem.length + R.length + (ops.size - n2) → rem.Pairwise (· < ·) → R.Nodup →
      (∀ i, i ∈ rem ↔ i < n2 ∧ i ∉ Ss ∧ listed.getD i true = false) → (∀ i, i ∈ R ↔ i ∈ Ss ∧ listed.getD i true = false) → listed.size = ops.size → (∀ i, n2 ≤ i → i < ops.size → listed.getD i true = false) →
      (∀ j, listed.getD j false = true → ∀ o, ops[j]? = some o → ∀ e ∈ o.after, Region.binds .any e = true → listed.getD e.on false = true) → S w →
      Rem2 P ops S (fun a => SpecD S F n P ops Q (ops.toList.drop n2) R.length R a w) rem a → wpAnyIn F n P .any ops Q fuel listed a w := by
  simp only [okD, Bool.and_eq_true] at hok
  obtain ⟨hnd, ⟨⟨hsel, hback⟩, hlow⟩, hpairs⟩ := hok
  have hend : ∀ (listed : Array Bool) (a : Act) (w : World), (∀ i, i ∈ ([] : List Nat) ↔ i < n2 ∧ i ∉ Ss ∧ listed.getD i true = false) → (∀ i, i ∈ ([] : List Nat) ↔ i ∈ Ss ∧ listed.getD i true = false) → listed.size = ops.size → (∀ i, n2 ≤ i → i < ops.size → listed.getD i true = false) →
      wpListIn F n P ops Q (ops.toList.drop n2) a w → wpAnyIn F n P .any ops Q (ops.size - n2) listed a w := fun listed a w hmem hmemR hsz htl h => by
    have hall : ∀ i, i < n2 → listed.getD i true = true := fun i hi => by
      cases hb : listed.getD i true with
      | true => rfl
      | false =>
        by_cases hm : i ∈ Ss
        · exact absurd ((hmemR i).2 ⟨hm, hb⟩) (by simp)
        · exact absurd ((hmem i).2 ⟨hi, hm, hb⟩) (by simp)
    exact any_tailIn ht (ops.size - n2) listed a w hsz (by omega) hn2 (fun i hi => hall i (by omega)) (fun i hi hi' => htl i (by omega) hi') (by rw [show ops.size - (ops.size - n2) = n2 by omega]; exact h)
  intro fuel
  induction fuel with
  | zero =>
    intro rem R listed a w hf hp hpR hmem hmemR hsz htl hcl hB h
    have hr : rem = [] := List.eq_nil_of_length_eq_zero (by omega)
    have hrR : R = [] := List.eq_nil_of_length_eq_zero (by omega)
    subst hr
    subst hrR
    have h0 := hend listed a w hmem hmemR hsz htl (by have h' : SpecD S F n P ops Q (ops.toList.drop n2) 0 [] a w := h; exact h' w (Below.refl _ _))
    rw [show ops.size - n2 = 0 by omega] at h0
    exact h0
  | succ fuel ih =>
    intro rem R listed a w hf hp hpR hmem hmemR hsz htl hcl hB h
    by_cases hfin : rem = [] ∧ R = []
    · obtain ⟨rfl, rfl⟩ := hfin
      have hf' : fuel + 1 = ops.size - n2 := by simpa using hf
      rw [hf']
      exact hend listed a w hmem hmemR hsz htl (by have h' : SpecD S F n P ops Q (ops.toList.drop n2) 0 [] a w := h; exact h' w (Below.refl _ _))
    · have hfalse : ∀ i, listed.getD i true = false → listed.getD i false = true → False := fun i h0 h1 => by
        rcases Nat.lt_or_ge i listed.size with h' | h'
        · simp [h'] at h0 h1; rw [h0] at h1; cases h1
        · simp [Array.getElem?_eq_none h'] at h1
      have hwait : ∀ j, j ∈ Region.ready .any ops listed → ∀ oj, ops[j]? = some oj → ∀ i, listed.getD i true = false → ((befGo [] ops.toList).getD j 0).testBit i = true → False := by
        intro j hj oj hoj i hi hb
        obtain ⟨hjun, oj', hoj', hall⟩ := mem_ready.1 hj
        rw [hoj] at hoj'; cases hoj'
        have hc : ∀ k i, (listed.setIfInBounds j true).getD k false = true → ((befGo [] ops.toList).getD k 0).testBit i = true → (listed.setIfInBounds j true).getD i false = true := by
          refine befGo_spec (L := fun k => (listed.setIfInBounds j true).getD k false = true) ops.toList [] (fun j i _ hb => by simp at hb) ?_
          intro k o ho hL e he hbe
          have ho' : ops[k]? = some o := by simpa using ho
          have he' : e ∈ o.after := by simpa using he
          have hL : (listed.setIfInBounds j true).getD k false = true := by simpa using hL
          by_cases hkj : k = j
          · subst hkj
            rw [hoj] at ho'; cases ho'
            exact getD_set_true (hall e he' hbe)
          · rw [getD_set_ne false (Ne.symm hkj)] at hL
            exact getD_set_true (hcl k hL o ho' e he' hbe)
        have hjlt : j < listed.size := by rw [hsz]; exact (Array.getElem?_eq_some_iff.1 hoj).1
        have h1 := hc j i (by simp [hjlt]) hb
        have hij := okLow_spec hlow hb
        rw [getD_set_ne false (by omega)] at h1
        exact hfalse i hi h1
      have hcl' : ∀ j oj, ops[j]? = some oj → (∀ e ∈ oj.after, Region.binds .any e = true → listed.getD e.on false = true) → ∀ k, (listed.setIfInBounds j true).getD k false = true → ∀ o, ops[k]? = some o → ∀ e ∈ o.after, Region.binds .any e = true → (listed.setIfInBounds j true).getD e.on false = true := by
        intro j oj hoj hall k hk o ho e he hb
        by_cases hkj : k = j
        · subst hkj
          rw [hoj] at ho; cases ho
          exact getD_set_true (hall e he hb)
        · rw [getD_set_ne false (Ne.symm hkj)] at hk
          exact getD_set_true (hcl k hk o ho e he hb)
      have hleft : ∃ i, i < n2 ∧ listed.getD i true = false := by
        cases rem with
        | cons i rem => exact ⟨i, ((hmem i).1 List.mem_cons_self).1, ((hmem i).1 List.mem_cons_self).2.2⟩
        | nil =>
          cases R with
          | cons i R => exact ⟨i, hSs i ((hmemR i).1 List.mem_cons_self).1, ((hmemR i).1 List.mem_cons_self).2⟩
          | nil => exact absurd ⟨rfl, rfl⟩ hfin
      -- the least that is left
      have hfirst : ∃ i0, i0 < n2 ∧ listed.getD i0 true = false ∧ (∀ i, i < i0 → listed.getD i true = true) := by
        obtain ⟨i1, hi1, hu1⟩ := hleft
        have : ∀ k, ∀ i, i < k → i < n2 → listed.getD i true = false → ∃ i0, i0 < n2 ∧ listed.getD i0 true = false ∧ (∀ i, i < i0 → listed.getD i true = true) := by
          intro k
          induction k with
          | zero => intro i hi; omega
          | succ k ihk =>
            intro i hi hin hu
            by_cases hex : ∃ i', i' < i ∧ listed.getD i' true = false
            · obtain ⟨i', h1, h2⟩ := hex
              exact ihk i' (by omega) (by omega) h2
            · refine ⟨i, hin, hu, fun i' hi' => ?_⟩
              cases hb : listed.getD i' true with
              | true => rfl
              | false => exact absurd ⟨i', hi', hb⟩ hex
        exact this (i1 + 1) i1 (by omega) hi1 hu1
      obtain ⟨i0, hi0n, hi0u, hi0l⟩ := hfirst
      refine ⟨fun hnil => ?_, fun j hj => ?_⟩
      · exfalso
        have : i0 ∈ Region.ready .any ops listed := by
          rw [mem_ready]
          have ho0 : ops[i0]? = some (ops[i0]'(by omega)) := Array.getElem?_eq_getElem (by omega)
          refine ⟨hi0u, _, ho0, fun e he hb => ?_⟩
          have hlt : e.on < i0 := okBack_spec hback ho0 e he hb
          have hlt' : e.on < listed.size := by rw [hsz]; omega
          have := hi0l e.on hlt
          simp [hlt'] at this ⊢
          exact this
        rw [hnil] at this
        cases this
      · obtain ⟨hjun, oj, hoj, hall⟩ := mem_ready.1 hj
        have hjlt : j < ops.size := (Array.getElem?_eq_some_iff.1 hoj).1
        have hdj := noDefer_spec hnd hoj
        have hjn : j < n2 := by
          rcases Nat.lt_or_ge j n2 with h' | h'
          · exact h'
          · rcases okPairsD_spec hpairs (Array.getElem?_eq_getElem (by omega : i0 < ops.size)) hoj (by omega) hi0n with hb | hb
            · exact (hwait j hj oj hoj i0 hi0u hb.2).elim
            · omega
        by_cases hjS : j ∈ Ss
        · -- a special one
          have hjR : j ∈ R := (hmemR j).2 ⟨hjS, hjun⟩
          have hRne : R.length = R.length - 1 + 1 := by have := List.length_pos_of_mem hjR; omega
          have hR : ∀ i ∈ R, ((befGo [] ops.toList).getD j 0).testBit i = false := fun i hi => by
            cases hb : ((befGo [] ops.toList).getD j 0).testBit i with
            | false => rfl
            | true => exact (hwait j hj oj hoj i ((hmemR i).1 hi).2 hb).elim
          rw [hRne] at h
          obtain ⟨hw, hg⟩ := Rem2.specialD hsel hoj hjR hR rem a (fun i hi oi hoi => by
            obtain ⟨hin, hiS, hiu⟩ := (hmem i).1 hi
            rcases Nat.lt_or_ge i j with hij | hij
            · rcases okPairsD_spec hpairs hoi hoj hij hin with hb | ⟨_, hb | hb | hb⟩
              · omega
              · exact absurd hb.1 hiS
              · exact (hwait j hj oj hoj i hiu hb.2).elim
              · exact .inl hb
            · have hne : i ≠ j := fun e => hiS (e ▸ hjS)
              rcases okPairsD_spec hpairs hoj hoi (by omega) hjn with hb | ⟨_, hb | hb | hb⟩
              · omega
              · exact absurd hb.2 hiS
              · exact absurd hjS hb.1
              · exact .inr hb) h
          unfold wpOpIn
          simp only [hoj, hw, if_true]
          refine wpIn_of_some hF hdj (hg.imp fun u w'' ⟨hb, hr⟩ => ?_)
          have hle : (R.erase j).length = R.length - 1 := List.length_erase_of_mem hjR
          rw [← hle] at hr
          refine ih rem (R.erase j) (listed.setIfInBounds j true) _ w'' (by have := List.length_pos_of_mem hjR; omega) hp (hpR.erase j) (fun i => ?_) (fun i => ?_) (by simpa using hsz) (fun i hi hi' => ?_) (hcl' j oj hoj hall) hb hr
          · rw [hmem i]
            by_cases hij : i = j
            · subst hij
              constructor
              · intro h; exact absurd hjS h.2.1
              · intro h; exact absurd hjS h.2.1
            · rw [getD_set_ne true (Ne.symm hij)]
          · rw [hpR.mem_erase_iff, hmemR i]
            by_cases hij : i = j
            · subst hij
              have : i < listed.size := by rw [hsz]; exact hjlt
              simp [this]
            · rw [getD_set_ne true (Ne.symm hij)]
              simp [hij]
          · rw [getD_set_ne true (by omega)]; exact htl i hi hi'
        · -- a calm one
          have hm : j ∈ rem := (hmem j).2 ⟨hjn, hjS, hjun⟩
          obtain ⟨v, gj, hr⟩ := Rem2.take hsel hoj rem a hp hm (fun i hi hij oi hoi => by
            obtain ⟨hin, hiS, hiu⟩ := (hmem i).1 hi
            rcases okPairsD_spec hpairs hoi hoj hij hin with hb | ⟨_, hb | hb | hb⟩
            · omega
            · exact absurd hb.1 hiS
            · exact (hwait j hj oj hoj i hiu hb.2).elim
            · exact hb) h
          refine wpOpIn_of_gives hF hdj hoj gj hB (fun w' hw' => ?_)
          have hnd' : rem.Nodup := hp.imp (fun h => by omega)
          refine ih (rem.erase j) R (listed.setIfInBounds j true) _ w' ?_ (hp.sublist List.erase_sublist) hpR (fun i => ?_) (fun i => ?_) (by simpa using hsz) (fun i hi hi' => ?_) (hcl' j oj hoj hall) (hS _ _ hB hw') (Rem2.imp (fun a h => h.later hw') hr)
          · have hl : (rem.erase j).length = rem.length - 1 := List.length_erase_of_mem hm
            have hpos : 0 < rem.length := List.length_pos_of_mem hm
            omega
          · rw [hnd'.mem_erase_iff, hmem i]
            by_cases hij : i = j
            · subst hij
              have : i < listed.size := by rw [hsz]; exact hjlt
              simp [this]
            · rw [getD_set_ne true (Ne.symm hij)]
              simp [hij]
          · rw [hmemR i]
            by_cases hij : i = j
            · subst hij
              constructor
              · intro h; exact absurd h.1 hjS
              · intro h; exact absurd h.1 hjS
            · rw [getD_set_ne true (Ne.symm hij)]
          · rw [getD_set_ne true (by omega)]; exact htl i hi hi'

/-- The calm ones, in the text's order. -/
def WalkD (P : Program) (ops : Array Oper) (S : World → Prop) (K : Act → Prop) : List Nat → Act → Prop
  | [], a => K a
  | i :: rest, a => match ops[i]? with
    | none => False
    | some o => ∃ v, Gives2 P ops S o v a ∧ WalkD P ops S K rest (a.put o.dst v)
theorem Rem2_of_WalkD : ∀ (l : List Nat) (a : Act), WalkD P ops S K l a → Rem2 P ops S K l a
  | [], _, h => h
  | i :: rest, a, h => by
    unfold WalkD at h
    split at h
    · exact h.elim
    · rename_i o ho
      obtain ⟨v, g, h⟩ := h
      exact ⟨o, v, ho, g, Rem2_of_WalkD rest _ h⟩
/-- The calm operations as a list. -/
theorem WalkD_of_Walk : ∀ (l : List Nat) (L : List Oper) (a : Act), l.map (fun i => ops[i]?) = L.map some → Walk2 P ops S K L a → WalkD P ops S K l a
  | [], [], _, _, h => h
  | [], _ :: _, _, h, _ => by simp at h
  | _ :: _, [], _, h, _ => by simp at h
  | i :: l, o :: L, a, h, hw => by
    simp only [List.map_cons, List.cons.injEq] at h
    obtain ⟨v, g, hw⟩ := hw
    unfold WalkD
    rw [h.1]
    exact ⟨v, g, WalkD_of_Walk l L _ h.2 hw⟩

theorem at_places (l : List Oper) : ∀ (C : List Nat), (∀ i ∈ C, i < l.length) → C.map (fun i => l.toArray[i]?) = (C.filterMap (fun i => l[i]?)).map some
  | [], _ => rfl
  | i :: C, h => by
    have hi := h i List.mem_cons_self
    have e : l[i]? = some l[i] := List.getElem?_eq_getElem hi
    rw [List.map_cons, at_places l C (fun j hj => h j (List.mem_cons_of_mem _ hj)), List.filterMap_cons_some e, List.map_cons]
    simp [e]
/-- **A region that draws its order**: calm operations (places C), special ones (places R), the rest from n2 on. -/
theorem regionD {id : Nat} {l : List Oper} {a : Act} {w : World} (n2 : Nat) (C R : List Nat) (hF : Wide F) (hm : P.follows .mixedOrders = true) (hok : okD l.toArray R n2 = true) (ht : okTail l.toArray n2 = true)
    (hC : (List.range n2).filter (fun i => !R.contains i) = C) (hR : decide (n2 ≤ l.length ∧ R.Nodup ∧ ∀ i ∈ R, i < n2) = true)
    (h : Walk2 P l.toArray (Below w.heap.size w) (fun a => SpecD (Below w.heap.size w) F n P l.toArray Q (l.drop n2) R.length R a w) (C.filterMap (fun i => l[i]?)) a) : (Code.region id l.toArray true).wpIn F n P Q a w := by
  obtain ⟨hn2, hRn, hRl⟩ := of_decide_eq_true hR
  refine wpIn_region_any hm ?_
  have hr := Rem2_of_WalkD C a (WalkD_of_Walk C _ a (at_places l C (fun i hi => by rw [← hC] at hi; simp at hi; omega)) h)
  have hbd : Below w.heap.size w w.drew := (Below.refl _ _).drew
  have hlen : C.length + R.length = n2 := by
    have h1 : (List.range n2).Perm (C ++ R) := by
      rw [← hC]
      refine (List.perm_ext_iff_of_nodup List.nodup_range ?_).2 (fun i => ?_)
      · rw [List.nodup_append]
        refine ⟨List.nodup_range.filter _, hRn, fun x hx y hy e => ?_⟩
        subst e
        simp at hx
        exact hx.2 hy
      · simp
        constructor
        · intro h
          by_cases hi : i ∈ R
          · exact .inr hi
          · exact .inl ⟨h, hi⟩
        · rintro (h | h)
          · exact h.1
          · exact hRl i h
    have := h1.length_eq
    simp at this
    omega
  refine anyD hF (fun w1 w2 h1 h2 => bthen h1 h2) hok ht (by simpa using hn2) hRl l.toArray.size C R (Array.replicate l.toArray.size false) a _ ?_ ?_ hRn (fun i => ?_) (fun i => ?_) (by simp) (fun i _ hi => ?_) (fun j hj => ?_) hbd (Rem2.imp (fun a h => SpecD.later h hbd) hr)
  · simp; omega
  · rw [← hC]; exact List.pairwise_lt_range.filter _
  · rw [← hC]
    simp
    intro hi _
    have : i < l.length := by omega
    simp [this]
  · constructor
    · intro hi
      have := hRl i hi
      have : i < l.length := by omega
      exact ⟨hi, by simp [this]⟩
    · intro hi; exact hi.1
  · simp at hi; simp [hi]
  · rcases Nat.lt_or_ge j l.length with h' | h'
    · simp [h'] at hj
    · simp [h'] at hj
end
end Go.Proofs.Ytfmekjpmjefpmaa.Seg2
