/-
  THE PLAIN LAW of a logbook over two slabs: what the slab on which it is tells, whatever is torn off; what the other one tells. Conditions: sizes.
-/
import Derived.Test.YtcbbogaanebefaaB16
namespace Go.Proofs.Ytcbbogaanebefaa
open Fw
set_option linter.unusedVariables false
set_option linter.unusedSimpArgs false

/-! ### what is kept, as a function of the name -/
abbrev Kept := List (Bytes × Bytes)
def SameG (a b : Kept) : Prop := ∀ k, getG a k = getG b k
theorem SameG.rfl' (a : Kept) : SameG a a := fun _ => rfl
theorem SameG.symm {a b : Kept} (h : SameG a b) : SameG b a := fun k => (h k).symm
theorem SameG.trans {a b c : Kept} (h : SameG a b) (h2 : SameG b c) : SameG a c := fun k => (h k).trans (h2 k)
theorem getG_cons (p : Bytes × Bytes) (l : Kept) (k : Bytes) : getG (p :: l) k = if p.1 = k then some p.2 else getG l k := by
  unfold getG
  rw [List.find?_cons]
  by_cases h : p.1 = k <;> simp [h]
theorem getG_app (a : Kept) (p : Bytes × Bytes) (k : Bytes) : getG (a ++ [p]) k = (getG a k).or (if p.1 = k then some p.2 else none) := by
  induction a with
  | nil => rw [List.nil_append, getG_cons]; simp [getG]
  | cons q a ih =>
    rw [List.cons_append, getG_cons, getG_cons, ih]
    split <;> rfl
theorem getG_put (l : Kept) (k c k' : Bytes) : getG (putG l k c) k' = if k' = k then some c else getG l k' := by
  unfold putG
  split
  · rename_i h
    have key : ∀ l : Kept, getG (l.map fun p => if p.1 = k then (k, c) else p) k' = if k' = k then (if hasG l k = true then some c else none) else getG l k' := by
      intro l
      induction l with
      | nil => simp [getG, hasG]
      | cons p l ih =>
        rw [List.map_cons, getG_cons, ih]
        have hh : hasG (p :: l) k = (decide (p.1 = k) || hasG l k) := by simp [hasG]
        rw [getG_cons, hh]
        by_cases h1 : p.1 = k
        · rw [if_pos h1]
          by_cases h2 : k' = k
          · simp [h1, h2]
          · have h3 : ¬ k = k' := fun h => h2 h.symm
            simp [h1, h2, h3]
        · rw [if_neg h1]
          by_cases h2 : k' = k
          · simp [h1, h2]
          · simp [h1, h2]
    rw [key]
    simp [h]
  · rename_i h
    rw [getG_app]
    by_cases h2 : k' = k
    · subst h2
      have : getG l k' = none := by
        cases h3 : getG l k' with
        | none => rfl
        | some v =>
          have := getG_has (l := l) (k := k')
          rw [h3] at this
          exact absurd this.symm (by simpa using h)
      simp [this]
    · have h3 : ¬ k = k' := fun h => h2 h.symm
      simp [h2, h3]
theorem getG_del (l : Kept) (k k' : Bytes) : getG (delG l k) k' = if k' = k then none else getG l k' := by
  unfold delG
  induction l with
  | nil => simp [getG]
  | cons p l ih =>
    rw [List.filter_cons, getG_cons]
    by_cases h1 : p.1 = k
    · have : decide (p.1 ≠ k) = false := by simp [h1]
      rw [this, if_neg (by decide), ih]
      by_cases h2 : k' = k
      · simp [h2]
      · have h3 : ¬ p.1 = k' := fun h => h2 (by rw [← h, h1])
        simp [h2, h3]
    · have : decide (p.1 ≠ k) = true := by simp [h1]
      rw [this, if_pos rfl, getG_cons, ih]
      by_cases h2 : k' = k
      · subst h2; simp [h1]
      · simp [h2]
theorem SameG.put {a b : Kept} (h : SameG a b) (k c : Bytes) : SameG (putG a k c) (putG b k c) := fun k' => by rw [getG_put, getG_put, h]
theorem SameG.del {a b : Kept} (h : SameG a b) (k : Bytes) : SameG (delG a k) (delG b k) := fun k' => by rw [getG_del, getG_del, h]
theorem SameG.has {a b : Kept} (h : SameG a b) (k : Bytes) : hasG a k = hasG b k := by rw [← getG_has, ← getG_has, h]
theorem SameG.perm : ∀ {a b : Kept}, (a.map Prod.fst).Nodup → (b.map Prod.fst).Nodup → SameG a b → a.Perm b
  | [], b, _, hb, h => by
    cases b with
    | nil => exact .nil
    | cons p b =>
      have := h p.1
      rw [getG_cons, if_pos rfl] at this
      cases this
  | p :: a, b, ha, hb, h => by
    have hm : (p.1, p.2) ∈ b := (getG_some hb).1 (by rw [← h, getG_cons, if_pos rfl])
    obtain ⟨b1, b2, rfl⟩ := List.append_of_mem hm
    have hp : (b1 ++ p :: b2).Perm (p :: (b1 ++ b2)) := List.perm_middle
    have hb2 : ((p :: (b1 ++ b2)).map Prod.fst).Nodup := (hp.map Prod.fst).nodup_iff.1 hb
    simp only [List.map_cons, List.nodup_cons] at ha hb2
    refine List.Perm.trans (List.Perm.cons p (SameG.perm ha.2 hb2.2 fun k => ?_)) hp.symm
    have h1 := h k
    have h2 : getG (b1 ++ p :: b2) k = getG (p :: (b1 ++ b2)) k := by
      cases hg : getG (p :: (b1 ++ b2)) k with
      | some v =>
        have hmem := (getG_some (by simpa only [List.map_cons, List.nodup_cons] using hb2)).1 hg
        exact (getG_some hb).2 (hp.mem_iff.2 hmem)
      | none =>
        refine getG_none.2 fun hm2 => getG_none.1 hg ?_
        exact (hp.map Prod.fst).mem_iff.1 hm2
    rw [h2, getG_cons, getG_cons] at h1
    by_cases hk : p.1 = k
    · subst hk
      rw [getG_none.2 ha.1, getG_none.2 hb2.1]
    · rwa [if_neg hk, if_neg hk] at h1
theorem weigh_perm {a b : Kept} (h : a.Perm b) : weigh a = weigh b := by
  unfold weigh
  exact (h.map _).sum_nat
/-- Names and values that a record may have. -/
def KeptOk (h : Kept) : Prop := ∀ k v, getG h k = some v → k.length ≤ 255 ∧ v.length ≤ 4096
theorem KeptOk.put {h : Kept} (hk : KeptOk h) {n v : Bytes} (hn : n.length ≤ 255) (hv : v.length ≤ 4096) : KeptOk (putG h n v) := fun k w hg => by
  rw [getG_put] at hg
  split at hg
  · rename_i he; subst he; cases hg; exact ⟨hn, hv⟩
  · exact hk k w hg
theorem KeptOk.del {h : Kept} (hk : KeptOk h) (n : Bytes) : KeptOk (delG h n) := fun k w hg => by
  rw [getG_del] at hg
  split at hg
  · cases hg
  · exact hk k w hg
theorem KeptOk.same {a b : Kept} (h : SameG a b) (hk : KeptOk b) : KeptOk a := fun k v hg => hk k v (by rw [← h]; exact hg)

/-! ### what records tell -/
theorem fold_life : ∀ (rs : List Rec) (t : Tale), (rs.foldl tellT t).life = t.life
  | [], t => rfl
  | r :: rs, t => by
    rw [List.foldl_cons, fold_life rs]
    unfold tellT
    split
    · rfl
    · split <;> rfl
theorem fold_shut : ∀ (rs : List Rec) (t : Tale), t.shut = true → (rs.foldl tellT t).shut = true
  | [], t, h => h
  | r :: rs, t, h => by
    rw [List.foldl_cons]
    refine fold_shut rs _ ?_
    unfold tellT
    split
    · exact h
    · split
      · exact h
      · rfl
theorem fold_nd : ∀ (rs : List Rec) (t : Tale), (t.has.map Prod.fst).Nodup → ((rs.foldl tellT t).has.map Prod.fst).Nodup
  | [], t, h => h
  | r :: rs, t, h => by
    rw [List.foldl_cons]
    refine fold_nd rs _ ?_
    unfold tellT
    split
    · exact putG_nd h
    · split
      · exact delG_nd h
      · exact h
theorem fold_put : ∀ (ns : List Bytes) (g : Bytes → Bytes) (t : Tale), ((ns.map fun n => ((2 : UInt8), n, g n)).foldl tellT t).shut = t.shut ∧ ∀ k, getG ((ns.map fun n => ((2 : UInt8), n, g n)).foldl tellT t).has k = if k ∈ ns then some (g k) else getG t.has k
  | [], g, t => ⟨rfl, fun k => by simp⟩
  | n :: ns, g, t => by
    rw [List.map_cons, List.foldl_cons]
    obtain ⟨h1, h2⟩ := fold_put ns g (tellT t (2, n, g n))
    have e : tellT t (2, n, g n) = ⟨t.life, t.shut, putG t.has n (g n)⟩ := rfl
    refine ⟨by rw [h1, e], fun k => ?_⟩
    rw [h2, e]
    simp only [getG_put, List.mem_cons]
    by_cases hk : k ∈ ns
    · simp [hk]
    · by_cases hn : k = n
      · subst hn; simp
      · simp [hk, hn]
def compactR (has : Kept) : List Rec := ((namesOf has).map fun n => ((2 : UInt8), n, (getG has n).getD [])) ++ [(4, [], [])]
theorem compactB_log (l : Lb) : compactB l = beginB (l.life + 1) ++ logB (compactR l.has) := by
  unfold compactB compactR entriesF beginB
  rw [logB_app, List.append_assoc]
  have e1 : logB ((namesOf l.has).map fun n => ((2 : UInt8), n, (getG l.has n).getD [])) = (namesOf l.has).flatMap fun n => recF 2 n ((getG l.has n).getD []) := by
    unfold logB
    rw [List.flatMap_map]
    rfl
  have e2 : logB [(4, [], [])] = recF 4 [] [] := by simp [logB, recB]
  rw [e1, e2]
theorem compactR_ok {has : Kept} (hk : KeptOk has) : ∀ r ∈ compactR has, tailOk r := by
  intro r hr
  unfold compactR at hr
  rcases List.mem_append.1 hr with hr | hr
  · obtain ⟨n, hn, rfl⟩ := List.mem_map.1 hr
    have hm : n ∈ has.map Prod.fst := (namesOf_perm has).mem_iff.1 hn
    cases hg : getG has n with
    | none => exact absurd hm (getG_none.1 hg)
    | some v => exact ⟨by have := hk n v hg; exact ⟨this.1, by simpa [hg] using this.2⟩, .inl rfl⟩
  · obtain rfl : r = (4, [], []) := by simpa using hr
    exact ⟨⟨by simp, by simp⟩, .inr (.inr rfl)⟩
theorem compactR_tale (has : Kept) (life : Int) : ∃ H, (compactR has).foldl tellT ⟨life, false, []⟩ = ⟨life, true, H⟩ ∧ SameG H has := by
  unfold compactR
  rw [List.foldl_append]
  obtain ⟨h1, h2⟩ := fold_put (namesOf has) (fun n => (getG has n).getD []) ⟨life, false, []⟩
  have h3 := fold_life ((namesOf has).map fun n => ((2 : UInt8), n, (getG has n).getD [])) ⟨life, false, []⟩
  refine ⟨_, ?_, fun k => (h2 k).trans ?_⟩
  · rw [List.foldl_cons, List.foldl_nil]
    generalize ((namesOf has).map fun n => ((2 : UInt8), n, (getG has n).getD [])).foldl tellT ⟨life, false, []⟩ = t at h3
    unfold tellT
    rw [if_neg (by decide), if_neg (by decide), h3]
  · have hm : k ∈ namesOf has ↔ k ∈ has.map Prod.fst := (namesOf_perm has).mem_iff
    cases hg : getG has k with
    | none =>
      rw [if_neg (fun h => getG_none.1 hg (hm.1 h))]
      simp [getG]
    | some v =>
      rw [if_pos (hm.2 (Decidable.byContradiction fun h => by rw [getG_none.2 h] at hg; cases hg))]
      rfl
theorem compactR_part (has : Kept) (life : Int) (j : Nat) (hj : j < (compactR has).length) : (((compactR has).take j).foldl tellT ⟨life, false, []⟩).shut = false := by
  unfold compactR at hj ⊢
  rw [List.length_append, List.length_map, List.length_singleton] at hj
  rw [List.take_append_of_le_length (by rw [List.length_map]; omega), ← List.map_take]
  exact (fold_put ((namesOf has).take j) (fun n => (getG has n).getD []) ⟨life, false, []⟩).1

end Go.Proofs.Ytcbbogaanebefaa