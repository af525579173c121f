/-
  THE PLAIN LAW of the document's entries: sorted by their names, put in their place, dropped. No program here but the names of its data. No condition.
-/
import Derived.Test.YtcbbogaanebefaaB28
namespace Go.Proofs.Ytcbbogaanebefaa
open Fw
open Go.Proofs (encStr)
set_option linter.unusedVariables false
set_option linter.unusedSimpArgs false

/-- The entries, by rising names. -/
def srt (h : Kept) : Kept := (namesOf h).map fun n => (n, (getG h n).getD [])
/-- What put lays, of what is left. -/
def putGo (x : Bytes × Bytes) : Kept → Bool → Kept
  | [], done => if done = true then [] else [x]
  | y :: l, done => (if done = false ∧ x.1 ≤ y.1 then [x] else []) ++ (if y.1 ≠ x.1 then [y] else []) ++ putGo x l (done || decide (x.1 ≤ y.1))
def dropGo (n : Bytes) (l : Kept) : Kept := l.filter fun t => decide (t.1 ≠ n)
def Srt (l : Kept) : Prop := l.Pairwise fun a b => a.1 < b.1
theorem lt_irr (a : Bytes) : ¬ a < a := List.lt_irrefl a
theorem lt_of_le_ne {a b : Bytes} (h : a ≤ b) (hn : a ≠ b) : a < b := by
  refine Decidable.byContradiction fun h2 => hn (List.le_antisymm h (List.not_lt.1 h2))
theorem Srt.nodup {l : Kept} (h : Srt l) : l.Nodup := h.imp fun {a b} hlt he => by subst he; exact lt_irr _ hlt
theorem Srt.keys {l : Kept} (h : Srt l) : (l.map Prod.fst).Nodup := by
  unfold List.Nodup
  rw [List.pairwise_map]
  exact h.imp fun {a b} hlt he => by rw [he] at hlt; exact lt_irr _ hlt
theorem Srt.ext {l m : Kept} (hl : Srt l) (hm : Srt m) (h : ∀ p, p ∈ l ↔ p ∈ m) : l = m := by
  have hp : l.Perm m := (List.perm_ext_iff_of_nodup hl.nodup hm.nodup).2 h
  exact hp.eq_of_pairwise (le := fun a b : Bytes × Bytes => a.1 < b.1) (fun a b _ _ h1 h2 => absurd (List.lt_trans h1 h2) (lt_irr _)) hl hm
theorem names_sorted (h : Kept) (hnd : (h.map Prod.fst).Nodup) : (namesOf h).Pairwise (· < ·) := by
  have h1 : (namesOf h).Pairwise fun a b => leB a b = true := List.pairwise_mergeSort (fun a b c h1 h2 => by simp only [leB, decide_eq_true_eq] at *; exact List.le_trans h1 h2) (fun a b => by simp only [leB, Bool.or_eq_true, decide_eq_true_eq]; exact List.le_total a b) _
  have h2 : (namesOf h).Nodup := (namesOf_perm h).nodup_iff.2 hnd
  have h3 := h1.and h2
  exact h3.imp fun {a b} h => lt_of_le_ne (by simpa [leB] using h.1) h.2
theorem srt_srt (h : Kept) (hnd : (h.map Prod.fst).Nodup) : Srt (srt h) := by
  unfold Srt srt
  rw [List.pairwise_map]
  exact names_sorted h hnd
theorem mem_srt {h : Kept} (hnd : (h.map Prod.fst).Nodup) {p : Bytes × Bytes} : p ∈ srt h ↔ p ∈ h := by
  unfold srt
  rw [List.mem_map]
  constructor
  · rintro ⟨n, hn, rfl⟩
    have hn2 := (namesOf_perm h).mem_iff.1 hn
    cases hg : getG h n with
    | none => exact absurd hn2 (getG_none.1 hg)
    | some v => exact (getG_some hnd).1 hg
  · intro hp
    refine ⟨p.1, (namesOf_perm h).mem_iff.2 (List.mem_map_of_mem (f := Prod.fst) hp), ?_⟩
    rw [(getG_some hnd).2 (show (p.1, p.2) ∈ h from hp)]
    rfl
theorem putGo_mem (x : Bytes × Bytes) : ∀ (l : Kept) (done : Bool), Srt l → (done = true → ∀ y ∈ l, x.1 ≤ y.1) → ∀ p, p ∈ putGo x l done ↔ (done = false ∧ p = x) ∨ (p.1 ≠ x.1 ∧ p ∈ l)
  | [], done, _, _, p => by cases done <;> simp [putGo]
  | y :: l, done, hs, hd, p => by
    have hs2 := List.pairwise_cons.1 hs
    have ih := putGo_mem x l (done || decide (x.1 ≤ y.1)) hs2.2 (fun hdone z hz => by
      have hyz := hs2.1 z hz
      simp only [Bool.or_eq_true, decide_eq_true_eq] at hdone
      rcases hdone with h | h
      · exact hd h z (List.mem_cons_of_mem _ hz)
      · exact List.le_trans h (List.le_of_lt hyz)) p
    have mi : ∀ (c : Prop) [Decidable c] (z : Bytes × Bytes), p ∈ (if c then [z] else []) ↔ c ∧ p = z := fun c _ z => by split <;> simp_all
    have e1 : (y.1 ≠ x.1 ∧ p = y) ↔ (p.1 ≠ x.1 ∧ p = y) := ⟨by rintro ⟨h, rfl⟩; exact ⟨h, rfl⟩, by rintro ⟨h, rfl⟩; exact ⟨h, rfl⟩⟩
    have e2 : (done || decide (x.1 ≤ y.1)) = false ↔ done = false ∧ ¬ x.1 ≤ y.1 := by rw [Bool.or_eq_false_iff, decide_eq_false_iff_not]
    rw [putGo, List.mem_append, List.mem_append, ih, mi, mi, e1, e2, List.mem_cons]
    generalize (done = false) = A
    generalize (x.1 ≤ y.1) = B
    generalize (p = x) = C
    generalize (p.1 ≠ x.1) = D
    generalize (p = y) = E
    generalize (p ∈ l) = F
    by_cases hA : A <;> by_cases hB : B <;> by_cases hC : C <;> by_cases hD : D <;> simp [hA, hB, hC, hD]
theorem putGo_srt (x : Bytes × Bytes) : ∀ (l : Kept) (done : Bool), Srt l → (done = true → ∀ y ∈ l, x.1 ≤ y.1) → Srt (putGo x l done)
  | [], done, _, _ => by cases done <;> simp [putGo, Srt]
  | y :: l, done, hs, hd => by
    have hs2 := List.pairwise_cons.1 hs
    have hd2 : (done || decide (x.1 ≤ y.1)) = true → ∀ z ∈ l, x.1 ≤ z.1 := fun hdone z hz => by
      have hyz := hs2.1 z hz
      simp only [Bool.or_eq_true, decide_eq_true_eq] at hdone
      rcases hdone with h | h
      · exact hd h z (List.mem_cons_of_mem _ hz)
      · exact List.le_trans h (List.le_of_lt hyz)
    have ih := putGo_srt x l (done || decide (x.1 ≤ y.1)) hs2.2 hd2
    have hm := putGo_mem x l (done || decide (x.1 ≤ y.1)) hs2.2 hd2
    rw [putGo]
    by_cases hle : x.1 ≤ y.1
    · have hrest : ∀ z, z ∈ putGo x l (done || decide (x.1 ≤ y.1)) → y.1 < z.1 := fun z hz => by
        rcases (hm z).1 hz with ⟨h, _⟩ | ⟨_, h⟩
        · simp [hle] at h
        · exact hs2.1 z h
      have h2 : Srt ((if y.1 ≠ x.1 then [y] else []) ++ putGo x l (done || decide (x.1 ≤ y.1))) := by
        split
        · exact List.pairwise_cons.2 ⟨hrest, ih⟩
        · exact ih
      rw [List.append_assoc]
      split
      · refine List.pairwise_cons.2 ⟨fun z hz => ?_, h2⟩
        replace hz : z ∈ (if y.1 ≠ x.1 then [y] else []) ++ putGo x l (done || decide (x.1 ≤ y.1)) := hz
        rcases List.mem_append.1 hz with hz | hz
        · split at hz
          · rename_i hne
            have : z = y := by simpa using hz
            subst this
            exact lt_of_le_ne hle (fun h => hne h.symm)
          · cases hz
        · exact Std.lt_of_le_of_lt hle (hrest z hz)
      · exact h2
    · rw [if_neg (fun h => hle h.2), List.nil_append]
      have hyx : y.1 < x.1 := List.not_le.1 hle
      have hne : y.1 ≠ x.1 := fun h => by rw [h] at hyx; exact lt_irr _ hyx
      rw [if_pos hne]
      refine List.pairwise_cons.2 ⟨fun z hz => ?_, ih⟩
      rcases (hm z).1 hz with ⟨_, h⟩ | ⟨_, h⟩
      · rw [h]; exact hyx
      · exact hs2.1 z h
theorem srt_put (h : Kept) (hnd : (h.map Prod.fst).Nodup) (n v : Bytes) : putGo (n, v) (srt h) false = srt (putG h n v) := by
  have hs := srt_srt h hnd
  have hd : false = true → ∀ y ∈ srt h, n ≤ y.1 := fun h => by cases h
  refine (putGo_srt (n, v) _ _ hs hd).ext (srt_srt _ (putG_nd hnd)) fun p => ?_
  rw [putGo_mem (n, v) _ _ hs hd, mem_srt (putG_nd hnd), mem_srt hnd]
  obtain ⟨k, c⟩ := p
  rw [mem_putG]
  simp only [true_and, Prod.mk.injEq]
theorem srt_del (h : Kept) (hnd : (h.map Prod.fst).Nodup) (n : Bytes) : dropGo n (srt h) = srt (delG h n) := by
  refine Srt.ext ((srt_srt h hnd).sublist List.filter_sublist) (srt_srt _ (delG_nd hnd)) fun p => ?_
  obtain ⟨k, c⟩ := p
  rw [mem_srt (delG_nd hnd), mem_delG, dropGo, List.mem_filter, mem_srt hnd]
  simp [and_comm]
theorem srt_has (h : Kept) (hnd : (h.map Prod.fst).Nodup) (n : Bytes) : ((srt h).any fun t => decide (t.1 = n)) = hasG h n := by
  rw [Bool.eq_iff_iff, List.any_eq_true, hasG_iff]
  constructor
  · rintro ⟨p, hp, he⟩
    have he : p.1 = n := by simpa using he
    rw [← he]
    exact List.mem_map_of_mem (f := Prod.fst) ((mem_srt hnd).1 hp)
  · intro hm
    obtain ⟨p, hp, rfl⟩ := List.mem_map.1 hm
    exact ⟨p, (mem_srt hnd).2 hp, by simp⟩
theorem srt_len (h : Kept) : (srt h).length = h.length := by unfold srt; rw [List.length_map, namesOf_len]
theorem srt_nil : srt [] = [] := by simp [srt, namesOf_nil]
theorem srt_get {h : Kept} {k : Nat} (hk : k < (srt h).length) : (srt h)[k] = ((namesOf h)[k]'(by rw [srt_len] at hk; rw [namesOf_len]; exact hk), (getG h ((namesOf h)[k]'(by rw [srt_len] at hk; rw [namesOf_len]; exact hk))).getD []) := by
  simp only [srt, List.getElem_map]
theorem putGo_a {x y : Bytes × Bytes} {l : Kept} (h : x.1 ≤ y.1) : putGo x (y :: l) false = [x] ++ ((if y.1 ≠ x.1 then [y] else []) ++ putGo x l true) := by
  rw [putGo, if_pos ⟨rfl, h⟩, List.append_assoc, decide_eq_true h]; rfl
theorem putGo_b {x y : Bytes × Bytes} {l : Kept} (h : ¬ x.1 ≤ y.1) : putGo x (y :: l) false = (if y.1 ≠ x.1 then [y] else []) ++ putGo x l false := by
  rw [putGo, if_neg (fun h2 => h h2.2), decide_eq_false h]; rfl
theorem putGo_d {x y : Bytes × Bytes} {l : Kept} : putGo x (y :: l) true = (if y.1 ≠ x.1 then [y] else []) ++ putGo x l true := by
  rw [putGo, if_neg (fun h2 => by cases h2.1)]; rfl
end Go.Proofs.Ytcbbogaanebefaa