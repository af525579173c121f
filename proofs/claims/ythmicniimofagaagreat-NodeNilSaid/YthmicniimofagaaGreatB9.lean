/-
  THE LAW of what a slab tells: how great it may be. No program here but the names of its data. No condition.
-/
import Derived.Test.YthmicniimofagaaGreatB8
namespace Go.Proofs.YthmicniimofagaaGreat
open Fw
set_option linter.unusedVariables false

/-- How many bytes the records of these entries have. -/
def weigh (h : List (Bytes × Bytes)) : Nat := (h.map fun t => t.1.length + t.2.length + 7).sum
theorem weigh_del (h : List (Bytes × Bytes)) (k : Bytes) : weigh (delG h k) ≤ weigh h := by
  unfold weigh delG
  induction h with
  | nil => simp
  | cons t h ih =>
    rw [List.filter_cons]
    split
    · simp only [List.map_cons, List.sum_cons]; omega
    · simp only [List.map_cons, List.sum_cons]; omega
theorem weigh_one {h : List (Bytes × Bytes)} {k v : Bytes} (hm : (k, v) ∈ h) : k.length + v.length + 7 ≤ weigh h := by
  unfold weigh
  induction h with
  | nil => cases hm
  | cons t h ih =>
    simp only [List.map_cons, List.sum_cons]
    rcases List.mem_cons.1 hm with hm | hm
    · subst hm; simp only; omega
    · have := ih hm; omega
theorem weigh_put (h : List (Bytes × Bytes)) (k v : Bytes) (hnd : (h.map Prod.fst).Nodup) : weigh (putG h k v) ≤ weigh h + (k.length + v.length + 7) := by
  unfold putG
  split
  · have key : ∀ h : List (Bytes × Bytes), (h.map Prod.fst).Nodup → weigh (h.map fun p => if p.1 = k then (k, v) else p) ≤ weigh h + (k.length + v.length + 7) ∧ (k ∉ h.map Prod.fst → weigh (h.map fun p => if p.1 = k then (k, v) else p) = weigh h) := by
      intro h
      induction h with
      | nil => intro _; simp [weigh]
      | cons t h ih =>
        intro hnd
        simp only [List.map_cons, List.nodup_cons] at hnd
        obtain ⟨i1, i2⟩ := ih hnd.2
        unfold weigh at i1 i2 ⊢
        simp only [List.map_cons, List.sum_cons]
        by_cases ht : t.1 = k
        · rw [if_pos ht]
          have := i2 (ht ▸ hnd.1)
          refine ⟨by simp only; omega, fun hn => absurd (List.mem_cons.2 (.inl ht.symm)) hn⟩
        · rw [if_neg ht]
          refine ⟨by omega, fun hn => by have := i2 (fun hm => hn (List.mem_cons_of_mem _ hm)); omega⟩
    exact (key h hnd).1
  · unfold weigh
    simp
theorem nextF_eats {p : Bytes} {k : UInt8} {n v r : Bytes} (h : nextF p = some (k, n, v, r)) : r.length + (n.length + v.length + 7) = p.length := by
  unfold nextF at h
  split at h
  · cases h
  · split at h
    · cases h
    · rename_i h2
      split at h
      · cases h
      · simp only [Option.some.injEq, Prod.mk.injEq] at h
        obtain ⟨_, rfl, rfl, rfl⟩ := h
        have h3 : ¬ p.length < beN (p.take 4) + 5 := fun h => h2 (.inr (.inl h))
        simp only [List.length_take, List.length_drop]
        omega
structure TaleOk (t : Tale) (w : Nat) : Prop where
  life : isU32 t.life
  nd : (t.has.map Prod.fst).Nodup
  small : ∀ e ∈ t.has, e.1.length ≤ 255
  weight : weigh t.has ≤ w
theorem tellN_ok : ∀ (f : Nat) (first : Bool) (t : Tale) (p : Bytes) (w : Nat), TaleOk t w → TaleOk (tellN f first t p) (w + p.length)
  | 0, first, t, p, w, h => ⟨h.life, h.nd, h.small, by have := h.weight; show weigh t.has ≤ _; omega⟩
  | f + 1, first, t, p, w, h => by
    have hsame : TaleOk t (w + p.length) := ⟨h.life, h.nd, h.small, by have := h.weight; omega⟩
    cases hn : nextF p with
    | none => rw [tellN_none hn]; exact hsame
    | some r =>
      obtain ⟨k, name, val, rest⟩ := r
      have he := nextF_eats hn
      obtain ⟨_, _, hnl⟩ := nextF_some hn
      have up : ∀ {u : Tale} {x : Nat}, TaleOk u x → x + rest.length ≤ w + p.length → ∀ b, TaleOk (tellN f b u rest) (w + p.length) := by
        intro u x hu hx b
        have := tellN_ok f b u rest x hu
        exact ⟨this.life, this.nd, this.small, Nat.le_trans this.weight hx⟩
      rw [tellN_some hn]
      split
      · exact hsame
      · split
        · split
          · exact hsame
          · rename_i h4
            have h4 : val.length = 4 := by omega
            have hlt := beN_lt 4 val h4
            exact up (u := ⟨beN val, t.shut, t.has⟩) (x := w) ⟨⟨by show 0 ≤ (beN val : Int); omega, by show (beN val : Int) ≤ _; omega⟩, h.nd, h.small, h.weight⟩ (by omega) _
        · split
          · refine up (u := ⟨t.life, t.shut, putG t.has name val⟩) (x := w + (name.length + val.length + 7)) ⟨h.life, putG_nd h.nd, ?_, ?_⟩ (by omega) _
            · rintro ⟨k2, v2⟩ hm
              rcases mem_putG.1 hm with ⟨rfl, _⟩ | ⟨_, hm⟩
              · exact hnl
              · exact h.small _ hm
            · have h1 := weigh_put t.has name val h.nd
              have h2 := h.weight
              show weigh (putG t.has name val) ≤ _
              omega
          · split
            · refine up (u := ⟨t.life, t.shut, delG t.has name⟩) (x := w) ⟨h.life, delG_nd h.nd, ?_, ?_⟩ (by omega) _
              · rintro ⟨k2, v2⟩ hm
                exact h.small _ (mem_delG.1 hm).2
              · exact Nat.le_trans (weigh_del t.has name) h.weight
            · split
              · exact up (u := ⟨t.life, true, t.has⟩) (x := w) ⟨h.life, h.nd, h.small, h.weight⟩ (by omega) _
              · exact hsame
theorem tell_ok (p : Bytes) : TaleOk (tell p) p.length := by
  have := tellN_ok (p.length + 1) true ⟨0, false, []⟩ p 0 ⟨⟨by decide, by decide⟩, by simp, fun e he => (by cases he), by simp [weigh]⟩
  rwa [Nat.zero_add] at this
theorem entries_weigh (h : List (Bytes × Bytes)) (hnd : (h.map Prod.fst).Nodup) : (entriesF h (namesOf h)).length = weigh h := by
  have h1 : ∀ ns : List Bytes, (entriesF h ns).length = (ns.map fun n => n.length + ((getG h n).getD []).length + 7).sum := by
    intro ns
    unfold entriesF
    induction ns with
    | nil => rfl
    | cons n ns ih => rw [List.flatMap_cons, List.length_append, ih, recF_len, List.map_cons, List.sum_cons]
  rw [h1, (List.Perm.map _ (namesOf_perm h)).sum_nat, List.map_map]
  unfold weigh
  congr 1
  refine List.map_congr_left fun t ht => ?_
  simp only [Function.comp]
  have : getG h t.1 = some t.2 := (getG_some hnd).2 ht
  rw [this]; rfl
theorem compactB_len (l : Lb) (hnd : (l.has.map Prod.fst).Nodup) : (compactB l).length = weigh l.has + 18 := by
  unfold compactB
  rw [List.length_append, List.length_append, entries_weigh _ hnd, recF_len, recF_len, numF_len]
  simp only [List.length_nil]
  omega
theorem weigh_count (h : List (Bytes × Bytes)) : h.length ≤ weigh h := by
  unfold weigh
  induction h with
  | nil => simp
  | cons t h ih => simp only [List.length_cons, List.map_cons, List.sum_cons]; omega
end Go.Proofs.YthmicniimofagaaGreat