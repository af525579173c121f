/-
  THE BASE OF THE WALKS (L): a slice that came in, of elements of one size, as a list. Condition: each element's cells are an encoding.
-/
import Derived.Test.YthmicniimofagaaGreatFwK
import Derived.DataElems
namespace Go.Proofs.YthmicniimofagaaGreat
namespace Fw
open Go.RowKit Go.ChangeShapes
/-- What is asked of a slice that came in: its elements are there. -/
def RdW {α : Type} (L : List Blk) (enc : α → List Value) (v : Value) (xs : List α) : Prop :=
  ∃ p cap, v = .slice p xs.length cap ∧ (xs.length ≠ 0 → ∃ b o A t fz, p = some ⟨b, o, none⟩ ∧ (b, Obj.cells A t fz) ∈ L ∧ Seg A o (xs.flatMap enc))
theorem RdL.w {α : Type} {L : List Blk} {enc : α → List Value} {k : Nat} {v : Value} {xs : List α} (h : RdL L enc k v xs) : RdW L enc v xs := by
  obtain ⟨p, cap, h1, _, _, _, h5⟩ := h
  exact ⟨p, cap, h1, h5⟩
theorem RdW.mono {α : Type} {L L' : List Blk} {enc : α → List Value} {v : Value} {xs : List α} (h : RdW L enc v xs) (hs : ∀ p, p ∈ L → p ∈ L') : RdW L' enc v xs := by
  obtain ⟨p, cap, h1, h5⟩ := h
  refine ⟨p, cap, h1, fun hm => ?_⟩
  obtain ⟨b, o, A, t, fz, h4, h5, h6⟩ := h5 hm
  exact ⟨b, o, A, t, fz, h4, hs _ h5, h6⟩
theorem list_of {α : Type} {Q : Nat → α → Prop} : ∀ (n : Nat), (∀ i, i < n → ∃ y, Q i y) → ∃ ys : List α, ys.length = n ∧ ∀ i (h : i < ys.length), Q i ys[i]
  | 0, _ => ⟨[], rfl, fun i h => by simp at h⟩
  | n + 1, h => by
    obtain ⟨ys, h1, h2⟩ := list_of n (fun i hi => h i (by omega))
    obtain ⟨y, hy⟩ := h n (by omega)
    refine ⟨ys ++ [y], by simp [h1], fun i hi => ?_⟩
    by_cases hlt : i < ys.length
    · rw [List.getElem_append_left hlt]; exact h2 i hlt
    · have : i = n := by simp at hi; omega
      subst this
      rw [List.getElem_append_right (by omega)]
      simpa [h1] using hy
theorem cells_get {w : World} {base k : Nat} {a : Addr} {cs : List Value} (h : w.cells? base a k = some cs) : cs.length = k ∧ ∀ i, i < k → w.cell? (a.add i) = cs[i]? := by
  unfold World.cells? at h
  split at h
  · exact ⟨by simpa using mapM_some_length h, fun i hi => mapM_some_get h i i (by simp [hi])⟩
  · cases h
theorem rdW_of_trod {H : Type} {enc : TypeId × Value → H} {P : Program} {w : World} {base : Nat} {sp : Nat → Bool} {held : Bool} {α : Type} {enc' : α → List Value} {Good : α → Prop} {k t e fuel : Nat} {v : Value} {x : DataW H × List MemPlace}
    (hlen : ∀ y, (enc' y).length = k) (ht : P.underlying t = some (.slice e)) (hk : P.cellsOf e = k) (hpos : 0 < k)
    (helem : ∀ (fuel : Nat) (cs : List Value) (x : DataW H × List MemPlace), DataW.trod enc P w base sp held fuel e cs = some x → ∃ y, cs = enc' y ∧ Good y)
    (h : DataW.trod enc P w base sp held fuel t [v] = some x) : ∃ ys, RdW (allBlks w) enc' v ys ∧ (∀ y ∈ ys, Good y) ∧ ys.length ≤ maxLen := by
  rcases DataW.trod_slice ht h with ⟨hc, _⟩ | ⟨a, len, cap, elems, rest, n, _, hc, _, _, hl, hm, hel, hget, _, _⟩
  · have : v = .slice none 0 0 := by simpa using hc
    subst this
    exact ⟨[], ⟨none, 0, rfl, fun h => absurd rfl h⟩, fun y hy => by simp at hy, by simp⟩
  · have hv : v = .slice (some a) len cap := by simpa using hc
    subst hv
    have hq : ∀ i, i < len → ∃ y, (∀ j, j < k → w.cell? (a.add (i * k + j)) = (enc' y)[j]?) ∧ Good y := by
      intro i hi
      have h1 := hget i hi
      rw [List.getElem?_eq_getElem (by omega), hk] at h1
      obtain ⟨cs, h2, h3⟩ := Option.bind_eq_some_iff.1 h1
      obtain ⟨y, rfl, hy⟩ := helem _ _ _ h3
      refine ⟨y, fun j hj => ?_, hy⟩
      have h4 := (cells_get h2).2 j hj
      rw [← h4, Addr.add_add]
    obtain ⟨ys, h1, h2⟩ := list_of len hq
    refine ⟨ys, ⟨some a, cap, by rw [h1], fun hne => ?_⟩, fun y hy => ?_, by omega⟩
    · have h0 : 0 < ys.length := by omega
      have hcell : ∀ i (hi : i < ys.length) j, j < k → ∃ u, w.cell? (a.add (i * k + j)) = some u ∧ (enc' ys[i])[j]? = some u := by
        intro i hi j hj
        have h3 := (h2 i hi).1 j hj
        have h4 : (enc' ys[i])[j]? = some ((enc' ys[i])[j]'(by rw [hlen]; exact hj)) := List.getElem?_eq_getElem _
        exact ⟨_, h3.trans h4, h4⟩
      obtain ⟨u, hu, _⟩ := hcell 0 h0 0 hpos
      obtain ⟨b, o, s⟩ := a
      unfold World.cell? at hu
      simp only [show ∀ n : Nat, ((⟨b, o, s⟩ : Addr).add n).block = b from fun n => by unfold Addr.add; split <;> rfl] at hu
      cases hb : w.heap[b]? with
      | none => simp [hb] at hu
      | some ob =>
        cases ob with
        | cells A t fz =>
          have hs : s = none := by
            cases s with
            | none => rfl
            | some _ => simp [hb, Addr.add] at hu
          subst hs
          have hadd : ∀ n : Nat, (⟨b, o, none⟩ : Addr).add n = ⟨b, o + n, none⟩ := fun n => by unfold Addr.add; split <;> simp_all
          refine ⟨b, o, A, t, fz, rfl, mem_allBlks.2 hb, fun j hj => ?_⟩
          rw [flat_length hlen] at hj
          have hi : j / k < ys.length := Nat.div_lt_of_lt_mul (by rw [Nat.mul_comm]; exact hj)
          have hr : j % k < k := Nat.mod_lt _ hpos
          obtain ⟨u, h5, h6⟩ := hcell (j / k) hi (j % k) hr
          have hjj : j / k * k + j % k = j := Nat.div_add_mod' j k
          rw [hjj] at h5
          have h7 := flat_part hlen ys (j / k) hi
          rw [← h7, List.getElem?_take, if_pos hr, List.getElem?_drop, hjj] at h6
          rw [h6]
          simpa [World.cell?, hadd, hb] using h5
        | _ => simp [hb] at hu
    · obtain ⟨i, hi, rfl⟩ := List.mem_iff_getElem.1 hy
      exact (h2 i hi).2
end Fw
end Go.Proofs.YthmicniimofagaaGreat
