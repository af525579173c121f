/-
  THE BASE OF THE WALKS (M): an element of an owned slice, turned in place. Condition: each element has as many cells.
-/
import Derived.Test.YthmicniimofagaaGreatFwL
namespace Go.Proofs.YthmicniimofagaaGreat
namespace Fw
theorem SetSeg.app {l l' vs : List Value} {o : Nat} (h : SetSeg l o vs l') (r : List Value) : SetSeg (l ++ r) o vs (l' ++ r) := by
  induction h with
  | done => exact .done
  | take _ ih => exact .take ih
  | skip _ ih => exact .skip ih
theorem SetSeg.pre {l l' vs : List Value} {o : Nat} (h : SetSeg l o vs l') : ∀ (p : List Value), SetSeg (p ++ l) (p.length + o) vs (p ++ l')
  | [] => by simpa using h
  | c :: p => by
    have := SetSeg.pre h p
    rw [List.length_cons, show p.length + 1 + o = p.length + o + 1 from by omega]
    exact .skip this
theorem setSeg_flat {α : Type} {enc : α → List Value} {k : Nat} (hk : ∀ x, (enc x).length = k) {vs : List Value} {o : Nat} {y : α} (rest : List Value) :
    ∀ (xs : List α) (i : Nat) (hi : i < xs.length), SetSeg (enc xs[i]) o vs (enc y) → SetSeg (xs.flatMap enc ++ rest) (i * k + o) vs ((xs.set i y).flatMap enc ++ rest)
  | x :: xs, 0, _, h => by
    rw [List.set_cons_zero, List.flatMap_cons, List.flatMap_cons, List.append_assoc, List.append_assoc, Nat.zero_mul, Nat.zero_add]
    exact SetSeg.app h _
  | x :: xs, i + 1, hi, h => by
    have ih := setSeg_flat hk rest xs i (by simpa using hi) h
    rw [List.set_cons_succ, List.flatMap_cons, List.flatMap_cons, List.append_assoc, List.append_assoc, Nat.add_mul, Nat.one_mul, Nat.add_comm (i * k) k, Nat.add_assoc]
    have := SetSeg.pre ih (enc x)
    rwa [hk] at this
theorem OwnL.view {α : Type} {e k : Nat} {enc : α → List Value} {v : Value} {xs : List α} {B : List Blk} (h : OwnL e enc k v xs B) (hk : ∀ x, (enc x).length = k) (hpos : 0 < k) (hne : 0 < xs.length) :
    ∃ b cap rest, v = .slice (some ⟨b, 0, none⟩) xs.length cap ∧ B = [(b, .cells (xs.flatMap enc ++ rest).toArray e (0, 0))] ∧ (xs.flatMap enc ++ rest).length = cap * k ∧ xs.length ≤ cap := by
  have hl := flat_length hk xs
  unfold OwnL at h
  generalize hcs : xs.flatMap enc = cs at h hl
  cases h with
  | nil =>
    have : 0 < xs.length * k := Nat.mul_pos hne hpos
    simp only [List.length_nil] at hl
    omega
  | @blk b len cap _ rest h1 h2 h3 =>
    have : len = xs.length := Nat.eq_of_mul_eq_mul_right hpos (by rw [← h1, hl])
    subst this
    exact ⟨b, cap, rest, rfl, rfl, h2, h3⟩
theorem OwnL.of {α : Type} {e k b cap : Nat} {enc : α → List Value} {xs : List α} {rest : List Value} (hk : ∀ x, (enc x).length = k) (h : (xs.flatMap enc ++ rest).length = cap * k) (hle : xs.length ≤ cap) :
    OwnL e enc k (.slice (some ⟨b, 0, none⟩) xs.length cap) xs [(b, .cells (xs.flatMap enc ++ rest).toArray e (0, 0))] := .blk (flat_length hk xs) h hle
theorem seg_pre {cs rest : List Value} : Seg (cs ++ rest).toArray 0 cs := by
  intro i hi
  rw [Nat.zero_add, List.getElem?_toArray, List.getElem?_append_left hi]
end Fw
end Go.Proofs.YthmicniimofagaaGreat
