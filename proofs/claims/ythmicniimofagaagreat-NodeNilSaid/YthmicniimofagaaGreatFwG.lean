/-
  THE BASE OF THE WALKS (6): slices that are read; lists and their cells. No condition.
-/
import Derived.Test.YthmicniimofagaaGreatFwT
namespace Go.Proofs.YthmicniimofagaaGreat
namespace Fw
set_option linter.unusedSimpArgs false

def I (x : Int) : Value := .int .i64 x
def U (x : Int) : Value := .int .u64 x
def isI64 (x : Int) : Prop := -9223372036854775808 ≤ x ∧ x ≤ 9223372036854775807
def isU64 (x : Int) : Prop := 0 ≤ x ∧ x ≤ 18446744073709551615

/-- The slice v reads as m elements, whose cells are cs. -/
def Rd (L : List Blk) (esz : Nat) (v : Value) (m : Nat) (cs : List Value) : Prop :=
  ∃ p cap, v = .slice p m cap ∧ cs.length = m * esz ∧ m ≤ cap ∧ ((∀ q, p = some q → q.spot = none) ∧ (p = none → cap = 0)) ∧ (m ≠ 0 → ∃ b o A t fz, p = some ⟨b, o, none⟩ ∧ (b, Obj.cells A t fz) ∈ L ∧ Seg A o cs)

theorem Rd.mono {L L' : List Blk} {esz m : Nat} {v : Value} {cs : List Value} (h : Rd L esz v m cs) (hs : ∀ p, p ∈ L → p ∈ L') : Rd L' esz v m cs := by
  obtain ⟨p, cap, h1, h2, h2', h3', h3⟩ := h
  refine ⟨p, cap, h1, h2, h2', h3', fun hm => ?_⟩
  obtain ⟨b, o, A, t, fz, h4, h5, h6⟩ := h3 hm
  exact ⟨b, o, A, t, fz, h4, hs _ h5, h6⟩

theorem Rd.src {L : List Blk} {esz m : Nat} {v : Value} {cs : List Value} (h : Rd L esz v m cs) : SrcIs L esz v m cs := by
  obtain ⟨p, cap, h1, h2, h2', h3', h3⟩ := h
  by_cases hm : m = 0
  · subst hm
    have : cs = [] := List.eq_nil_of_length_eq_zero (by rw [h2]; simp)
    subst this; subst h1
    exact .nil
  · obtain ⟨b, o, A, t, fz, rfl, h5, h6⟩ := h3 hm
    subst h1
    exact .row h5 h6 h2
theorem OwnS.empty {e esz b : Nat} : OwnS e esz (.slice (some ⟨b, 0, none⟩) 0 0) [] [(b, .cells ([] : List Value).toArray e (0, 0))] := .blk (rest := []) (by simp) (by simp) (Nat.le_refl _)

theorem Seg.part {A : Array Value} {o : Nat} {cs : List Value} (h : Seg A o cs) (i k : Nat) (hk : i + k ≤ cs.length) : Seg A (o + i) ((cs.drop i).take k) := by
  intro j hj
  have hjk : j < k := by simp at hj; omega
  rw [List.getElem?_take_of_lt hjk, List.getElem?_drop, ← h (i + j) (by omega)]
  congr 1
  omega

theorem Seg.get {A : Array Value} {o : Nat} {cs : List Value} (h : Seg A o cs) {i : Nat} {v : Value} (hv : cs[i]? = some v) : A[o + i]? = some v := by
  have hlt : i < cs.length := (List.getElem?_eq_some_iff.1 hv).1
  rw [h i hlt, hv]

theorem flat_length {α : Type} {enc : α → List Value} {k : Nat} (hk : ∀ x, (enc x).length = k) (xs : List α) : (xs.flatMap enc).length = xs.length * k := by
  induction xs with
  | nil => simp
  | cons x xs ih => simp [List.flatMap_cons, hk, ih, Nat.add_mul]; omega

theorem flat_part {α : Type} {enc : α → List Value} {k : Nat} (hk : ∀ x, (enc x).length = k) (xs : List α) (i : Nat) (hi : i < xs.length) : ((xs.flatMap enc).drop (i * k)).take k = enc xs[i] := by
  induction xs generalizing i with
  | nil => simp at hi
  | cons x xs ih =>
    cases i with
    | zero => simp [List.flatMap_cons, List.take_append, hk]
    | succ i =>
      have := ih i (by simpa using hi)
      have h1 : (enc x ++ xs.flatMap enc).drop k = xs.flatMap enc := by
        have := List.drop_left (l₁ := enc x) (l₂ := xs.flatMap enc)
        rwa [hk] at this
      rw [List.flatMap_cons, Nat.add_mul, Nat.one_mul, Nat.add_comm (i * k) k, ← List.drop_drop, h1]
      simpa using this

/-- Element i's cells. -/
theorem Seg.elem {α : Type} {enc : α → List Value} {k : Nat} (hk : ∀ x, (enc x).length = k) {A : Array Value} {o : Nat} {xs : List α} (h : Seg A o (xs.flatMap enc)) {i : Nat} (hi : i < xs.length) : Seg A (o + i * k) (enc xs[i]) := by
  have hl := flat_length hk xs
  have h2 : i * k + k ≤ xs.length * k := by
    rw [← Nat.succ_mul]; exact Nat.mul_le_mul_right _ hi
  have := h.part (i * k) k (by omega)
  rwa [flat_part hk xs i hi] at this

theorem flat_one {α : Type} (f : α → Value) (xs : List α) : xs.flatMap (fun x => [f x]) = xs.map f := by
  induction xs <;> simp_all

theorem OwnS.rd {e esz : Nat} {v : Value} {cs : List Value} {B : List Blk} (h : OwnS e esz v cs B) : ∃ m, Rd B esz v m cs ∧ cs.length = m * esz := by
  cases h with
  | nil => exact ⟨0, ⟨none, 0, rfl, by simp, Nat.le_refl _, ⟨(fun _ h => by cases h), fun _ => rfl⟩, fun h => absurd rfl h⟩, by simp⟩
  | @blk b len cap cs rest h hr hle =>
    refine ⟨len, ⟨some ⟨b, 0, none⟩, cap, rfl, h, hle, ⟨(fun _ h => by cases h; rfl), fun h => by cases h⟩, fun _ => ⟨b, 0, _, e, (0, 0), rfl, List.mem_cons_self, fun j hj => ?_⟩⟩, h⟩
    simp [List.getElem?_append, hj]

/-- A slice of a list, each element of k cells. -/
def RdL {α : Type} (L : List Blk) (enc : α → List Value) (k : Nat) (v : Value) (xs : List α) : Prop := Rd L k v xs.length (xs.flatMap enc)
def OwnL {α : Type} (e : Nat) (enc : α → List Value) (k : Nat) (v : Value) (xs : List α) (B : List Blk) : Prop := OwnS e k v (xs.flatMap enc) B

theorem RdL.mono {α : Type} {L L' : List Blk} {enc : α → List Value} {k : Nat} {v : Value} {xs : List α} (h : RdL L enc k v xs) (hs : ∀ p, p ∈ L → p ∈ L') : RdL L' enc k v xs := Rd.mono h hs
theorem OwnL.rd {α : Type} {e : Nat} {enc : α → List Value} {k : Nat} {v : Value} {xs : List α} {B : List Blk} (h : OwnL e enc k v xs B) (hk : ∀ x, (enc x).length = k) (hpos : 0 < k) : RdL B enc k v xs := by
  obtain ⟨m, h1, h2⟩ := OwnS.rd h
  rw [flat_length hk] at h2
  have : m = xs.length := (Nat.eq_of_mul_eq_mul_right hpos h2).symm
  subst this
  exact h1
theorem OwnL.nil {α : Type} {e k : Nat} {enc : α → List Value} : OwnL e enc k (.slice none 0 0) ([] : List α) [] := OwnS.nil

theorem ev_appendL {α : Type} {P : Program} {n : Nat} {E : Env} {O : Out} {L : List Blk} {dst : Option Tmp} {ty : TypeId} {pos : String} {after : Array Edge} {g : Option (Nat × Bool)} {T T2 e k eby : Nat} {enc : α → List Value} {at_ : Array TypeId} {B R : List Blk} {sv xv zv : Value} {xs ys : List α} {ar : List Operand} [ht : TSl P T e k eby] [hz : TZero P e zv] [TNoInt P T2]
    (ha : EvAll E ar [sv, xv]) (h0 : at_[0]? = some T) (h1 : at_[1]? = some T2) (hs : OwnL e enc k sv xs B) (hp : (B ++ R).Perm L) (hx : SrcIs R k xv ys.length (ys.flatMap enc)) (hk : ∀ x, (enc x).length = k) (hone : ∀ x, ∀ v ∈ enc x, v.oneCell' = true)
    (hsz : xs.length + ys.length ≤ 1000000) (hzc : zv.cells.size = k) (hpos : Nat.ble 1 k = true) (hk2 : Nat.ble k 1000 = true) (hby : Nat.ble eby 1000000 = true) :
    EV P ⟨dst, .call { callee := .builtin .append, args := ar.toArray, argTypes := at_ }, ty, pos, after, g⟩ n E O L fun u L' => ∃ B', OwnL e enc k u (xs ++ ys) B' ∧ L' = B' ++ R := by
  have hpos' : 1 ≤ k := by simpa using hpos
  have hk2' : k ≤ 1000 := by simpa using hk2
  have hby' : eby ≤ 1000000 := by simpa using hby
  have hl1 := flat_length hk xs
  have hl2 := flat_length hk ys
  have hsum : (xs.flatMap enc).length + (ys.flatMap enc).length = (xs.length + ys.length) * k := by rw [hl1, hl2, Nat.add_mul]
  have h3 : (xs.length + ys.length) * k ≤ 1000000 * 1000 := Nat.mul_le_mul hsz hk2'
  have h4 : (xs.length + ys.length) * eby ≤ 1000000 * 1000000 := Nat.mul_le_mul hsz hby'
  have := ev_append (P := P) (n := n) (E := E) (O := O) (L := L) (dst := dst) (ty := ty) (pos := pos) (after := after) (g := g) (T := T) (T2 := T2) ha h0 h1 hs hp hx hzc
    (fun v hv => by obtain ⟨x, hx, hv⟩ := List.mem_flatMap.1 hv; exact hone x v hv)
    (by rw [hsum, Nat.mul_assoc, Nat.mul_comm k eby, ← Nat.mul_assoc]; exact Nat.mul_le_mul_right _ (by omega)) (by omega) hpos' (by omega)
  unfold OwnL
  rw [List.flatMap_append]
  exact this

def encI (x : Int) : List Value := [I x]
def encU (x : Int) : List Value := [U x]
end Fw
end Go.Proofs.YthmicniimofagaaGreat
