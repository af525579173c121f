/-
  THE LAW of a plan: it can be paid, channel by channel; behind it all channels hold what they held, the node has its fees less, and nobody else has less. No program here but the names of its data. Condition: the web's numbers are of their kinds.
-/
import Derived.Test.YtjimpciiaceleaaA25
namespace Go.Proofs.Ytjimpciiaceleaa
open Fw
set_option linter.unusedVariables false

/-! ### sums -/
theorem sumM_sum : ∀ (l : List Int) (s : Int), isU64 s → (∀ x ∈ l, isU64 x) → (s + l.sum < 18446744073709551616 → sumM s l = (s + l.sum, 0)) ∧ ((sumM s l).2 = 0 → s + l.sum < 18446744073709551616)
  | [], s, hs, _ => by
    unfold isU64 at hs
    simp only [List.sum_nil, Int.add_zero]
    exact ⟨fun _ => rfl, fun _ => by omega⟩
  | x :: l, s, hs, hx => by
    have h1 := hx x List.mem_cons_self
    have hl : 0 ≤ l.sum := by
      have : ∀ (l : List Int), (∀ x ∈ l, isU64 x) → 0 ≤ l.sum := by
        intro l
        induction l with
        | nil => intro _; simp
        | cons y l ih =>
          intro h
          have h2 := ih (fun z hz => h z (List.mem_cons_of_mem _ hz))
          have h3 := h y List.mem_cons_self
          unfold isU64 at h3
          rw [List.sum_cons]; omega
      exact this l (fun z hz => hx z (List.mem_cons_of_mem _ hz))
    rw [List.sum_cons]
    by_cases h : s + x < 18446744073709551616
    · have ha : addM s x = (s + x, 0) := by rw [addM, if_pos h]
      have ih := sumM_sum l (s + x) (by unfold isU64 at *; omega) (fun z hz => hx z (List.mem_cons_of_mem _ hz))
      rw [sumM_cons (by rw [ha]), ha, ← Int.add_assoc]
      exact ih
    · have ha : addM s x = (0, 11) := by rw [addM, if_neg h]
      rw [sumM_stop (by rw [ha]; decide), ha]
      exact ⟨fun h2 => by omega, fun h2 => by simp at h2⟩
theorem sum_nonneg : ∀ {l : List Int} (_ : ∀ x ∈ l, 0 ≤ x), 0 ≤ l.sum
  | [], _ => by simp
  | x :: l, h => by
    have := sum_nonneg (l := l) (fun z hz => h z (List.mem_cons_of_mem _ hz))
    have := h x List.mem_cons_self
    rw [List.sum_cons]; omega
theorem sum_le_mem : ∀ {l : List Int} {x : Int} (_ : x ∈ l) (_ : ∀ x ∈ l, 0 ≤ x), x ≤ l.sum
  | y :: l, x, hm, h => by
    have h1 := sum_nonneg (l := l) (fun z hz => h z (List.mem_cons_of_mem _ hz))
    have h2 := h y List.mem_cons_self
    rw [List.sum_cons]
    rcases List.mem_cons.1 hm with rfl | hm
    · omega
    · have := sum_le_mem hm (fun z hz => h z (List.mem_cons_of_mem _ hz)); omega
theorem sum_set {α : Type} (f : α → Int) : ∀ (l : List α) (i : Nat) (hi : i < l.length) (y : α), ((l.set i y).map f).sum = (l.map f).sum - f l[i] + f y
  | x :: l, 0, _, y => by simp; omega
  | x :: l, i + 1, hi, y => by
    have := sum_set f l i (by simpa using hi) y
    simp only [List.set_cons_succ, List.map_cons, List.sum_cons, List.getElem_cons_succ, this]
    omega
theorem sum_map_le {α : Type} {f g : α → Int} : ∀ {l : List α} (_ : ∀ x ∈ l, f x ≤ g x), (l.map f).sum ≤ (l.map g).sum
  | [], _ => by simp
  | x :: l, h => by
    have := sum_map_le (l := l) (fun z hz => h z (List.mem_cons_of_mem _ hz))
    have := h x List.mem_cons_self
    simp only [List.map_cons, List.sum_cons]; omega
/-- What a channel holds; what of it is a node's. -/
def holds (e : Edge) : Int := e.c0 + e.c1
def part1 (x : Int) (e : Edge) : Int := if e.e0 = x then e.c0 else if e.e1 = x then e.c1 else 0
def hasF (es : List Edge) (x : Int) : Int := (es.map (part1 x)).sum
def heldF (es : List Edge) : Int := (es.map holds).sum
theorem cansOf_sum (es : List Edge) : (cansOf es).sum = heldF es := by
  unfold cansOf heldF
  induction es with
  | nil => rfl
  | cons e es ih =>
    rw [List.flatMap_cons, List.sum_append, ih, List.map_cons, List.sum_cons]
    simp [holds]
theorem steps_sum (x : Int) : ∀ (es : List Edge) (i : Nat), ((stepsFrom x i es).map (·.can)).sum = hasF es x
  | [], _ => rfl
  | e :: es, i => by
    have ih := steps_sum x es (i + 1)
    have hs := sideOf_eq e x
    unfold hasF at ih ⊢
    simp only [stepsFrom, List.map_append, List.sum_append, ih, List.map_cons, List.sum_cons]
    congr 1
    unfold stepOf part1
    rw [hs]
    by_cases h0 : e.e0 = x
    · simp [h0]
    · by_cases h1 : e.e1 = x
      · simp [h0, h1]
      · simp [h0, h1]
theorem part1_le {e : Edge} (h : goodEdge e) (x : Int) : 0 ≤ part1 x e ∧ part1 x e ≤ holds e := by
  have h0 := h.1
  have h1 := h.2.1
  unfold isU64 at h0 h1
  unfold part1 holds
  split
  · omega
  · split <;> omega
theorem has_le {es : List Edge} (hg : ∀ e ∈ es, goodEdge e) (x : Int) : 0 ≤ hasF es x ∧ hasF es x ≤ heldF es :=
  ⟨sum_nonneg (fun y hy => by obtain ⟨e, he, rfl⟩ := List.mem_map.1 hy; exact (part1_le (hg e he) x).1), sum_map_le (fun e he => (part1_le (hg e he) x).2)⟩
theorem holds_le {es : List Edge} (hg : ∀ e ∈ es, goodEdge e) {e : Edge} (he : e ∈ es) : holds e ≤ heldF es :=
  sum_le_mem (List.mem_map_of_mem he) (fun y hy => by
    obtain ⟨e, he, rfl⟩ := List.mem_map.1 hy
    have := part1_le (hg e he) 0
    omega)
theorem sends_val {n : Nat} {es : List Edge} (hg : ∀ e ∈ es, goodEdge e) (hck : checkF n es = 0) (hh : heldF es < 18446744073709551616) (x : Int) : sumM 0 (cansAt n es x) = (hasF es x, 0) := by
  have h1 : (cansAt n es x).sum = hasF es x := by
    unfold cansAt stepsF
    rw [if_pos hck]
    exact steps_sum x es 0
  have h2 := (sumM_sum (cansAt n es x) 0 ⟨by decide, by decide⟩ (cansAt_u hg)).1
  rw [h1, Int.zero_add] at h2
  exact h2 (by have := has_le hg x; omega)
theorem all_val {es : List Edge} (hg : ∀ e ∈ es, goodEdge e) (h : (sumM 0 (cansOf es)).2 = 0) : heldF es < 18446744073709551616 := by
  have h2 := (sumM_sum (cansOf es) 0 ⟨by decide, by decide⟩ (cansOf_u hg)).2 h
  rwa [cansOf_sum, Int.zero_add] at h2
theorem all_val2 {es : List Edge} (hg : ∀ e ∈ es, goodEdge e) (h : heldF es < 18446744073709551616) : sumM 0 (cansOf es) = (heldF es, 0) := by
  have h2 := (sumM_sum (cansOf es) 0 ⟨by decide, by decide⟩ (cansOf_u hg)).1
  rw [cansOf_sum, Int.zero_add] at h2
  exact h2 h

/-! ### one channel -/
theorem side_end {e : Edge} {u : Int} {s : Nat} (h : sideOf e u = s) : endAt e s = u := by
  rw [sideOf_eq] at h
  unfold endAt
  split at h
  · rename_i h0
    obtain rfl : s = 0 := by omega
    rw [if_pos rfl]; exact h0
  · split at h
    · rename_i h1
      obtain rfl : s = 1 := by omega
      rw [if_neg (by omega)]; exact h1
    · omega
theorem end_side {e : Edge} {s : Nat} (hs : s < 2) (hne : e.e0 ≠ e.e1) : sideOf e (endAt e s) = s := by
  rw [sideOf_eq]
  have h01 : s = 0 ∨ s = 1 := by omega
  rcases h01 with rfl | rfl
  · simp [endAt]
  · simp [endAt, hne]
theorem side_none {e : Edge} {u : Int} (h : sideOf e u < 0) {i : Nat} (hi : i < 2) : endAt e i ≠ u := by
  rw [sideOf_eq] at h
  unfold endAt
  split at h
  · omega
  · split at h
    · omega
    · split <;> assumption
theorem moved_part {e : Edge} {s : Nat} (hs : s < 2) (hne : e.e0 ≠ e.e1) (a x : Int) : part1 x (moved e s a) = part1 x e - (if endAt e s = x then a else 0) + (if endAt e (1 - s) = x then a else 0) := by
  have h01 : s = 0 ∨ s = 1 := by omega
  rcases h01 with rfl | rfl
  · simp only [moved, part1, endAt, if_true, if_neg (show ¬ (1 - 0 : Nat) = 0 from by omega)]
    by_cases h0 : e.e0 = x
    · have h1 : ¬ e.e1 = x := by omega
      simp [h0, h1]
    · by_cases h1 : e.e1 = x
      · simp [h0, h1]
      · simp [h0, h1]
  · simp only [moved, part1, endAt, if_neg (show ¬ (1 : Nat) = 0 from by omega)]
    by_cases h0 : e.e0 = x
    · have h1 : ¬ e.e1 = x := by omega
      simp [h0, h1]
    · by_cases h1 : e.e1 = x
      · simp [h0, h1]
      · simp [h0, h1]
theorem moved_holds (e : Edge) (s : Nat) (a : Int) : holds (moved e s a) = holds e := by
  unfold holds moved
  split <;> (simp only; omega)
theorem moved_can {e : Edge} {s : Nat} (hs : s < 2) (a : Int) : canAt (moved e s a) (1 - s) = canAt e (1 - s) + a := by
  have h01 : s = 0 ∨ s = 1 := by omega
  rcases h01 with rfl | rfl <;> rfl
theorem moved_ends (e : Edge) (s : Nat) (a : Int) : (moved e s a).e0 = e.e0 ∧ (moved e s a).e1 = e.e1 := by
  unfold moved; split <;> exact ⟨rfl, rfl⟩
theorem moved_good {e : Edge} (h : goodEdge e) {s : Nat} (hs : s < 2) {a : Int} (ha : 0 ≤ a) (hc : a ≤ canAt e s) (hr : canAt e (1 - s) + a < 18446744073709551616) : goodEdge (moved e s a) := by
  obtain ⟨h0, h1, h2, h3⟩ := h
  unfold isU64 at h0 h1
  have h01 : s = 0 ∨ s = 1 := by omega
  rcases h01 with rfl | rfl
  · simp only [canAt, if_true, if_neg (show ¬ (1 - 0 : Nat) = 0 from by omega)] at hc hr
    refine ⟨?_, ?_, h2, h3⟩ <;> (simp only [moved, if_true]; unfold isU64; omega)
  · simp only [canAt, if_neg (show ¬ (1 : Nat) = 0 from by omega), if_true] at hc hr
    refine ⟨?_, ?_, h2, h3⟩ <;> (simp only [moved, if_neg (show ¬ (1 : Nat) = 0 from by omega)]; unfold isU64; omega)

/-! ### a plan -/
structure PlanOk (es : List Edge) (node in_ a : Int) (N X A : List Int) : Prop where
  m2 : 2 ≤ X.length
  few : X.length ≤ 1000
  nl : N.length = X.length + 1
  al : A.length = X.length
  hop : ∀ k, k < X.length → 0 ≤ gi X k ∧ (gi X k).toNat < es.length ∧ ∃ s : Nat, s < 2 ∧ sideOf (edgeAt es (gi X k)) (gi N k) = s ∧ endAt (edgeAt es (gi X k)) (1 - s) = gi N (k + 1) ∧ gi A k ≤ canAt (edgeAt es (gi X k)) s ∧ isU64 (gi A k)
  inj : ∀ i j, i < X.length → j < X.length → (gi X i).toNat = (gi X j).toNat → i = j
  mono : ∀ k, k + 1 < X.length → gi A (k + 1) ≤ gi A k
  n0 : gi N 0 = node
  nm : gi N X.length = node
  mid : ∀ k, 1 ≤ k → k < X.length → gi N k ≠ node
  xl : gi X (X.length - 1) = in_
  al2 : gi A (X.length - 1) = a
theorem edgeAt_mem {es : List Edge} {x : Int} (h : x.toNat < es.length) : edgeAt es x ∈ es := by
  rw [← edgeAt_eq h]; exact List.getElem_mem h
theorem edgeAt_set {es : List Edge} {x y : Int} {e : Edge} (h : x.toNat < es.length) : edgeAt (es.set x.toNat e) y = if x.toNat = y.toNat then e else edgeAt es y := by
  unfold edgeAt
  by_cases hxy : x.toNat = y.toNat
  · rw [if_pos hxy, ← hxy, List.getElem?_set_self h]; rfl
  · rw [if_neg hxy, List.getElem?_set_ne hxy]
theorem set_good {es : List Edge} (hg : ∀ e ∈ es, goodEdge e) {i : Nat} {e : Edge} (he : goodEdge e) : ∀ x ∈ es.set i e, goodEdge x := by
  intro x hx
  rcases List.mem_or_eq_of_mem_set hx with h | rfl
  · exact hg x h
  · exact he
theorem set_check {n : Nat} {es : List Edge} {i : Nat} (hi : i < es.length) {e : Edge} (hck : checkF n es = 0) (h0 : e.e0 = es[i].e0) (h1 : e.e1 = es[i].e1) : checkF n (es.set i e) = 0 := by
  have hok := checkF_edges hck
  have hsm : ¬ (n > 8 ∨ es.length > 16) := by
    intro h
    rw [checkF_big h] at hck
    cases hck
  refine checkF_ok (by rw [List.length_set]; exact hsm) (fun x hx => ?_)
  rcases List.mem_or_eq_of_mem_set hx with h | rfl
  · exact hok x h
  · have := hok _ (List.getElem_mem hi)
    unfold edgeOk at *
    rwa [h0, h1]
structure GoInv (n : Nat) (es fs : List Edge) (X : List Int) (k : Nat) : Prop where
  good : ∀ e ∈ fs, goodEdge e
  chk : checkF n fs = 0
  len : fs.length = es.length
  held : heldF fs = heldF es
  same : ∀ y : Int, (∀ j, j < k → (gi X j).toNat ≠ y.toNat) → edgeAt fs y = edgeAt es y
theorem plan_inv {n : Nat} {es : List Edge} {node in_ a : Int} {N X A : List Int} (hg : ∀ e ∈ es, goodEdge e) (hck : checkF n es = 0) (hh : heldF es < 18446744073709551616) (hp : PlanOk es node in_ a N X A) :
    ∀ k, k ≤ X.length → GoInv n es (goK es X N A k) X k
  | 0, _ => ⟨hg, hck, rfl, rfl, fun _ _ => rfl⟩
  | k + 1, hk => by
    have ih := plan_inv hg hck hh hp k (by omega)
    obtain ⟨hx0, hx1, s, hs, hsd, hend, hcan, hau⟩ := hp.hop k (by omega)
    have hsame : edgeAt (goK es X N A k) (gi X k) = edgeAt es (gi X k) := ih.same _ (fun j hj he => by have := hp.inj j k (by omega) (by omega) he; omega)
    have hm := edgeAt_mem hx1
    have hge := hg _ hm
    have hhe := holds_le hg hm
    have hne := (checkF_edges hck _ hm).2.2
    have hroom : canAt (edgeAt es (gi X k)) (1 - s) + gi A k < 18446744073709551616 := by
      have : canAt (edgeAt es (gi X k)) s + canAt (edgeAt es (gi X k)) (1 - s) = holds (edgeAt es (gi X k)) := by
        have h01 : s = 0 ∨ s = 1 := by omega
        rcases h01 with rfl | rfl
        · rfl
        · show (edgeAt es (gi X k)).c1 + (edgeAt es (gi X k)).c0 = (edgeAt es (gi X k)).c0 + (edgeAt es (gi X k)).c1
          omega
      omega
    have hlt : (gi X k).toNat < (goK es X N A k).length := by rw [ih.len]; exact hx1
    have hget : (goK es X N A k)[(gi X k).toNat] = edgeAt es (gi X k) := by rw [edgeAt_eq hlt, hsame]
    rw [goK, sendF, hsame, hsd, Int.toNat_natCast]
    refine ⟨set_good ih.good (moved_good hge hs hau.1 hcan hroom), set_check hlt ih.chk ?_ ?_, by rw [List.length_set, ih.len], ?_, ?_⟩
    · rw [hget]; exact (moved_ends _ _ _).1
    · rw [hget]; exact (moved_ends _ _ _).2
    · have := sum_set holds (goK es X N A k) (gi X k).toNat hlt (moved (edgeAt es (gi X k)) s (gi A k))
      have h2 := ih.held
      unfold heldF at h2 ⊢
      rw [this, hget, moved_holds]
      omega
    · intro y hy
      rw [edgeAt_set hlt, if_neg (hy k (by omega))]
      exact ih.same y (fun j hj => hy j (by omega))
theorem plan_send {n : Nat} {es : List Edge} {node in_ a : Int} {N X A : List Int} (hg : ∀ e ∈ es, goodEdge e) (hck : checkF n es = 0) (hh : heldF es < 18446744073709551616) (hp : PlanOk es node in_ a N X A) (k : Nat) (hk : k < X.length) :
    SendOk n (goK es X N A k) (gi X k) (gi N k) (gi A k) := by
  have ih := plan_inv hg hck hh hp k (by omega)
  obtain ⟨hx0, hx1, s, hs, hsd, hend, hcan, hau⟩ := hp.hop k hk
  have hsame : edgeAt (goK es X N A k) (gi X k) = edgeAt es (gi X k) := ih.same _ (fun j hj he => by have := hp.inj j k (by omega) (by omega) he; omega)
  have hm := edgeAt_mem hx1
  have hhe := holds_le hg hm
  have hroom : canAt (edgeAt es (gi X k)) (1 - s) + gi A k < 18446744073709551616 := by
    have : canAt (edgeAt es (gi X k)) s + canAt (edgeAt es (gi X k)) (1 - s) = holds (edgeAt es (gi X k)) := by
      have h01 : s = 0 ∨ s = 1 := by omega
      rcases h01 with rfl | rfl
      · rfl
      · show (edgeAt es (gi X k)).c1 + (edgeAt es (gi X k)).c0 = (edgeAt es (gi X k)).c0 + (edgeAt es (gi X k)).c1
        omega
    omega
  refine ⟨ih.chk, hx0, by rw [ih.len]; exact hx1, ?_, hau, ?_, ?_, ?_⟩
  · rw [hsame, hsd]; omega
  · rw [hsame, hsd, Int.toNat_natCast]; exact hcan
  · rw [hsame, hsd, Int.toNat_natCast]; exact hroom
  · rw [hsame]; exact hg _ hm
/-- What one hop turns of what a node has. -/
theorem plan_hop {n : Nat} {es : List Edge} {node in_ a : Int} {N X A : List Int} (hg : ∀ e ∈ es, goodEdge e) (hck : checkF n es = 0) (hh : heldF es < 18446744073709551616) (hp : PlanOk es node in_ a N X A) (x : Int) (k : Nat) (hk : k < X.length) :
    hasF (goK es X N A (k + 1)) x = hasF (goK es X N A k) x - (if gi N k = x then gi A k else 0) + (if gi N (k + 1) = x then gi A k else 0) := by
  have ih := plan_inv hg hck hh hp k (by omega)
  obtain ⟨hx0, hx1, s, hs, hsd, hend, hcan, hau⟩ := hp.hop k hk
  have hsame : edgeAt (goK es X N A k) (gi X k) = edgeAt es (gi X k) := ih.same _ (fun j hj he => by have := hp.inj j k (by omega) (by omega) he; omega)
  have hm := edgeAt_mem hx1
  have hne := (checkF_edges hck _ hm).2.2
  have hlt : (gi X k).toNat < (goK es X N A k).length := by rw [ih.len]; exact hx1
  have hget : (goK es X N A k)[(gi X k).toNat] = edgeAt es (gi X k) := by rw [edgeAt_eq hlt, hsame]
  have h1 := sum_set (part1 x) (goK es X N A k) (gi X k).toNat hlt (moved (edgeAt es (gi X k)) s (gi A k))
  rw [hget, moved_part hs hne, side_end hsd, hend] at h1
  rw [goK, sendF, hsame, hsd, Int.toNat_natCast]
  unfold hasF
  rw [h1]
  omega
theorem plan_other {n : Nat} {es : List Edge} {node in_ a : Int} {N X A : List Int} (hg : ∀ e ∈ es, goodEdge e) (hck : checkF n es = 0) (hh : heldF es < 18446744073709551616) (hp : PlanOk es node in_ a N X A) {x : Int} (hx : x ≠ node) :
    ∀ k, k < X.length → hasF es x + (if gi N (k + 1) = x then gi A k else 0) ≤ hasF (goK es X N A (k + 1)) x
  | 0, hk => by
    have h1 := plan_hop hg hck hh hp x 0 hk
    have h0 : ¬ gi N 0 = x := by rw [hp.n0]; exact fun h => hx h.symm
    rw [if_neg h0, show goK es X N A 0 = es from rfl] at h1
    omega
  | k + 1, hk => by
    have h1 := plan_hop hg hck hh hp x (k + 1) hk
    have ih := plan_other hg hck hh hp hx k (by omega)
    have hm := hp.mono k hk
    by_cases h2 : gi N (k + 1) = x
    · rw [if_pos h2] at ih h1; omega
    · rw [if_neg h2] at ih h1; omega
theorem plan_node {n : Nat} {es : List Edge} {node in_ a : Int} {N X A : List Int} (hg : ∀ e ∈ es, goodEdge e) (hck : checkF n es = 0) (hh : heldF es < 18446744073709551616) (hp : PlanOk es node in_ a N X A) :
    ∀ k, k < X.length → hasF (goK es X N A (k + 1)) node = hasF es node - gi A 0 + (if k + 1 = X.length then a else 0)
  | 0, hk => by
    have h1 := plan_hop hg hck hh hp node 0 hk
    have hm2 := hp.m2
    rw [if_pos hp.n0, if_neg (hp.mid 1 (by omega) (by omega)), show goK es X N A 0 = es from rfl] at h1
    rw [if_neg (by omega)]
    omega
  | k + 1, hk => by
    have h1 := plan_hop hg hck hh hp node (k + 1) hk
    have ih := plan_node hg hck hh hp k (by omega)
    rw [if_neg (by omega)] at ih
    rw [if_neg (hp.mid (k + 1) (by omega) hk)] at h1
    by_cases h2 : k + 1 + 1 = X.length
    · have h3 := hp.nm
      have h4 := hp.al2
      rw [show X.length - 1 = k + 1 from by omega] at h4
      rw [← h2] at h3
      rw [if_pos h3, h4] at h1
      rw [if_pos h2]; omega
    · rw [if_neg (hp.mid (k + 1 + 1) (by omega) (by omega))] at h1
      rw [if_neg h2]; omega
/-- What comes of a plan that is paid. -/
theorem plan_law {n : Nat} {es : List Edge} {node in_ a : Int} {N X A : List Int} (hg : ∀ e ∈ es, goodEdge e) (hck : checkF n es = 0) (hh : heldF es < 18446744073709551616) (hp : PlanOk es node in_ a N X A) :
    (∀ e ∈ goK es X N A X.length, goodEdge e) ∧ checkF n (goK es X N A X.length) = 0 ∧ heldF (goK es X N A X.length) = heldF es ∧
    hasF (goK es X N A X.length) node = hasF es node - gi A 0 + a ∧ (∀ x, x ≠ node → hasF es x ≤ hasF (goK es X N A X.length) x) ∧
    (∀ s : Nat, s < 2 → sideOf (edgeAt es in_) node = s → canAt (edgeAt (goK es X N A X.length) in_) s = canAt (edgeAt es in_) s + a) := by
  have hI := plan_inv hg hck hh hp X.length (Nat.le_refl _)
  have hm2 := hp.m2
  obtain ⟨k, hk⟩ : ∃ k, X.length = k + 1 := ⟨X.length - 1, by omega⟩
  refine ⟨hI.good, hI.chk, hI.held, ?_, ?_, ?_⟩
  · have := plan_node hg hck hh hp k (by omega)
    rw [if_pos hk.symm, ← hk] at this
    exact this
  · intro x hx
    have := plan_other hg hck hh hp hx k (by omega)
    rw [← hk] at this
    have h2 : 0 ≤ (if gi N X.length = x then gi A k else 0) := by
      obtain ⟨_, _, _, _, _, _, _, hau⟩ := hp.hop k (by omega)
      split
      · exact hau.1
      · exact Int.le_refl 0
    omega
  · intro s hs hsd
    have ih := plan_inv hg hck hh hp k (by omega)
    obtain ⟨hx0, hx1, s3, hs3, hsd3, hend3, hcan3, hau3⟩ := hp.hop k (by omega)
    have hxl := hp.xl
    have hal := hp.al2
    have hnm := hp.nm
    rw [show X.length - 1 = k from by omega] at hxl hal
    rw [hxl] at hx0 hx1 hsd3 hend3
    rw [hk] at hnm
    have hm := edgeAt_mem hx1
    have hne := (checkF_edges hck _ hm).2.2
    rw [hnm] at hend3
    have h1 := end_side (e := edgeAt es in_) (s := 1 - s3) (by omega) hne
    rw [hend3, hsd] at h1
    have h1 : s = 1 - s3 := by omega
    have hsame : edgeAt (goK es X N A k) in_ = edgeAt es in_ := ih.same _ (fun j hj he => by rw [← hxl] at he; have := hp.inj j k (by omega) (by omega) he; omega)
    rw [hk, goK, sendF, hxl, hal, hsame, hsd3, Int.toNat_natCast, edgeAt_set (by rw [ih.len]; exact hx1), if_pos rfl, h1]
    exact moved_can hs3 a
end Go.Proofs.Ytjimpciiaceleaa