/-
  THE LAW of rebalance's Cycle: what it answers is a plan that can be paid. No program here but the names of its data. Condition: the web's numbers are of their kinds.
-/
import Derived.Test.YtjimpciiaceleaaA26
namespace Go.Proofs.Ytjimpciiaceleaa
open Fw
set_option linter.unusedVariables false

theorem gi_cons0 (x : Int) (l : List Int) : gi (x :: l) 0 = x := rfl
theorem gi_consS (x : Int) (l : List Int) (k : Nat) : gi (x :: l) (k + 1) = gi l k := rfl
theorem gi_app_lt {l m : List Int} {k : Nat} (h : k < l.length) : gi (l ++ m) k = gi l k := by
  unfold gi; rw [List.getElem?_append_left h]
theorem gi_app_eq (l : List Int) (x : Int) : gi (l ++ [x]) l.length = x := by
  unfold gi; rw [List.getElem?_append_right (Nat.le_refl _), Nat.sub_self]; rfl
theorem gi_some {l : List Int} {k : Nat} {x : Int} (h : l[k]? = some x) : gi l k = x := by unfold gi; rw [h]; rfl
/-- The other end of a channel, seen from it. -/
theorem other_side {e : Edge} {s : Nat} {u v : Int} (hs : s < 2) (hne : e.e0 ≠ e.e1) (h : sideOf e u = s) (hv : v = endAt e (1 - s)) : sideOf e v = ((1 - s : Nat) : Int) ∧ endAt e (1 - (1 - s)) = u ∧ u ≠ v := by
  subst hv
  refine ⟨end_side (by omega) hne, by rw [show 1 - (1 - s) = s from by omega]; exact side_end h, ?_⟩
  have h1 := side_end h
  have h01 : s = 0 ∨ s = 1 := by omega
  rcases h01 with rfl | rfl
  · rw [← h1]; exact hne
  · rw [← h1]; exact fun h => hne h.symm
theorem plan_two {es : List Edge} {node out in_ a asked first : Int} {s1 s2 : Nat} (hes : ∀ e ∈ es, e.e0 ≠ e.e1) (ho0 : 0 ≤ out) (ho1 : out.toNat < es.length) (hs1 : s1 < 2) (hso : sideOf (edgeAt es out) node = s1) (hf : first = endAt (edgeAt es out) (1 - s1))
    (hi0 : 0 ≤ in_) (hi1 : in_.toNat < es.length) (hs2 : s2 < 2) (hsi : sideOf (edgeAt es in_) node = s2) (hl : first = endAt (edgeAt es in_) (1 - s2)) (hne : out ≠ in_) (ha : isU64 a) (hau : isU64 asked) (hge : a ≤ asked)
    (hr1 : asked ≤ canAt (edgeAt es out) s1) (hr2 : a ≤ canAt (edgeAt es in_) (1 - s2)) : PlanOk es node in_ a [node, first, node] [out, in_] [asked, a] where
  m2 := by simp
  few := by simp
  nl := by simp
  al := by simp
  hop := by
    intro k hk
    have h01 : k = 0 ∨ k = 1 := by simp at hk; omega
    rcases h01 with rfl | rfl
    · exact ⟨ho0, ho1, s1, hs1, hso, hf.symm, hr1, hau⟩
    · obtain ⟨h1, h2, _⟩ := other_side hs2 (hes _ (edgeAt_mem hi1)) hsi hl
      exact ⟨hi0, hi1, 1 - s2, by omega, h1, h2, hr2, ha⟩
  inj := by
    intro i j hi hj h
    have h01 : i = 0 ∨ i = 1 := by simp at hi; omega
    have h02 : j = 0 ∨ j = 1 := by simp at hj; omega
    rcases h01 with rfl | rfl <;> rcases h02 with rfl | rfl
    · rfl
    · have : out.toNat = in_.toNat := h
      omega
    · have : in_.toNat = out.toNat := h
      omega
    · rfl
  mono := by
    intro k hk
    obtain rfl : k = 0 := by simp at hk; omega
    exact hge
  n0 := rfl
  nm := rfl
  mid := by
    intro k h1 hk
    obtain rfl : k = 1 := by simp at hk; omega
    exact fun h => (other_side hs1 (hes _ (edgeAt_mem ho1)) hso hf).2.2 h.symm
  xl := rfl
  al2 := rfl
theorem plan_more {es : List Edge} {node out in_ a asked asked3 first last : Int} {s1 s2 : Nat} {r : RouteP} (hes : ∀ e ∈ es, e.e0 ≠ e.e1) (ho0 : 0 ≤ out) (ho1 : out.toNat < es.length) (hs1 : s1 < 2) (hso : sideOf (edgeAt es out) node = s1) (hf : first = endAt (edgeAt es out) (1 - s1))
    (hi0 : 0 ≤ in_) (hi1 : in_.toNat < es.length) (hs2 : s2 < 2) (hsi : sideOf (edgeAt es in_) node = s2) (hl : last = endAt (edgeAt es in_) (1 - s2)) (hne : out ≠ in_) (ha : isU64 a) (ha0 : a ≠ 0) (hau : isU64 asked3) (hge : a ≤ asked) (hge3 : gi r.amounts 0 ≤ asked3)
    (hr : RouteOk (withoutF es node) first last asked r) (hr1 : asked3 ≤ canAt (edgeAt es out) s1) (hr2 : a ≤ canAt (edgeAt es in_) (1 - s2)) :
    PlanOk es node in_ a (node :: (r.nodes ++ [node])) (out :: (r.edges ++ [in_])) (asked3 :: (r.amounts ++ [a])) := by
  have hone := hr.one
  have hfew := hr.few
  have hnl := hr.nl
  have hal := hr.al
  have hlo : ∀ j, j < r.edges.length → asked ≤ gi r.amounts (r.edges.length - 1 - j) := by
    intro j
    induction j with
    | zero => intro _; rw [Nat.sub_zero, gi_some hr.alast]; exact Int.le_refl _
    | succ j ih =>
      intro hj
      have h1 := ih (by omega)
      have h2 := hr.mono (r.edges.length - 1 - (j + 1)) (gi r.amounts (r.edges.length - 1 - (j + 1))) (gi r.amounts (r.edges.length - 1 - j)) (gi_get (by omega)) (by rw [show r.edges.length - 1 - (j + 1) + 1 = r.edges.length - 1 - j from by omega]; exact gi_get (by omega))
      omega
  unfold isU64 at ha
  have hhop : ∀ i, i < r.edges.length → 0 ≤ gi r.edges i ∧ (gi r.edges i).toNat < es.length ∧ sideOf (edgeAt es (gi r.edges i)) node < 0 ∧ ∃ s : Nat, s < 2 ∧ sideOf (edgeAt es (gi r.edges i)) (gi r.nodes i) = s ∧ endAt (edgeAt es (gi r.edges i)) (1 - s) = gi r.nodes (i + 1) ∧
      gi r.amounts i ≤ canAt (edgeAt es (gi r.edges i)) s ∧ isU64 (gi r.amounts i) := by
    intro i hi
    obtain ⟨⟨h1, h2, h3⟩, h4, h5⟩ := hr.hops i (gi r.nodes i) (gi r.edges i) (gi r.nodes (i + 1)) (gi r.amounts i) (gi_get (by omega)) (gi_get hi) (gi_get (by omega)) (gi_get (by omega))
    replace h1 : 0 ≤ gi r.edges i := h1
    replace h2 : (gi r.edges i).toNat < es.length := by rw [← withoutF_len es node]; exact h2
    have hat := withoutF_at node h2
    unfold canOf at h5
    simp only [hat, cutE_side, cutE_endAt] at h3 h4 h5
    have hr0 := hr.range (gi r.amounts i) (by rw [gi_eq (by omega)]; exact List.getElem_mem _)
    have h6 := hlo (r.edges.length - 1 - i) (by omega)
    rw [show r.edges.length - 1 - (r.edges.length - 1 - i) = i from by omega] at h6
    have h7 : sideOf (edgeAt es (gi r.edges i)) node < 0 := by
      apply Decidable.byContradiction
      intro h7
      have h8 : canAt (cutE node (edgeAt es (gi r.edges i))) (sideOf (edgeAt es (gi r.edges i)) (gi r.nodes i)).toNat = 0 := by
        have h9 : cutE node (edgeAt es (gi r.edges i)) = ⟨(edgeAt es (gi r.edges i)).e0, (edgeAt es (gi r.edges i)).e1, 0, 0, (edgeAt es (gi r.edges i)).f0, (edgeAt es (gi r.edges i)).f1⟩ := by unfold cutE; rw [if_pos (by omega)]
        rw [h9]
        unfold canAt
        split <;> rfl
      omega
    have h8 : cutE node (edgeAt es (gi r.edges i)) = edgeAt es (gi r.edges i) := by unfold cutE; rw [if_neg (by omega)]
    rw [h8] at h5
    rcases h3 with h3 | h3
    · rw [h3] at h4 h5
      exact ⟨h1, h2, h7, 0, by omega, h3, h4, h5, hr0⟩
    · rw [h3] at h4 h5
      exact ⟨h1, h2, h7, 1, by omega, h3, h4, h5, hr0⟩
  have hnode : ∀ i, i < r.nodes.length → gi r.nodes i ≠ node := by
    intro i hi
    by_cases h : i < r.edges.length
    · obtain ⟨_, _, h1, s, hs, h2, _⟩ := hhop i h
      rw [← side_end h2]
      exact side_none h1 hs
    · obtain rfl : i = r.edges.length - 1 + 1 := by omega
      obtain ⟨_, _, h1, s, hs, _, h2, _⟩ := hhop (r.edges.length - 1) (by omega)
      rw [← h2]
      exact side_none h1 (by omega)
  have hinj : ∀ i j, i < r.nodes.length → j < r.nodes.length → gi r.nodes i = gi r.nodes j → i = j := by
    intro i j hi hj h
    rw [gi_eq hi, gi_eq hj] at h
    exact (List.getElem_inj hr.nd).1 h
  have hedge : ∀ i j, i < j → j < r.edges.length → (gi r.edges i).toNat ≠ (gi r.edges j).toNat := by
    intro i j hij hj he
    obtain ⟨_, _, _, s, hs, h2, _⟩ := hhop i (by omega)
    obtain ⟨_, _, _, t, ht, h4, h5, _⟩ := hhop j hj
    have heq : edgeAt es (gi r.edges i) = edgeAt es (gi r.edges j) := by unfold edgeAt; rw [he]
    rw [heq] at h2
    have h6 := side_end h2
    have h7 := side_end h4
    by_cases hst : s = t
    · subst hst
      have := hinj i j (by omega) (by omega) (by rw [← h6, ← h7])
      omega
    · obtain rfl : s = 1 - t := by omega
      have := hinj i (j + 1) (by omega) (by omega) (by rw [← h6, ← h5])
      omega
  have hXl : (out :: (r.edges ++ [in_])).length = r.edges.length + 2 := by simp
  have hX0 : ∀ i, i < r.edges.length → gi (out :: (r.edges ++ [in_])) (i + 1) = gi r.edges i := fun i hi => by rw [gi_consS, gi_app_lt hi]
  have hX1 : gi (out :: (r.edges ++ [in_])) (r.edges.length + 1) = in_ := by rw [gi_consS, gi_app_eq]
  have hA0 : ∀ i, i < r.edges.length → gi (asked3 :: (r.amounts ++ [a])) (i + 1) = gi r.amounts i := fun i hi => by rw [gi_consS, gi_app_lt (by omega)]
  have hA1 : gi (asked3 :: (r.amounts ++ [a])) (r.edges.length + 1) = a := by rw [gi_consS, ← hal, gi_app_eq]
  have hN0 : ∀ i, i < r.nodes.length → gi (node :: (r.nodes ++ [node])) (i + 1) = gi r.nodes i := fun i hi => by rw [gi_consS, gi_app_lt hi]
  have hN1 : gi (node :: (r.nodes ++ [node])) (r.edges.length + 2) = node := by rw [gi_consS, ← hnl, gi_app_eq]
  have hn0 : gi r.nodes 0 = first := gi_some hr.first
  have hnL : gi r.nodes r.edges.length = last := gi_some hr.last
  have hfar : ∀ i, i < r.edges.length → (gi r.edges i).toNat ≠ out.toNat ∧ (gi r.edges i).toNat ≠ in_.toNat := by
    intro i hi
    obtain ⟨_, _, h1, _⟩ := hhop i hi
    refine ⟨fun he => ?_, fun he => ?_⟩
    · have heq : edgeAt es (gi r.edges i) = edgeAt es out := by unfold edgeAt; rw [he]
      rw [heq] at h1; omega
    · have heq : edgeAt es (gi r.edges i) = edgeAt es in_ := by unfold edgeAt; rw [he]
      rw [heq] at h1; omega
  refine ⟨by rw [hXl]; omega, by rw [hXl]; omega, by simp; omega, by simp; omega, ?_, ?_, ?_, rfl, by rw [hXl]; exact hN1, ?_, by rw [hXl]; exact hX1, by rw [hXl]; exact hA1⟩
  · intro k hk
    rw [hXl] at hk
    cases k with
    | zero => exact ⟨ho0, ho1, s1, hs1, hso, by rw [hN0 0 (by omega), hn0]; exact hf.symm, hr1, hau⟩
    | succ i =>
      by_cases hi : i < r.edges.length
      · rw [hX0 i hi, hA0 i hi, hN0 i (by omega), hN0 (i + 1) (by omega)]
        obtain ⟨h1, h2, _, s, h4, h5, h6, h7, h8⟩ := hhop i hi
        exact ⟨h1, h2, s, h4, h5, h6, h7, h8⟩
      · obtain rfl : i = r.edges.length := by omega
        rw [hX1, hA1, hN0 _ (by omega), hnL, hN1]
        obtain ⟨h1, h2, _⟩ := other_side hs2 (hes _ (edgeAt_mem hi1)) hsi hl
        exact ⟨hi0, hi1, 1 - s2, by omega, h1, h2, hr2, ha⟩
  · have key : ∀ i j, i < j → j < r.edges.length + 2 → (gi (out :: (r.edges ++ [in_])) i).toNat ≠ (gi (out :: (r.edges ++ [in_])) j).toNat := by
      intro i j hij hj he
      obtain ⟨j, rfl⟩ : ∃ m, j = m + 1 := ⟨j - 1, by omega⟩
      cases i with
      | zero =>
        rw [gi_cons0] at he
        by_cases h : j < r.edges.length
        · rw [hX0 j h] at he; exact (hfar j h).1 he.symm
        · obtain rfl : j = r.edges.length := by omega
          rw [hX1] at he; omega
      | succ i =>
        rw [hX0 i (by omega)] at he
        by_cases h : j < r.edges.length
        · rw [hX0 j h] at he; exact hedge i j (by omega) h he
        · obtain rfl : j = r.edges.length := by omega
          rw [hX1] at he; exact (hfar i (by omega)).2 he
    intro i j hi hj h
    rw [hXl] at hi hj
    rcases Nat.lt_trichotomy i j with h1 | h1 | h1
    · exact absurd h (key i j h1 hj)
    · exact h1
    · exact absurd h.symm (key j i h1 hi)
  · intro k hk
    rw [hXl] at hk
    cases k with
    | zero => rw [hA0 0 (by omega), gi_cons0]; exact hge3
    | succ i =>
      rw [hA0 i (by omega)]
      by_cases hi : i + 1 < r.edges.length
      · rw [hA0 (i + 1) hi]
        exact hr.mono i _ _ (gi_get (by omega)) (gi_get (by omega))
      · obtain rfl : i = r.edges.length - 1 := by omega
        rw [show r.edges.length - 1 + 1 + 1 = r.edges.length + 1 from by omega, hA1, gi_some hr.alast]
        exact hge
  · intro k h1 hk
    rw [hXl] at hk
    obtain ⟨k, rfl⟩ : ∃ m, k = m + 1 := ⟨k - 1, by omega⟩
    rw [hN0 k (by omega)]
    exact hnode k (by omega)
theorem wrap_id {x : Int} (h : isU64 x) : IntKind.wrap .u64 x = x := by
  unfold isU64 at h
  rw [wrap_u64]
  omega
theorem cycle_law {n : Nat} {es : List Edge} {node out in_ a : Int} (hg : ∀ e ∈ es, goodEdge e) (ha : isU64 a) (h : (cycleF n es node out in_ a).2 = 0) :
    checkF n es = 0 ∧ 0 ≤ in_ ∧ in_.toNat < es.length ∧ (∃ s : Nat, s < 2 ∧ sideOf (edgeAt es in_) node = s) ∧
    PlanOk es node in_ a (cycleF n es node out in_ a).1.nodes (cycleF n es node out in_ a).1.edges (cycleF n es node out in_ a).1.amounts ∧
    (cycleF n es node out in_ a).1.fees = gi (cycleF n es node out in_ a).1.amounts 0 - a ∧ a ≤ gi (cycleF n es node out in_ a).1.amounts 0 ∧ isU64 (gi (cycleF n es node out in_ a).1.amounts 0) := by
  have hck : checkF n es = 0 := by
    apply Decidable.byContradiction
    intro hc
    rw [cycleF, if_pos hc] at h
    exact hc h
  have hes : ∀ e ∈ es, e.e0 ≠ e.e1 := fun e he => (checkF_edges hck e he).2.2
  by_cases hargs : (endsF es out node).2.2 ≠ 0 ∨ (endsF es in_ node).2.2 ≠ 0 ∨ out = in_ ∨ a = 0
  · rw [cycleF, if_neg (fun h => h hck), if_pos hargs] at h
    cases h
  · have h1 : (endsF es out node).2.2 = 0 := Decidable.byContradiction fun h => hargs (.inl h)
    have h2 : (endsF es in_ node).2.2 = 0 := Decidable.byContradiction fun h => hargs (.inr (.inl h))
    have hne : out ≠ in_ := fun h => hargs (.inr (.inr (.inl h)))
    have ha0 : a ≠ 0 := fun h => hargs (.inr (.inr (.inr h)))
    obtain ⟨sa, first, e1⟩ : ∃ p, p = endsF es out node := ⟨_, rfl⟩
    generalize hp : endsF es out node = p at h1
    generalize hq : endsF es in_ node = q at h2
    obtain ⟨sa, first, e1⟩ := p
    obtain ⟨sb, last, e2⟩ := q
    replace h1 : e1 = 0 := h1
    replace h2 : e2 = 0 := h2
    subst h1 h2
    obtain ⟨ho0, ho1, s1, hs1, hso, rfl, hf⟩ := endsF_ok hp
    obtain ⟨hi0, hi1, s2, hs2, hsi, rfl, hl⟩ := endsF_ok hq
    rw [cycleF_on hck hp hq hne ha0] at h ⊢
    by_cases hroom : canAt (edgeAt es in_) (1 - s2) < a
    · rw [if_pos hroom] at h; cases h
    · rw [if_neg hroom] at h ⊢
      have hfb := feeAt_good (hg _ (edgeAt_mem hi1)) (1 - s2)
      have hau : isU64 (backFee es in_ s2 a).1 := overF_range ha hfb.1
      have hge : (backFee es in_ s2 a).2 = 0 → a ≤ (backFee es in_ s2 a).1 := fun h => overF_ge hfb.1 h
      generalize backFee es in_ s2 a = o at h hau hge ⊢
      obtain ⟨asked, eo⟩ := o
      by_cases heo : eo ≠ 0
      · rw [if_pos heo] at h; exact absurd h heo
      · obtain rfl := Decidable.not_not.1 heo
        rw [if_neg (fun h => h rfl)] at h ⊢
        replace hge := hge rfl
        replace hau : isU64 asked := hau
        replace hge : a ≤ asked := hge
        refine ⟨hck, hi0, hi1, ⟨s2, hs2, hsi⟩, ?_⟩
        show PlanOk _ _ _ _ _ _ _ ∧ _
        by_cases hfl : first = last
        · subst hfl
          rw [midF, if_pos rfl, cyc3] at h ⊢
          by_cases hr1 : canAt (edgeAt es out) s1 < asked
          · rw [if_pos hr1] at h; cases h
          · rw [if_neg hr1]
            refine ⟨plan_two hes ho0 ho1 hs1 hso hf hi0 hi1 hs2 hsi hl hne ha hau hge (by omega) (by omega), ?_, hge, hau⟩
            exact wrap_id (by unfold isU64 at *; show 0 ≤ asked - a ∧ asked - a ≤ 18446744073709551615; omega)
        · have hroute := best_route (n := n) (f := first) (t := last) (withoutF_good hg node) hau
          rw [midF, if_neg hfl] at h ⊢
          generalize bestF n (withoutF es node) first last asked = rb at h hroute ⊢
          obtain ⟨r, eb⟩ := rb
          by_cases heb : eb ≠ 0
          · rw [if_pos heb] at h; exact absurd h heb
          · obtain rfl := Decidable.not_not.1 heb
            replace hroute : RouteOk (withoutF es node) first last asked r := hroute rfl
            rw [if_neg (fun h => h rfl)] at h ⊢
            by_cases hlong : (r, (0 : Int)).1.edges.length + 2 > 7
            · rw [if_pos hlong] at h; cases h
            · rw [if_neg hlong] at h ⊢
              simp only at h ⊢
              have hone := hroute.one
              have hnl := hroute.nl
              have hal := hroute.al
              obtain ⟨⟨_, hx1, _⟩, _⟩ := hroute.hops 0 (gi r.nodes 0) (gi r.edges 0) (gi r.nodes 1) (gi r.amounts 0) (gi_get (by omega)) (gi_get (by omega)) (gi_get (by omega)) (gi_get (by omega))
              replace hx1 : (gi r.edges 0).toNat < es.length := by rw [← withoutF_len es node]; exact hx1
              have hff : goodFee (feeOf es (first, gi r.edges 0)) := feeAt_good (hg _ (edgeAt_mem hx1)) _
              have ham0 : isU64 (gi r.amounts 0) := hroute.range _ (by rw [gi_eq (by omega)]; exact List.getElem_mem _)
              have hau3 := overF_range (f := feeOf es (first, gi r.edges 0)) ham0 hff.1
              have hge3 : (overF (feeOf es (first, gi r.edges 0)) (gi r.amounts 0)).2 = 0 → gi r.amounts 0 ≤ (overF (feeOf es (first, gi r.edges 0)) (gi r.amounts 0)).1 := fun h => overF_ge hff.1 h
              generalize overF (feeOf es (first, gi r.edges 0)) (gi r.amounts 0) = o3 at h hau3 hge3 ⊢
              obtain ⟨asked3, eo3⟩ := o3
              by_cases heo3 : eo3 ≠ 0
              · rw [if_pos heo3] at h; exact absurd h heo3
              · obtain rfl := Decidable.not_not.1 heo3
                rw [if_neg (fun h => h rfl)] at h ⊢
                replace hge3 : gi r.amounts 0 ≤ asked3 := hge3 rfl
                replace hau3 : isU64 asked3 := hau3
                rw [cyc3] at h ⊢
                by_cases hr1 : canAt (edgeAt es out) s1 < asked3
                · rw [if_pos hr1] at h; cases h
                · rw [if_neg hr1]
                  have hcons : r.nodes = first :: r.nodes.drop 1 := by
                    cases hn : r.nodes with
                    | nil => rw [hn] at hnl; simp at hnl
                    | cons y ys =>
                      have := hroute.first
                      rw [hn] at this
                      have : y = first := by simpa using this
                      subst this; rfl
                  have hN : [node, first] ++ r.nodes.drop 1 ++ [node] = node :: (r.nodes ++ [node]) := by
                    conv => rhs; rw [hcons]
                    rfl
                  have hlow : asked ≤ gi r.amounts 0 := by
                    have : ∀ j, j < r.edges.length → asked ≤ gi r.amounts (r.edges.length - 1 - j) := by
                      intro j
                      induction j with
                      | zero => intro _; rw [Nat.sub_zero, gi_some hroute.alast]; exact Int.le_refl _
                      | succ j ih =>
                        intro hj
                        have h1 := ih (by omega)
                        have h2 := hroute.mono (r.edges.length - 1 - (j + 1)) (gi r.amounts (r.edges.length - 1 - (j + 1))) (gi r.amounts (r.edges.length - 1 - j)) (gi_get (by omega)) (by rw [show r.edges.length - 1 - (j + 1) + 1 = r.edges.length - 1 - j from by omega]; exact gi_get (by omega))
                        omega
                    have := this (r.edges.length - 1) (by omega)
                    rwa [Nat.sub_self] at this
                  have hall : a ≤ asked3 := by omega
                  refine ⟨?_, ?_, hall, hau3⟩
                  · show PlanOk es node in_ a ([node, first] ++ r.nodes.drop 1 ++ [node]) _ _
                    rw [hN]
                    exact plan_more hes ho0 ho1 hs1 hso hf hi0 hi1 hs2 hsi hl hne ha ha0 hau3 hge hge3 hroute (by omega) (by omega)
                  · exact wrap_id (by unfold isU64 at *; show 0 ≤ asked3 - a ∧ asked3 - a ≤ 18446744073709551615; omega)
end Go.Proofs.Ytjimpciiaceleaa