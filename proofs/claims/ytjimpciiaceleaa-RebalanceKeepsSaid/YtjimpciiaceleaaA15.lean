/-
  THE LAW of path's routes: each leads from one node to the other one, by no node twice, over channels that are there; its amounts never rise; none costs less than the best. No program here but the names of its data. Condition: the web's numbers are of their kinds.
-/
import Derived.Test.YtjimpciiaceleaaA14
namespace Go.Proofs.Ytjimpciiaceleaa
open Fw
set_option linter.unusedVariables false

structure RouteOk (es : List Edge) (from_ to a : Int) (r : RouteP) : Prop where
  one : 1 ≤ r.edges.length
  few : r.edges.length ≤ 7
  nl : r.nodes.length = r.edges.length + 1
  al : r.amounts.length = r.edges.length
  first : r.nodes[0]? = some from_
  last : r.nodes[r.edges.length]? = some to
  alast : r.amounts[r.edges.length - 1]? = some a
  nd : r.nodes.Nodup
  hops : ∀ (i : Nat) (x e y am : Int), r.nodes[i]? = some x → r.edges[i]? = some e → r.nodes[i + 1]? = some y → r.amounts[i]? = some am →
    hopOk es (x, e) ∧ endAt (edgeAt es e) (1 - (sideOf (edgeAt es e) x).toNat) = y ∧ am ≤ canOf es (x, e)
  mono : ∀ (i : Nat) (u v : Int), r.amounts[i]? = some u → r.amounts[i + 1]? = some v → v ≤ u
  range : ∀ x ∈ r.amounts, isU64 x
theorem idxOf_mem {xs : List Int} {x : Int} (h : x ∈ xs) : 0 ≤ idxOf xs x := by
  induction xs with
  | nil => cases h
  | cons y ys ih =>
    unfold idxOf
    split
    · exact Int.le_refl 0
    · rename_i hne
      have hy : x ∈ ys := by
        rcases List.mem_cons.1 h with h | h
        · exact absurd h.symm hne
        · exact h
      have := ih hy
      split
      · rename_i k _; exact Int.natCast_nonneg (k + 1)
      · rename_i k hk; rw [hk] at this; exact this
structure WayG (es : List Edge) (from_ : Int) (nodes edges : List Int) : Prop where
  ok : WayOk es nodes edges
  first : nodes[0]? = some from_
  nd : nodes.Nodup
  link : ∀ (i : Nat) (x e y : Int), nodes[i]? = some x → edges[i]? = some e → nodes[i + 1]? = some y → endAt (edgeAt es e) (1 - (sideOf (edgeAt es e) x).toNat) = y
theorem WayG.snoc {es : List Edge} {from_ : Int} {nodes edges : List Int} {n : Nat} {s : Step} (h : WayG es from_ nodes edges) (hs : s ∈ stepsF n es (lastN nodes)) (hne : s.to ∉ nodes) : WayG es from_ (nodes ++ [s.to]) (edges ++ [s.edge]) where
  ok := h.ok.snoc hs
  first := by
    rw [List.getElem?_append_left (by have := h.ok.1; omega)]; exact h.first
  nd := by
    rw [List.nodup_append]
    refine ⟨h.nd, by simp, fun a ha b hb => ?_⟩
    have : b = s.to := by simpa using hb
    subst this
    rintro rfl
    exact hne ha
  link := by
    intro i x e y hx he hy
    have hl := h.ok.1
    by_cases hi : i < edges.length
    · rw [List.getElem?_append_left (by omega)] at hx
      rw [List.getElem?_append_left hi] at he
      rw [List.getElem?_append_left (by omega)] at hy
      exact h.link i x e y hx he hy
    · by_cases hi2 : i = edges.length
      · subst hi2
        rw [List.getElem?_append_right (Nat.le_refl _)] at he
        rw [List.getElem?_append_left (by omega)] at hx
        rw [List.getElem?_append_right (by omega), hl] at hy
        have he' : s.edge = e := by simpa using he
        have hy' : s.to = y := by simpa using hy
        have hx' : lastN nodes = x := by
          have := lastN_get (nodes := nodes) (by omega)
          rw [hl, Nat.add_sub_cancel, hx] at this
          exact (Option.some.inj this).symm
        subst he'; subst hy'; subst hx'
        exact (steps_hop hs).2.2.1.symm
      · have := (List.getElem?_eq_some_iff.1 he).1
        simp at this
        omega
theorem backF_last {a : Int} : ∀ {fs : List (Int × Int)}, (backF a fs).2 = 0 → (backF a fs).1[fs.length]? = some a
  | [], _ => rfl
  | f :: fs, h => by
    simp only [backF] at h ⊢
    by_cases h1 : (backF a fs).2 = 0
    · have ih := backF_last h1
      rw [if_pos h1] at h ⊢
      by_cases h2 : (overF f (backF a fs).1.head!).2 = 0
      · rw [if_pos h2]; simpa using ih
      · rw [if_neg h2] at h; exact absurd h h2
    · rw [if_neg h1] at h; exact absurd h h1
theorem backF_mono {a : Int} : ∀ {fs : List (Int × Int)}, (∀ f ∈ fs, isU64 f.1) → (backF a fs).2 = 0 → ∀ (i : Nat) (u v : Int), (backF a fs).1[i]? = some u → (backF a fs).1[i + 1]? = some v → v ≤ u
  | [], _, _, i, u, v, h1, h2 => by simp [backF] at h2
  | f :: fs, hf, h, i, u, v, hu, hv => by
    simp only [backF] at h hu hv
    by_cases h1 : (backF a fs).2 = 0
    · have hlen := backF_length h1
      rw [if_pos h1] at h hu hv
      by_cases h2 : (overF f (backF a fs).1.head!).2 = 0
      · rw [if_pos h2] at hu hv
        cases i with
        | zero =>
          have hge := overF_ge (hf f List.mem_cons_self) h2
          simp only [List.getElem?_cons_zero, Option.some.injEq] at hu
          simp only [List.getElem?_cons_succ] at hv
          have hh : (backF a fs).1.head! = v := by
            cases hb : (backF a fs).1 with
            | nil => rw [hb] at hlen; simp at hlen
            | cons z zs => rw [hb] at hv; show z = v; simpa using hv
          rw [hh] at hge hu
          omega
        | succ i =>
          simp only [List.getElem?_cons_succ] at hu hv
          exact backF_mono (fun f hf' => hf f (List.mem_cons_of_mem _ hf')) h1 i u v hu hv
      · rw [if_neg h2] at h; exact absurd h h2
    · rw [if_neg h1] at h; exact absurd h h1
theorem route_ok {es : List Edge} {from_ to a : Int} {nodes edges am : List Int} (hg : ∀ e ∈ es, goodEdge e) (ha : isU64 a) (hft : from_ ≠ to) (hw : WayG es from_ nodes edges) (hto : lastN nodes = to) (hfew : edges.length ≤ 7) (hfi : fillF es nodes edges a = some am) : RouteOk es from_ to a ⟨nodes, edges, am⟩ := by
  have hl := hw.ok.1
  have hlast := lastN_get (nodes := nodes) (by omega)
  rw [hl, Nat.add_sub_cancel, hto] at hlast
  have hone : 1 ≤ edges.length := by
    by_cases h0 : edges.length = 0
    · rw [h0, hw.first] at hlast
      exact absurd (Option.some.inj hlast) hft
    · omega
  unfold fillF at hfi
  split at hfi
  · rename_i h1
    split at hfi
    · rename_i h2
      have hfe : ∀ f ∈ feesOf es nodes edges, goodFee f := by
        intro f hf
        unfold feesOf at hf
        obtain ⟨h, hh, rfl⟩ := List.mem_map.1 hf
        exact feeOf_good hg h (hw.ok.2 h (List.mem_of_mem_tail hh))
      have hfl : (feesOf es nodes edges).length = edges.length - 1 := by
        unfold feesOf
        rw [List.length_map, List.length_tail, List.length_zip]
        omega
      have hbl := backF_length h1
      have hbr := backF_range ha hfe
      have hbm := backF_mono (fun f hf => (hfe f hf).1) h1
      have hba := backF_last h1
      obtain rfl := Option.some.inj hfi
      refine ⟨hone, hfew, hl, by show (backF a _).1.length = edges.length; omega, hw.first, hlast, ?_, hw.nd, ?_, hbm, hbr⟩
      · show (backF a _).1[edges.length - 1]? = some a
        rw [← hfl]; exact hba
      · intro i x e y am hx he hy ham
        have hz : (nodes.zip edges)[i]? = some (x, e) := by
          rw [List.getElem?_zip_eq_some]; exact ⟨hx, he⟩
        have hz2 : ((nodes.zip edges).zip (backF a (feesOf es nodes edges)).1)[i]? = some ((x, e), am) := by
          rw [List.getElem?_zip_eq_some]; exact ⟨hz, ham⟩
        exact ⟨hw.ok.2 _ (List.mem_of_getElem? hz), hw.link i x e y hx he hy, h2 _ (List.mem_of_getElem? hz2)⟩
    · cases hfi
  · cases hfi
theorem loopS_ok {P : RouteP → Prop} {f : Step → List RouteP → List RouteP × Bool} {nodes : List Int} : ∀ {ss : List Step} (_ : ∀ s ∈ ss, s.to ∉ nodes → ∀ rs, (∀ r ∈ rs, P r) → ∀ r ∈ (f s rs).1, P r) (rs : List RouteP), (∀ r ∈ rs, P r) → ∀ r ∈ (loopS f nodes ss rs).1, P r
  | [], _, rs, h => h
  | s :: ss, hf, rs, h => by
    unfold loopS
    split
    · exact loopS_ok (fun t ht => hf t (List.mem_cons_of_mem _ ht)) rs h
    · rename_i hin
      have h1 := hf s List.mem_cons_self (fun hm => hin (idxOf_mem hm)) rs h
      split
      · exact loopS_ok (fun t ht => hf t (List.mem_cons_of_mem _ ht)) _ h1
      · exact h1
theorem addF_ok {P : RouteP → Prop} {es : List Edge} {a : Int} {nodes edges : List Int} {rs : List RouteP} (h : ∀ r ∈ rs, P r) (hp : ∀ am, fillF es nodes edges a = some am → P ⟨nodes, edges, am⟩) : ∀ r ∈ addF es a nodes edges rs, P r := by
  unfold addF
  split
  · rename_i am hfi
    intro r hr
    rcases List.mem_append.1 hr with hr | hr
    · exact h r hr
    · have : r = ⟨nodes, edges, am⟩ := by simpa using hr
      subst this
      exact hp am hfi
  · exact h
theorem seekF_ok {es : List Edge} {n : Nat} {from_ to a : Int} (hg : ∀ e ∈ es, goodEdge e) (ha : isU64 a) (hft : from_ ≠ to) : ∀ (d : Nat) (nodes edges : List Int) (rs : List RouteP), WayG es from_ nodes edges → edges.length + d = 7 →
    (∀ r ∈ rs, RouteOk es from_ to a r) → ∀ r ∈ (seekF es n to a d nodes edges rs).1, RouteOk es from_ to a r
  | 0, nodes, edges, rs, hw, hd, h => by
    rw [seekF]
    split
    · rename_i hto
      exact addF_ok h (fun am hfi => route_ok hg ha hft hw hto (by omega) hfi)
    · exact h
  | d + 1, nodes, edges, rs, hw, hd, h => by
    rw [seekF]
    split
    · rename_i hto
      exact addF_ok h (fun am hfi => route_ok hg ha hft hw hto (by omega) hfi)
    · refine loopS_ok (fun s hs hne rs h => ?_) rs h
      exact seekF_ok hg ha hft d _ _ rs (hw.snoc hs hne) (by rw [List.length_append, List.length_singleton]; omega) h
theorem allF_ok {n : Nat} {es : List Edge} {from_ to a : Int} (hg : ∀ e ∈ es, goodEdge e) (ha : isU64 a) : ∀ r ∈ (allF n es from_ to a).1, RouteOk es from_ to a r := by
  unfold allF
  split
  · intro r hr; simp at hr
  · rename_i hc
    have hc : rightF n es from_ to a = 0 := Decidable.not_not.1 hc
    have hft : from_ ≠ to := by
      unfold rightF at hc
      split at hc
      · rename_i h; exact absurd hc h
      · split at hc
        · cases hc
        · rename_i h; exact fun he => h (.inr (.inr (.inr (.inr (.inl he)))))
    exact seekF_ok hg ha hft 7 [from_] [] [] ⟨⟨rfl, fun h hh => by simp at hh⟩, rfl, by simp, fun i x e y _ he => by simp at he⟩ rfl (fun r hr => by simp at hr)
theorem better_le {a b : RouteP} : (betterF a b = true → firstOf a.amounts ≤ firstOf b.amounts) ∧ (betterF a b = false → firstOf b.amounts ≤ firstOf a.amounts) := by
  unfold betterF
  simp only [Bool.or_eq_true, Bool.and_eq_true, decide_eq_true_eq, Bool.or_eq_false_iff, Bool.and_eq_false_iff, decide_eq_false_iff_not]
  omega
theorem bestOf_le : ∀ (l : List RouteP) (b : RouteP), firstOf (bestOf l b).amounts ≤ firstOf b.amounts ∧ (∀ r ∈ l, firstOf (bestOf l b).amounts ≤ firstOf r.amounts) ∧ (bestOf l b = b ∨ bestOf l b ∈ l)
  | [], b => ⟨Int.le_refl _, fun r hr => by simp at hr, .inl rfl⟩
  | r :: l, b => by
    obtain ⟨h1, h2, h3⟩ := bestOf_le l (if betterF r b = true then r else b)
    rw [bestOf]
    have hb := @better_le r b
    by_cases hc : betterF r b = true
    · rw [if_pos hc] at h1 h2 h3 ⊢
      have := hb.1 hc
      refine ⟨by omega, fun q hq => ?_, ?_⟩
      · rcases List.mem_cons.1 hq with rfl | hq
        · exact h1
        · exact h2 q hq
      · rcases h3 with h3 | h3
        · exact .inr (by rw [h3]; exact List.mem_cons_self)
        · exact .inr (List.mem_cons_of_mem _ h3)
    · rw [if_neg hc] at h1 h2 h3 ⊢
      have := hb.2 (by simpa using hc)
      refine ⟨h1, fun q hq => ?_, ?_⟩
      · rcases List.mem_cons.1 hq with rfl | hq
        · omega
        · exact h2 q hq
      · rcases h3 with h3 | h3
        · exact .inl h3
        · exact .inr (List.mem_cons_of_mem _ h3)
/-- What Best answers beside All. -/
theorem bestF_ok {n : Nat} {es : List Edge} {from_ to a : Int} (h0 : (allF n es from_ to a).2 = 0) :
    ((bestF n es from_ to a).2 = 0 ↔ (allF n es from_ to a).1 ≠ []) ∧ ((allF n es from_ to a).1 ≠ [] → (bestF n es from_ to a).1 ∈ (allF n es from_ to a).1) ∧
    ∀ r ∈ (allF n es from_ to a).1, firstOf (bestF n es from_ to a).1.amounts ≤ firstOf r.amounts := by
  unfold bestF
  rw [if_neg (fun h => h h0)]
  split
  · rename_i he; rw [he]; exact ⟨by simp, fun h => absurd rfl h, fun r hr => by simp at hr⟩
  · rename_i r rs he
    rw [he]
    obtain ⟨h1, h2, h3⟩ := bestOf_le rs r
    refine ⟨by simp, fun _ => ?_, fun q hq => ?_⟩
    · rcases h3 with h3 | h3
      · show bestOf rs r ∈ r :: rs
        rw [h3]; exact List.mem_cons_self
      · exact List.mem_cons_of_mem _ h3
    · rcases List.mem_cons.1 hq with rfl | hq
      · exact h1
      · exact h2 q hq
end Go.Proofs.Ytjimpciiaceleaa