/-
  THE WALK of rebalance's Cycle: it answers the plan that the law says. Conditions: sizes; numbers of their kinds.
-/
import Derived.Test.YtjimpciiaceleaaA24
namespace Go.Proofs.Ytjimpciiaceleaa
open Fw
set_option linter.unusedVariables false
set_option maxRecDepth 100000

structure PlanP where
  nodes : List Int
  edges : List Int
  amounts : List Int
  fees : Int
def nilP : PlanP := ⟨[], [], [], 0⟩
theorem endsF_ok {es : List Edge} {x u a f : Int} (h : endsF es x u = (a, f, 0)) : 0 ≤ x ∧ x.toNat < es.length ∧ ∃ s : Nat, s < 2 ∧ sideOf (edgeAt es x) u = s ∧ a = s ∧ f = endAt (edgeAt es x) (1 - s) := by
  unfold endsF at h
  split at h
  · rename_i h1
    split at h
    · simp at h
    · rename_i h2
      rcases side_cases (edgeAt es x) u with h3 | ⟨s, hs, h3⟩
      · omega
      · rw [h3] at h
        simp only [Prod.mk.injEq, Int.toNat_natCast, and_true] at h
        exact ⟨h1.1, h1.2, s, hs, h3, h.1.symm, h.2.symm⟩
  · simp at h
theorem withoutF_len (es : List Edge) (u : Int) : (withoutF es u).length = es.length := by unfold withoutF; rw [List.length_map]
theorem withoutF_good {es : List Edge} (hg : ∀ e ∈ es, goodEdge e) (u : Int) : ∀ e ∈ withoutF es u, goodEdge e := by
  intro e he
  unfold withoutF at he
  obtain ⟨x, hx, rfl⟩ := List.mem_map.1 he
  have := hg x hx
  unfold cutE
  split
  · have z : isU64 0 := ⟨by decide, by decide⟩
    exact ⟨z, z, this.2.2.1, this.2.2.2⟩
  · exact this
theorem withoutF_at {es : List Edge} {x : Int} (u : Int) (h : x.toNat < es.length) : edgeAt (withoutF es u) x = cutE u (edgeAt es x) := by
  unfold edgeAt withoutF
  rw [List.getElem?_map, List.getElem?_eq_getElem h]
  rfl
theorem cutE_ends (u : Int) (e : Edge) : (cutE u e).e0 = e.e0 ∧ (cutE u e).e1 = e.e1 := by
  unfold cutE; split <;> exact ⟨rfl, rfl⟩
theorem cutE_side (u v : Int) (e : Edge) : sideOf (cutE u e) v = sideOf e v := by
  unfold sideOf
  rw [(cutE_ends u e).1, (cutE_ends u e).2]
theorem cutE_endAt (u : Int) (e : Edge) (i : Nat) : endAt (cutE u e) i = endAt e i := by
  unfold endAt
  rw [(cutE_ends u e).1, (cutE_ends u e).2]
theorem best_route {n : Nat} {es : List Edge} {f t a : Int} (hg : ∀ e ∈ es, goodEdge e) (ha : isU64 a) (h : (bestF n es f t a).2 = 0) : RouteOk es f t a (bestF n es f t a).1 := by
  have h0 : (allF n es f t a).2 = 0 := by
    apply Decidable.byContradiction
    intro h0
    unfold bestF at h
    rw [if_pos h0] at h
    exact h0 h
  have hb := bestF_ok h0
  exact allF_ok hg ha _ (hb.2.1 (hb.1.1 h))
/-- What goes between out and in: an error, or nodes, channels, amounts, and what must set out. -/
noncomputable def midF (n : Nat) (es : List Edge) (node out first last asked : Int) : Int ⊕ (List Int × List Int × List Int × Int) :=
  if first = last then .inr ([node, first], [out], [], asked)
  else if (bestF n (withoutF es node) first last asked).2 ≠ 0 then .inl (bestF n (withoutF es node) first last asked).2
  else if (bestF n (withoutF es node) first last asked).1.edges.length + 2 > 7 then .inl 27
  else if (overF (feeOf es (first, gi (bestF n (withoutF es node) first last asked).1.edges 0)) (gi (bestF n (withoutF es node) first last asked).1.amounts 0)).2 ≠ 0 then
    .inl (overF (feeOf es (first, gi (bestF n (withoutF es node) first last asked).1.edges 0)) (gi (bestF n (withoutF es node) first last asked).1.amounts 0)).2
  else .inr ([node, first] ++ (bestF n (withoutF es node) first last asked).1.nodes.drop 1, [out] ++ (bestF n (withoutF es node) first last asked).1.edges, (bestF n (withoutF es node) first last asked).1.amounts,
    (overF (feeOf es (first, gi (bestF n (withoutF es node) first last asked).1.edges 0)) (gi (bestF n (withoutF es node) first last asked).1.amounts 0)).1)
def cyc3 (es : List Edge) (node out in_ a : Int) (s : Nat) : Int ⊕ (List Int × List Int × List Int × Int) → PlanP × Int
  | .inl e => (nilP, e)
  | .inr (N, X, A, asked) => if canAt (edgeAt es out) s < asked then (nilP, 28) else (⟨N ++ [node], X ++ [in_], [asked] ++ A ++ [a], IntKind.wrap .u64 (asked - a)⟩, 0)
noncomputable def backFee (es : List Edge) (in_ : Int) (s : Nat) (a : Int) : Int × Int := overF (feeAt (edgeAt es in_) (1 - s)) a
/-- rebalance.Cycle. -/
noncomputable def cycleF (n : Nat) (es : List Edge) (node out in_ a : Int) : PlanP × Int :=
  if checkF n es ≠ 0 then (nilP, checkF n es)
  else if (endsF es out node).2.2 ≠ 0 ∨ (endsF es in_ node).2.2 ≠ 0 ∨ out = in_ ∨ a = 0 then (nilP, 1)
  else if canAt (edgeAt es in_) (1 - (endsF es in_ node).1.toNat) < a then (nilP, 28)
  else if (backFee es in_ (endsF es in_ node).1.toNat a).2 ≠ 0 then (nilP, (backFee es in_ (endsF es in_ node).1.toNat a).2)
  else cyc3 es node out in_ a (endsF es out node).1.toNat (midF n es node out (endsF es out node).2.1 (endsF es in_ node).2.1 (backFee es in_ (endsF es in_ node).1.toNat a).1)
theorem cycleF_on {n : Nat} {es : List Edge} {node out in_ a first last : Int} {s1 s2 : Nat} (hck : checkF n es = 0) (hp : endsF es out node = ((s1 : Int), first, 0)) (hq : endsF es in_ node = ((s2 : Int), last, 0)) (hne : out ≠ in_) (ha : a ≠ 0) :
    cycleF n es node out in_ a = if canAt (edgeAt es in_) (1 - s2) < a then (nilP, 28) else if (backFee es in_ s2 a).2 ≠ 0 then (nilP, (backFee es in_ s2 a).2) else cyc3 es node out in_ a s1 (midF n es node out first last (backFee es in_ s2 a).1) := by
  rw [cycleF, if_neg (fun h => h hck), hp, hq, if_neg (by rintro (h | h | h | h); exact h rfl; exact h rfl; exact hne h; exact ha h)]
  rfl
theorem edge_fee {A : Array Value} {o : Nat} {e : Edge} (h : Seg A o (encE e)) {s : Nat} (hs : s < 2) : Seg A (o + 4 + (1 - (s : Int)).toNat * 2) (encFee (feeAt e (1 - s))) ∧ Seg A (o + 4 + (s : Int).toNat * 2) (encFee (feeAt e s)) := by
  have h01 : s = 0 ∨ s = 1 := by omega
  rcases h01 with rfl | rfl
  · exact ⟨h.part 6 2 (Nat.le_of_ble_eq_true rfl), h.part 4 2 (Nat.le_of_ble_eq_true rfl)⟩
  · exact ⟨h.part 4 2 (Nat.le_of_ble_eq_true rfl), h.part 6 2 (Nat.le_of_ble_eq_true rfl)⟩
theorem feeAt_good {e : Edge} (h : goodEdge e) (s : Nat) : goodFee (feeAt e s) := by
  unfold feeAt
  split
  · exact h.2.2.1
  · exact h.2.2.2
theorem seg_drop1 {A : Array Value} {o : Nat} {xs : List Int} (h : Seg A o (xs.flatMap encI)) : Seg A (o + (1 : Int).toNat * 1) ((xs.drop 1).flatMap encI) := by
  cases xs with
  | nil => intro j hj; simp at hj
  | cons x xs =>
    intro j hj
    have := h (1 + j) (by simp only [List.flatMap_cons, List.length_append, encI, List.length_singleton] at hj ⊢; simp only [List.drop_one, List.tail_cons] at hj; omega)
    rw [← Nat.add_assoc] at this
    show A[o + 1 + j]? = _
    rw [this]
    show ([I x] ++ xs.flatMap encI)[1 + j]? = (xs.flatMap encI)[j]?
    rw [List.getElem?_append_right (by simp), List.length_singleton, Nat.add_sub_cancel_left]

theorem rdl_nilb {α : Type} {L : List Blk} {enc : α → List Value} {k : Nat} (b : Nat) : RdL L enc k (.slice (some ⟨b, 0, none⟩) 0 0) [] := ⟨_, 0, rfl, by simp, Nat.le_refl 0, ⟨fun q h => (by cases h; rfl), fun h => (by cases h)⟩, fun h => absurd rfl h⟩

theorem own1I (e b : Nat) (x : Int) : OwnL e encI 1 (.slice (some ⟨b, 0, none⟩) 1 1) [x] [(b, .cells [I x].toArray e (0, 0))] := OwnL.of (enc := encI) (k := 1) (xs := [x]) (rest := []) (cap := 1) (fun _ => rfl) rfl (Nat.le_refl 1)
theorem own2I (e b : Nat) (x y : Int) : OwnL e encI 1 (.slice (some ⟨b, 0, none⟩) 2 2) [x, y] [(b, .cells [I x, I y].toArray e (0, 0))] := OwnL.of (enc := encI) (k := 1) (xs := [x, y]) (rest := []) (cap := 2) (fun _ => rfl) rfl (Nat.le_refl 2)
theorem own1U (e b : Nat) (x : Int) : OwnL e encU 1 (.slice (some ⟨b, 0, none⟩) 1 1) [x] [(b, .cells [U x].toArray e (0, 0))] := OwnL.of (enc := encU) (k := 1) (xs := [x]) (rest := []) (cap := 1) (fun _ => rfl) rfl (Nat.le_refl 1)
theorem repI : ([] : List Value).append (rep 0 [Value.int IntKind.i64 0]) = [] := rfl
theorem repU : ([] : List Value).append (rep 0 [Value.int IntKind.u64 0]) = [] := rfl
theorem repU0 : rep 0 [Value.int IntKind.u64 0] = [] := rfl

theorem cycle_ca (spots : List (Int × Int)) (es : List Edge) (node out in_ a : Int) (sv ev : Value) (hn : spots.length ≤ 1000) (hes : es.length ≤ 1000) (hg : ∀ e ∈ es, goodEdge e) (ha : isU64 a) (O : Out) (L : List Blk) (hs : RdL L encSp 2 sv spots) (he : RdL L encE 8 ev es) :
    CA Try.prog 15 [.agg #[sv, ev], I node, I out, I in_, U a] O L fun v L' => ∃ nv xv cv B, v = .tuple #[.agg #[nv, xv, cv, U (cycleF spots.length es node out in_ a).1.fees], I (cycleF spots.length es node out in_ a).2] ∧ L' = B ++ L ∧
      RdL B encI 1 nv (cycleF spots.length es node out in_ a).1.nodes ∧ RdL B encI 1 xv (cycleF spots.length es node out in_ a).1.edges ∧ RdL B encU 1 cv (cycleF spots.length es node out in_ a).1.amounts := by
  obtain ⟨pz, cz, rfl, _⟩ := id hs
  obtain ⟨pe, ce, rfl, _, _, _, hRe⟩ := id he
  refine ca_enter Try.func15 rfl rfl ?_
  rw [Try.ntmps15]
  simp only [envOf]
  refine cg_seq ?_
  refine cg_region ?_
  refine rg_e (.inl rfl) rfl rfl (by exact ev_box rfl (by first | exact CellsOf.agg | exact CellsOf.one rfl)) ?_
  rintro _ _ ⟨b5, rfl, rfl⟩
  refine rg_e (.inl rfl) rfl rfl (by exact ev_alloc (by first | exact CellsOf.agg | exact CellsOf.one rfl)) ?_
  rintro _ _ ⟨b10, rfl, rfl⟩
  refine rg_q (.inl rfl) rfl rfl (by exact QW.qr (qw_assign rfl)) ?_
  refine rg_nil ?_
  refine qg_then ?_
  refine cg_seq ?_
  refine cg_seq ?_
  refine cg_region ?_
  refine rg_q (.inl rfl) rfl rfl (by exact qr_loadN rfl (by repeat (first | exact List.Mem.head _ | apply List.Mem.tail | apply List.mem_append_right | assumption)) (by repeat (first | exact SegL.done | apply SegL.take | apply SegL.skip))) ?_
  refine rg_e (.inl rfl) rfl rfl (by exact ev_call0 rfl (.cons rfl (.nil)) (check_ca spots.length es _ _ _ O _ (he.mono (fun q hq => by repeat (first | exact hq | apply List.mem_append_right | apply List.mem_cons_of_mem))) (by omega) (by omega))) ?_
  rintro _ _ ⟨rfl, rfl⟩
  refine rg_q (.inl rfl) rfl rfl (by exact QW.qr (qw_assign rfl)) ?_
  refine rg_nil ?_
  refine qg_then ?_
  refine cg_seq ?_
  refine cg_region ?_
  refine rg_q (.inl rfl) rfl rfl (by exact QW.qr (qw_move rfl)) ?_
  refine rg_split (.inl rfl) rfl rfl (by exact qc_neq rfl rfl) ?_ ?_
  · intro hc
    have hfin : cycleF spots.length es node out in_ a = (nilP, checkF spots.length es) := by rw [cycleF, if_pos hc]
    refine rg_nil ?_
    refine qg_then ?_
    refine cg_true rfl ?_
    refine cg_seq ?_
    refine cg_region ?_
    refine rg_q (.inl rfl) rfl rfl (by exact QW.qr (qw_build (.nil) rfl (.nil))) ?_
    refine rg_q (.inl rfl) rfl rfl (by exact QW.qr (qw_move rfl)) ?_
    refine rg_e0 (.inl rfl) rfl (by exact ev_store rfl rfl (by first | exact CellsOf.agg | exact CellsOf.one rfl) (by repeat (first | exact List.Mem.head _ | apply List.Mem.tail | apply List.mem_append_right | assumption)) (by repeat (first | exact SetSeg.done | apply SetSeg.take | apply SetSeg.skip)) rfl rfl (by repeat (first | exact Upd.here | apply Upd.there | apply Upd.app)) (by first | exact Or.inl ⟨inferInstance, rfl⟩ | exact Or.inr inferInstance)) ?_
    rintro _ _ ⟨rfl, rfl⟩
    refine rg_q (.inl rfl) rfl rfl (by exact QW.qr (qw_assign rfl)) ?_
    refine rg_nil ?_
    refine qg_then ?_
    refine cg_ret ?_
    refine qg_then_ret ?_
    exact qg_end (.inl rfl) _ (.cons (resCellN rfl (by repeat (first | exact List.Mem.head _ | apply List.Mem.tail | apply List.mem_append_right | assumption)) (by repeat (first | exact SegL.done | apply SegL.take | apply SegL.skip))) (.cons (.tmp rfl) (.nil))) L (by repeat (first | exact List.Sublist.refl _ | exact List.nil_sublist _ | exact List.sublist_append_right _ _ | apply List.Sublist.cons_cons | apply List.Sublist.cons | refine List.Sublist.trans ?_ (List.sublist_append_right _ _))) ⟨.slice none 0 0, .slice none 0 0, .slice none 0 0, [], by rw [hfin]; rfl, rfl, by rw [hfin]; exact rdl_nil, by rw [hfin]; exact rdl_nil, by rw [hfin]; exact rdl_nil⟩
  · intro hc
    have hck := Decidable.not_not.1 hc
    refine rg_nil ?_
    refine qg_then ?_
    refine cg_false rfl ?_
    refine cg_skip ?_
    refine qg_then ?_
    refine cg_seq ?_
    refine cg_region ?_
    refine rg_q (.inl rfl) rfl rfl (by exact qr_loadN rfl (by repeat (first | exact List.Mem.head _ | apply List.Mem.tail | apply List.mem_append_right | assumption)) (by repeat (first | exact SegL.done | apply SegL.take | apply SegL.skip))) ?_
    refine rg_q (.inl rfl) rfl rfl (by exact QW.qr (qw_move rfl)) ?_
    refine rg_q (.inl rfl) rfl rfl (by exact QW.qr (qw_move rfl)) ?_
    refine rg_e (.inl rfl) rfl rfl (by exact ev_call0 rfl (.cons rfl (.cons rfl (.cons rfl (.nil)))) (ends_ca es out node _ _ rfl hes O _ (he.mono (fun q hq => by repeat (first | exact hq | apply List.mem_append_right | apply List.mem_cons_of_mem))))) ?_
    rintro _ _ ⟨rfl, rfl⟩
    generalize hp : endsF es out node = p
    obtain ⟨sa, first, e1⟩ := p
    refine rg_q (.inl rfl) rfl rfl (by exact QW.qr (qw_move rfl)) ?_
    refine rg_q (.inl rfl) rfl rfl (by exact QW.qr (qw_extract rfl rfl)) ?_
    refine rg_q (.inl rfl) rfl rfl (by exact QW.qr (qw_extract rfl rfl)) ?_
    refine rg_q (.inl rfl) rfl rfl (by exact QW.qr (qw_extract rfl rfl)) ?_
    refine rg_q (.inl rfl) rfl rfl (by exact QW.qr (qw_assign rfl)) ?_
    refine rg_q (.inl rfl) rfl rfl (by exact QW.qr (qw_assign rfl)) ?_
    refine rg_q (.inl rfl) rfl rfl (by exact QW.qr (qw_assign rfl)) ?_
    refine rg_nil ?_
    refine qg_then ?_
    refine cg_seq ?_
    refine cg_region ?_
    refine rg_q (.inl rfl) rfl rfl (by exact qr_loadN rfl (by repeat (first | exact List.Mem.head _ | apply List.Mem.tail | apply List.mem_append_right | assumption)) (by repeat (first | exact SegL.done | apply SegL.take | apply SegL.skip))) ?_
    refine rg_q (.inl rfl) rfl rfl (by exact QW.qr (qw_move rfl)) ?_
    refine rg_q (.inl rfl) rfl rfl (by exact QW.qr (qw_move rfl)) ?_
    refine rg_e (.inl rfl) rfl rfl (by exact ev_call0 rfl (.cons rfl (.cons rfl (.cons rfl (.nil)))) (ends_ca es in_ node _ _ rfl hes O _ (he.mono (fun q hq => by repeat (first | exact hq | apply List.mem_append_right | apply List.mem_cons_of_mem))))) ?_
    rintro _ _ ⟨rfl, rfl⟩
    generalize hq : endsF es in_ node = q
    obtain ⟨sb, last, e2⟩ := q
    refine rg_q (.inl rfl) rfl rfl (by exact QW.qr (qw_move rfl)) ?_
    refine rg_q (.inl rfl) rfl rfl (by exact QW.qr (qw_extract rfl rfl)) ?_
    refine rg_q (.inl rfl) rfl rfl (by exact QW.qr (qw_extract rfl rfl)) ?_
    refine rg_q (.inl rfl) rfl rfl (by exact QW.qr (qw_extract rfl rfl)) ?_
    refine rg_q (.inl rfl) rfl rfl (by exact QW.qr (qw_assign rfl)) ?_
    refine rg_q (.inl rfl) rfl rfl (by exact QW.qr (qw_assign rfl)) ?_
    refine rg_q (.inl rfl) rfl rfl (by exact QW.qr (qw_assign rfl)) ?_
    refine rg_nil ?_
    refine qg_then ?_
    refine cg_seq ?_
    refine cg_seq ?_
    refine cg_region ?_
    refine rg_q (.inl rfl) rfl rfl (by exact QW.qr (qw_move rfl)) ?_
    refine rg_split (.inl rfl) rfl rfl (by exact qc_neq rfl rfl) ?_ ?_
    · intro h1
      have hfin : cycleF spots.length es node out in_ a = (nilP, 1) := by rw [cycleF, if_neg hc, if_pos (.inl (by rw [hp]; exact h1))]
      refine rg_q (.inl rfl) rfl rfl (by exact QW.qr (qw_move rfl)) ?_
      refine rg_s (guard_mk rfl rfl rfl rfl) rfl rfl ?_
      refine rg_s (guard_mk rfl rfl rfl rfl) rfl rfl ?_
      refine rg_q (.inl rfl) rfl rfl (by exact QW.qr (qw_pick_t rfl rfl)) ?_
      refine rg_q (.inl rfl) rfl rfl (by exact QW.qr (qw_move rfl)) ?_
      refine rg_s (guard_mk rfl rfl rfl rfl) rfl rfl ?_
      refine rg_s (guard_mk rfl rfl rfl rfl) rfl rfl ?_
      refine rg_s (guard_mk rfl rfl rfl rfl) rfl rfl ?_
      refine rg_q (.inl rfl) rfl rfl (by exact QW.qr (qw_pick_t rfl rfl)) ?_
      refine rg_q (.inl rfl) rfl rfl (by exact QW.qr (qw_move rfl)) ?_
      refine rg_s (guard_mk rfl rfl rfl rfl) rfl rfl ?_
      refine rg_s (guard_mk rfl rfl rfl rfl) rfl rfl ?_
      refine rg_q (.inl rfl) rfl rfl (by exact QW.qr (qw_pick_t rfl rfl)) ?_
      refine rg_nil ?_
      refine qg_then ?_
      refine cg_true rfl ?_
      refine cg_seq ?_
      refine cg_region ?_
      refine rg_q (.inl rfl) rfl rfl (by exact QW.qr (qw_build (.nil) rfl (.nil))) ?_
      refine rg_e0 (.inl rfl) rfl (by exact ev_store rfl rfl (by first | exact CellsOf.agg | exact CellsOf.one rfl) (by repeat (first | exact List.Mem.head _ | apply List.Mem.tail | apply List.mem_append_right | assumption)) (by repeat (first | exact SetSeg.done | apply SetSeg.take | apply SetSeg.skip)) rfl rfl (by repeat (first | exact Upd.here | apply Upd.there | apply Upd.app)) (by first | exact Or.inl ⟨inferInstance, rfl⟩ | exact Or.inr inferInstance)) ?_
      rintro _ _ ⟨rfl, rfl⟩
      refine rg_q (.inl rfl) rfl rfl (by exact QW.qr (qw_assign rfl)) ?_
      refine rg_nil ?_
      refine qg_then ?_
      refine cg_ret ?_
      refine qg_then_ret ?_
      exact qg_end (.inl rfl) _ (.cons (resCellN rfl (by repeat (first | exact List.Mem.head _ | apply List.Mem.tail | apply List.mem_append_right | assumption)) (by repeat (first | exact SegL.done | apply SegL.take | apply SegL.skip))) (.cons (.tmp rfl) (.nil))) L (by repeat (first | exact List.Sublist.refl _ | exact List.nil_sublist _ | exact List.sublist_append_right _ _ | apply List.Sublist.cons_cons | apply List.Sublist.cons | refine List.Sublist.trans ?_ (List.sublist_append_right _ _))) ⟨.slice none 0 0, .slice none 0 0, .slice none 0 0, [], by rw [hfin]; rfl, rfl, by rw [hfin]; exact rdl_nil, by rw [hfin]; exact rdl_nil, by rw [hfin]; exact rdl_nil⟩
    · intro h1
      refine rg_q (.inl rfl) rfl rfl (by exact QW.qr (qw_move rfl)) ?_
      refine rg_q (.inr (guard_mk rfl rfl rfl rfl)) rfl rfl (by exact QW.qr (qw_move rfl)) ?_
      refine rg_split (.inr (guard_mk rfl rfl rfl rfl)) rfl rfl (by exact qc_neq rfl rfl) ?_ ?_
      · intro h2
        have hfin : cycleF spots.length es node out in_ a = (nilP, 1) := by rw [cycleF, if_neg hc, if_pos (.inr (.inl (by rw [hq]; exact h2)))]
        refine rg_q (.inl rfl) rfl rfl (by exact QW.qr (qw_pick_f rfl rfl)) ?_
        refine rg_q (.inl rfl) rfl rfl (by exact QW.qr (qw_move rfl)) ?_
        refine rg_s (guard_mk rfl rfl rfl rfl) rfl rfl ?_
        refine rg_s (guard_mk rfl rfl rfl rfl) rfl rfl ?_
        refine rg_s (guard_mk rfl rfl rfl rfl) rfl rfl ?_
        refine rg_q (.inl rfl) rfl rfl (by exact QW.qr (qw_pick_t rfl rfl)) ?_
        refine rg_q (.inl rfl) rfl rfl (by exact QW.qr (qw_move rfl)) ?_
        refine rg_s (guard_mk rfl rfl rfl rfl) rfl rfl ?_
        refine rg_s (guard_mk rfl rfl rfl rfl) rfl rfl ?_
        refine rg_q (.inl rfl) rfl rfl (by exact QW.qr (qw_pick_t rfl rfl)) ?_
        refine rg_nil ?_
        refine qg_then ?_
        refine cg_true rfl ?_
        refine cg_seq ?_
        refine cg_region ?_
        refine rg_q (.inl rfl) rfl rfl (by exact QW.qr (qw_build (.nil) rfl (.nil))) ?_
        refine rg_e0 (.inl rfl) rfl (by exact ev_store rfl rfl (by first | exact CellsOf.agg | exact CellsOf.one rfl) (by repeat (first | exact List.Mem.head _ | apply List.Mem.tail | apply List.mem_append_right | assumption)) (by repeat (first | exact SetSeg.done | apply SetSeg.take | apply SetSeg.skip)) rfl rfl (by repeat (first | exact Upd.here | apply Upd.there | apply Upd.app)) (by first | exact Or.inl ⟨inferInstance, rfl⟩ | exact Or.inr inferInstance)) ?_
        rintro _ _ ⟨rfl, rfl⟩
        refine rg_q (.inl rfl) rfl rfl (by exact QW.qr (qw_assign rfl)) ?_
        refine rg_nil ?_
        refine qg_then ?_
        refine cg_ret ?_
        refine qg_then_ret ?_
        exact qg_end (.inl rfl) _ (.cons (resCellN rfl (by repeat (first | exact List.Mem.head _ | apply List.Mem.tail | apply List.mem_append_right | assumption)) (by repeat (first | exact SegL.done | apply SegL.take | apply SegL.skip))) (.cons (.tmp rfl) (.nil))) L (by repeat (first | exact List.Sublist.refl _ | exact List.nil_sublist _ | exact List.sublist_append_right _ _ | apply List.Sublist.cons_cons | apply List.Sublist.cons | refine List.Sublist.trans ?_ (List.sublist_append_right _ _))) ⟨.slice none 0 0, .slice none 0 0, .slice none 0 0, [], by rw [hfin]; rfl, rfl, by rw [hfin]; exact rdl_nil, by rw [hfin]; exact rdl_nil, by rw [hfin]; exact rdl_nil⟩
      · intro h2
        refine rg_q (.inl rfl) rfl rfl (by exact QW.qr (qw_pick_f rfl rfl)) ?_
        refine rg_q (.inl rfl) rfl rfl (by exact QW.qr (qw_move rfl)) ?_
        refine rg_q (.inr (guard_mk rfl rfl rfl rfl)) rfl rfl (by exact QW.qr (qw_move rfl)) ?_
        refine rg_q (.inr (guard_mk rfl rfl rfl rfl)) rfl rfl (by exact QW.qr (qw_move rfl)) ?_
        refine rg_split (.inr (guard_mk rfl rfl rfl rfl)) rfl rfl (by exact qc_eql rfl rfl) ?_ ?_
        · intro h3
          have hfin : cycleF spots.length es node out in_ a = (nilP, 1) := by rw [cycleF, if_neg hc, if_pos (.inr (.inr (.inl h3)))]
          refine rg_q (.inl rfl) rfl rfl (by exact QW.qr (qw_pick_f rfl rfl)) ?_
          refine rg_q (.inl rfl) rfl rfl (by exact QW.qr (qw_move rfl)) ?_
          refine rg_s (guard_mk rfl rfl rfl rfl) rfl rfl ?_
          refine rg_s (guard_mk rfl rfl rfl rfl) rfl rfl ?_
          refine rg_q (.inl rfl) rfl rfl (by exact QW.qr (qw_pick_t rfl rfl)) ?_
          refine rg_nil ?_
          refine qg_then ?_
          refine cg_true rfl ?_
          refine cg_seq ?_
          refine cg_region ?_
          refine rg_q (.inl rfl) rfl rfl (by exact QW.qr (qw_build (.nil) rfl (.nil))) ?_
          refine rg_e0 (.inl rfl) rfl (by exact ev_store rfl rfl (by first | exact CellsOf.agg | exact CellsOf.one rfl) (by repeat (first | exact List.Mem.head _ | apply List.Mem.tail | apply List.mem_append_right | assumption)) (by repeat (first | exact SetSeg.done | apply SetSeg.take | apply SetSeg.skip)) rfl rfl (by repeat (first | exact Upd.here | apply Upd.there | apply Upd.app)) (by first | exact Or.inl ⟨inferInstance, rfl⟩ | exact Or.inr inferInstance)) ?_
          rintro _ _ ⟨rfl, rfl⟩
          refine rg_q (.inl rfl) rfl rfl (by exact QW.qr (qw_assign rfl)) ?_
          refine rg_nil ?_
          refine qg_then ?_
          refine cg_ret ?_
          refine qg_then_ret ?_
          exact qg_end (.inl rfl) _ (.cons (resCellN rfl (by repeat (first | exact List.Mem.head _ | apply List.Mem.tail | apply List.mem_append_right | assumption)) (by repeat (first | exact SegL.done | apply SegL.take | apply SegL.skip))) (.cons (.tmp rfl) (.nil))) L (by repeat (first | exact List.Sublist.refl _ | exact List.nil_sublist _ | exact List.sublist_append_right _ _ | apply List.Sublist.cons_cons | apply List.Sublist.cons | refine List.Sublist.trans ?_ (List.sublist_append_right _ _))) ⟨.slice none 0 0, .slice none 0 0, .slice none 0 0, [], by rw [hfin]; rfl, rfl, by rw [hfin]; exact rdl_nil, by rw [hfin]; exact rdl_nil, by rw [hfin]; exact rdl_nil⟩
        · intro h3
          refine rg_q (.inl rfl) rfl rfl (by exact QW.qr (qw_pick_f rfl rfl)) ?_
          refine rg_q (.inl rfl) rfl rfl (by exact QW.qr (qw_move rfl)) ?_
          refine rg_q (.inr (guard_mk rfl rfl rfl rfl)) rfl rfl (by exact QW.qr (qw_move rfl)) ?_
          refine rg_split (.inr (guard_mk rfl rfl rfl rfl)) rfl rfl (by exact qc_eql rfl rfl) ?_ ?_
          · intro h4
            have hfin : cycleF spots.length es node out in_ a = (nilP, 1) := by rw [cycleF, if_neg hc, if_pos (.inr (.inr (.inr h4)))]
            refine rg_q (.inl rfl) rfl rfl (by exact QW.qr (qw_pick_f rfl rfl)) ?_
            refine rg_nil ?_
            refine qg_then ?_
            refine cg_true rfl ?_
            refine cg_seq ?_
            refine cg_region ?_
            refine rg_q (.inl rfl) rfl rfl (by exact QW.qr (qw_build (.nil) rfl (.nil))) ?_
            refine rg_e0 (.inl rfl) rfl (by exact ev_store rfl rfl (by first | exact CellsOf.agg | exact CellsOf.one rfl) (by repeat (first | exact List.Mem.head _ | apply List.Mem.tail | apply List.mem_append_right | assumption)) (by repeat (first | exact SetSeg.done | apply SetSeg.take | apply SetSeg.skip)) rfl rfl (by repeat (first | exact Upd.here | apply Upd.there | apply Upd.app)) (by first | exact Or.inl ⟨inferInstance, rfl⟩ | exact Or.inr inferInstance)) ?_
            rintro _ _ ⟨rfl, rfl⟩
            refine rg_q (.inl rfl) rfl rfl (by exact QW.qr (qw_assign rfl)) ?_
            refine rg_nil ?_
            refine qg_then ?_
            refine cg_ret ?_
            refine qg_then_ret ?_
            exact qg_end (.inl rfl) _ (.cons (resCellN rfl (by repeat (first | exact List.Mem.head _ | apply List.Mem.tail | apply List.mem_append_right | assumption)) (by repeat (first | exact SegL.done | apply SegL.take | apply SegL.skip))) (.cons (.tmp rfl) (.nil))) L (by repeat (first | exact List.Sublist.refl _ | exact List.nil_sublist _ | exact List.sublist_append_right _ _ | apply List.Sublist.cons_cons | apply List.Sublist.cons | refine List.Sublist.trans ?_ (List.sublist_append_right _ _))) ⟨.slice none 0 0, .slice none 0 0, .slice none 0 0, [], by rw [hfin]; rfl, rfl, by rw [hfin]; exact rdl_nil, by rw [hfin]; exact rdl_nil, by rw [hfin]; exact rdl_nil⟩
          · intro h4
            obtain rfl := Decidable.not_not.1 h1
            obtain rfl := Decidable.not_not.1 h2
            obtain ⟨ho0, ho1, s1, hs1, hso, rfl, hfst⟩ := endsF_ok hp
            obtain ⟨hi0, hi1, s2, hs2, hsi, rfl, hlst⟩ := endsF_ok hq
            have hcy := cycleF_on hck hp hq h3 h4
            obtain ⟨b0, o0, A0, t0, fz0, rfl, hm0, hseg⟩ := hRe (by omega)
            have hfe := hseg.elem (enc := encE) (k := 8) (fun _ => rfl) hi1
            rw [edgeAt_eq hi1] at hfe
            have hfo := hseg.elem (enc := encE) (k := 8) (fun _ => rfl) ho1
            rw [edgeAt_eq ho1] at hfo
            have hgi := hg _ (List.getElem_mem hi1)
            rw [edgeAt_eq hi1] at hgi
            have hcanB := (edge_can (seg_self (encE (edgeAt es in_))) hs2).2
            have hfeeB := (edge_fee (seg_self (encE (edgeAt es in_))) hs2).1
            have hcanO := (edge_can hfo hs1).1
            have hfg := feeAt_good hgi (1 - s2)
            refine rg_q (.inl rfl) rfl rfl (by exact QW.qr (qw_pick_f rfl rfl)) ?_
            refine rg_nil ?_
            refine qg_then ?_
            refine cg_false rfl ?_
            refine cg_skip ?_
            refine qg_then ?_
            refine cg_seq ?_
            refine cg_region ?_
            refine rg_q (.inl rfl) rfl rfl (by exact QW.qr (qw_fieldAddr rfl)) ?_
            refine rg_q (.inl rfl) rfl rfl (by exact qr_load1 rfl (by repeat (first | exact List.Mem.head _ | apply List.Mem.tail | apply List.mem_append_right | assumption)) rfl) ?_
            refine rg_q (.inl rfl) rfl rfl (by exact QW.qr (qw_move rfl)) ?_
            refine rg_q (.inl rfl) rfl rfl (by exact QW.qr (qw_indexAddr rfl rfl (by exact hi0) (by show in_ < _; omega))) ?_
            refine rg_q (.inl rfl) rfl rfl (by exact qr_loadS rfl (List.mem_cons_of_mem _ (List.mem_cons_of_mem _ hm0)) hfe rfl) ?_
            refine rg_e (.inl rfl) rfl rfl (by exact ev_alloc (by first | exact CellsOf.agg | exact CellsOf.one rfl)) ?_
            rintro _ _ ⟨b19, rfl, rfl⟩
            refine rg_e0 (.inl rfl) rfl (by exact ev_store rfl rfl (by first | exact CellsOf.agg | exact CellsOf.one rfl) (by repeat (first | exact List.Mem.head _ | apply List.Mem.tail | apply List.mem_append_right | assumption)) (by repeat (first | exact SetSeg.done | apply SetSeg.take | apply SetSeg.skip)) rfl rfl (by repeat (first | exact Upd.here | apply Upd.there | apply Upd.app)) (by first | exact Or.inl ⟨inferInstance, rfl⟩ | exact Or.inr inferInstance)) ?_
            rintro _ _ ⟨rfl, rfl⟩
            refine rg_nil ?_
            refine qg_then ?_
            refine cg_seq ?_
            refine cg_seq ?_
            refine cg_region ?_
            refine rg_q (.inl rfl) rfl rfl (by exact QW.qr (qw_move rfl)) ?_
            refine rg_q (.inl rfl) rfl rfl (by exact QW.qr (qw_sub_in rfl rfl (by unfold inK; omega))) ?_
            refine rg_q (.inl rfl) rfl rfl (by exact QW.qr (qw_fieldAddr rfl)) ?_
            refine rg_q (.inl rfl) rfl rfl (by exact QW.qr (qw_indexAddr_arr rfl rfl (by omega) (by omega))) ?_
            refine rg_q (.inl rfl) rfl rfl (by exact qr_load1' rfl (List.Mem.head _) (by exact hcanB)) ?_
            refine rg_q (.inl rfl) rfl rfl (by exact QW.qr (qw_move rfl)) ?_
            refine rg_split (.inl rfl) rfl rfl (by exact qc_lss rfl rfl) ?_ ?_
            · intro hroom
              have hfin : cycleF spots.length es node out in_ a = (nilP, 28) := by rw [hcy, if_pos hroom]
              refine rg_nil ?_
              refine qg_then ?_
              refine cg_true rfl ?_
              refine cg_seq ?_
              refine cg_region ?_
              refine rg_q (.inl rfl) rfl rfl (by exact QW.qr (qw_build (.nil) rfl (.nil))) ?_
              refine rg_e0 (.inl rfl) rfl (by exact ev_store rfl rfl (by first | exact CellsOf.agg | exact CellsOf.one rfl) (by repeat (first | exact List.Mem.head _ | apply List.Mem.tail | apply List.mem_append_right | assumption)) (by repeat (first | exact SetSeg.done | apply SetSeg.take | apply SetSeg.skip)) rfl rfl (by repeat (first | exact Upd.here | apply Upd.there | apply Upd.app)) (by first | exact Or.inl ⟨inferInstance, rfl⟩ | exact Or.inr inferInstance)) ?_
              rintro _ _ ⟨rfl, rfl⟩
              refine rg_q (.inl rfl) rfl rfl (by exact QW.qr (qw_assign rfl)) ?_
              refine rg_nil ?_
              refine qg_then ?_
              refine cg_ret ?_
              refine qg_then_ret ?_
              exact qg_end (.inl rfl) _ (.cons (resCellN rfl (by repeat (first | exact List.Mem.head _ | apply List.Mem.tail | apply List.mem_append_right | assumption)) (by repeat (first | exact SegL.done | apply SegL.take | apply SegL.skip))) (.cons (.tmp rfl) (.nil))) L (by repeat (first | exact List.Sublist.refl _ | exact List.nil_sublist _ | exact List.sublist_append_right _ _ | apply List.Sublist.cons_cons | apply List.Sublist.cons | refine List.Sublist.trans ?_ (List.sublist_append_right _ _))) ⟨.slice none 0 0, .slice none 0 0, .slice none 0 0, [], by rw [hfin]; rfl, rfl, by rw [hfin]; exact rdl_nil, by rw [hfin]; exact rdl_nil, by rw [hfin]; exact rdl_nil⟩
            · intro hroom
              rw [if_neg hroom] at hcy
              refine rg_nil ?_
              refine qg_then ?_
              refine cg_false rfl ?_
              refine cg_skip ?_
              refine qg_then ?_
              refine cg_seq ?_
              refine cg_region ?_
              refine rg_q (.inl rfl) rfl rfl (by exact QW.qr (qw_move rfl)) ?_
              refine rg_q (.inl rfl) rfl rfl (by exact QW.qr (qw_sub_in rfl rfl (by unfold inK; omega))) ?_
              refine rg_q (.inl rfl) rfl rfl (by exact QW.qr (qw_fieldAddr rfl)) ?_
              refine rg_q (.inl rfl) rfl rfl (by exact QW.qr (qw_indexAddr_arr rfl rfl (by omega) (by omega))) ?_
              refine rg_q (.inl rfl) rfl rfl (by exact qr_loadS (vs := [U (feeAt (edgeAt es in_) (1 - s2)).1, U (feeAt (edgeAt es in_) (1 - s2)).2]) rfl (List.Mem.head _) (by exact hfeeB) rfl) ?_
              refine rg_q (.inl rfl) rfl rfl (by exact QW.qr (qw_move rfl)) ?_
              refine rg_e (.inl rfl) rfl rfl (by exact ev_call0 rfl (.cons rfl (.cons rfl (.nil))) (over_ca (feeAt (edgeAt es in_) (1 - s2)) a ha hfg.1 O _)) ?_
              rintro _ _ ⟨rfl, rfl⟩
              have hau := overF_range (f := feeAt (edgeAt es in_) (1 - s2)) (a := a) ha hfg.1
              change isU64 (backFee es in_ s2 a).1 at hau
              generalize ho : overF (feeAt (edgeAt es in_) (1 - s2)) a = o
              change backFee es in_ s2 a = o at ho
              rw [ho] at hau hcy
              obtain ⟨asked, eo⟩ := o
              replace hau : isU64 asked := hau
              refine rg_q (.inl rfl) rfl rfl (by exact QW.qr (qw_move rfl)) ?_
              refine rg_q (.inl rfl) rfl rfl (by exact QW.qr (qw_extract rfl rfl)) ?_
              refine rg_q (.inl rfl) rfl rfl (by exact QW.qr (qw_extract rfl rfl)) ?_
              refine rg_q (.inl rfl) rfl rfl (by exact QW.qr (qw_assign rfl)) ?_
              refine rg_q (.inl rfl) rfl rfl (by exact QW.qr (qw_assign rfl)) ?_
              refine rg_nil ?_
              refine qg_then ?_
              refine cg_seq ?_
              refine cg_seq ?_
              refine cg_region ?_
              refine rg_q (.inl rfl) rfl rfl (by exact QW.qr (qw_move rfl)) ?_
              refine rg_split (.inl rfl) rfl rfl (by exact qc_neq rfl rfl) ?_ ?_
              · intro h5
                have hfin : cycleF spots.length es node out in_ a = (nilP, eo) := by rw [hcy, if_pos h5]
                refine rg_nil ?_
                refine qg_then ?_
                refine cg_true rfl ?_
                refine cg_seq ?_
                refine cg_region ?_
                refine rg_q (.inl rfl) rfl rfl (by exact QW.qr (qw_build (.nil) rfl (.nil))) ?_
                refine rg_q (.inl rfl) rfl rfl (by exact QW.qr (qw_move rfl)) ?_
                refine rg_e0 (.inl rfl) rfl (by exact ev_store rfl rfl (by first | exact CellsOf.agg | exact CellsOf.one rfl) (by repeat (first | exact List.Mem.head _ | apply List.Mem.tail | apply List.mem_append_right | assumption)) (by repeat (first | exact SetSeg.done | apply SetSeg.take | apply SetSeg.skip)) rfl rfl (by repeat (first | exact Upd.here | apply Upd.there | apply Upd.app)) (by first | exact Or.inl ⟨inferInstance, rfl⟩ | exact Or.inr inferInstance)) ?_
                rintro _ _ ⟨rfl, rfl⟩
                refine rg_q (.inl rfl) rfl rfl (by exact QW.qr (qw_assign rfl)) ?_
                refine rg_nil ?_
                refine qg_then ?_
                refine cg_ret ?_
                refine qg_then_ret ?_
                exact qg_end (.inl rfl) _ (.cons (resCellN rfl (by repeat (first | exact List.Mem.head _ | apply List.Mem.tail | apply List.mem_append_right | assumption)) (by repeat (first | exact SegL.done | apply SegL.take | apply SegL.skip))) (.cons (.tmp rfl) (.nil))) L (by repeat (first | exact List.Sublist.refl _ | exact List.nil_sublist _ | exact List.sublist_append_right _ _ | apply List.Sublist.cons_cons | apply List.Sublist.cons | refine List.Sublist.trans ?_ (List.sublist_append_right _ _))) ⟨.slice none 0 0, .slice none 0 0, .slice none 0 0, [], by rw [hfin]; rfl, rfl, by rw [hfin]; exact rdl_nil, by rw [hfin]; exact rdl_nil, by rw [hfin]; exact rdl_nil⟩
              · intro h5
                rw [if_neg h5] at hcy
                refine rg_nil ?_
                refine qg_then ?_
                refine cg_false rfl ?_
                refine cg_skip ?_
                refine qg_then ?_
                refine cg_seq ?_
                refine cg_region ?_
                refine rg_q (.inl rfl) rfl rfl (by exact QW.qr (qw_move rfl)) ?_
                refine rg_q (.inl rfl) rfl rfl (by exact QW.qr (qw_move rfl)) ?_
                refine rg_e (.inl rfl) rfl rfl (by exact ev_buildSlice (.cons rfl (.cons rfl (.nil))) rfl (by first | exact CellsOf.agg | exact CellsOf.one rfl) (by rfl) (.cons rfl (by first | exact CellsOf.agg | exact CellsOf.one rfl) (by repeat (first | exact SetSeg.done | apply SetSeg.take | apply SetSeg.skip)) (by rfl) (by rfl) (.cons rfl (by first | exact CellsOf.agg | exact CellsOf.one rfl) (by repeat (first | exact SetSeg.done | apply SetSeg.take | apply SetSeg.skip)) (by rfl) (by rfl) (.nil)))) ?_
                rintro _ _ ⟨b93, rfl, rfl⟩
                rw [repI]
                refine rg_q (.inl rfl) rfl rfl (by exact QW.qr (qw_move rfl)) ?_
                refine rg_e (.inl rfl) rfl rfl (by exact ev_buildSlice (.cons rfl (.nil)) rfl (by first | exact CellsOf.agg | exact CellsOf.one rfl) (by rfl) (.cons rfl (by first | exact CellsOf.agg | exact CellsOf.one rfl) (by repeat (first | exact SetSeg.done | apply SetSeg.take | apply SetSeg.skip)) (by rfl) (by rfl) (.nil))) ?_
                rintro _ _ ⟨b95, rfl, rfl⟩
                rw [repI]
                refine rg_q (.inl rfl) rfl rfl (by exact QW.qr (qw_build (.cons rfl (.cons rfl (.nil))) rfl (.cons rfl (by first | exact CellsOf.agg | exact CellsOf.one rfl) (by repeat (first | exact SetSeg.done | apply SetSeg.take | apply SetSeg.skip)) (by rfl) (by rfl) (.cons rfl (by first | exact CellsOf.agg | exact CellsOf.one rfl) (by repeat (first | exact SetSeg.done | apply SetSeg.take | apply SetSeg.skip)) (by rfl) (by rfl) (.nil))))) ?_
                refine rg_e (.inl rfl) rfl rfl (by exact ev_alloc (by first | exact CellsOf.agg | exact CellsOf.one rfl)) ?_
                rintro _ _ ⟨b21, rfl, rfl⟩
                refine rg_e0 (.inl rfl) rfl (by exact ev_store rfl rfl (by first | exact CellsOf.agg | exact CellsOf.one rfl) (by repeat (first | exact List.Mem.head _ | apply List.Mem.tail | apply List.mem_append_right | assumption)) (by repeat (first | exact SetSeg.done | apply SetSeg.take | apply SetSeg.skip)) rfl rfl (by repeat (first | exact Upd.here | apply Upd.there | apply Upd.app)) (by first | exact Or.inl ⟨inferInstance, rfl⟩ | exact Or.inr inferInstance)) ?_
                rintro _ _ ⟨rfl, rfl⟩
                refine rg_nil ?_
                refine qg_then ?_
                refine cg_seq ?_
                refine cg_region ?_
                refine rg_e (.inl rfl) rfl rfl (by exact ev_buildSlice (.nil) rfl (by first | exact CellsOf.agg | exact CellsOf.one rfl) (by rfl) (.nil)) ?_
                rintro _ _ ⟨b97, rfl, rfl⟩
                rw [repU0]
                refine rg_q (.inl rfl) rfl rfl (by exact QW.qr (qw_assign rfl)) ?_
                refine rg_nil ?_
                refine qg_then ?_
                refine cg_cut (fun E' L' => ∃ (N X A : List Int) (asked3 : Int) (nv xv cv : Value) (BN BX BA : List Blk), midF spots.length es node out first last asked = .inr (N, X, A, asked3) ∧ isU64 asked3 ∧ N.length ≤ 20 ∧ X.length ≤ 20 ∧ A.length ≤ 20 ∧ OwnL 3 encI 1 nv N BN ∧ OwnL 3 encI 1 xv X BX ∧ RdL BA encU 1 cv A ∧
                  E' = [(1, I node), (2, I out), (3, I in_), (4, U a), (5, .pointer (some ⟨b5, 0, none⟩)), (10, .pointer (some ⟨b10, 0, none⟩)), (13, I s1), (20, U asked3), (21, .pointer (some ⟨b21, 0, none⟩)), (22, cv)] ∧
                  L' = cat [[(b21, .cells [nv, xv, Value.slice none 0 0, U 0].toArray 59 (0, 0))], BN, BX, BA, [(b10, .cells [Value.slice none 0 0, Value.slice none 0 0, Value.slice none 0 0, U 0].toArray 59 (0, 0))], [(b5, .cells [Value.slice pz spots.length cz, Value.slice (some ⟨b0, o0, none⟩) es.length ce].toArray 32 (0, 0))]] L) ?_ ?_
                · -- the first part
                  refine cg_seq ?_
                  refine cg_region ?_
                  refine rg_q (.inl rfl) rfl rfl (by exact QW.qr (qw_move rfl)) ?_
                  refine rg_q (.inl rfl) rfl rfl (by exact QW.qr (qw_move rfl)) ?_
                  refine rg_split (.inl rfl) rfl rfl (by exact qc_neq rfl rfl) ?_ ?_
                  · intro hfl
                    refine rg_nil ?_
                    refine qg_then ?_
                    refine cg_true rfl ?_
                    refine cg_seq ?_
                    refine cg_region ?_
                    refine rg_q (.inl rfl) rfl rfl (by exact qr_loadN rfl (by repeat (first | exact List.Mem.head _ | apply List.Mem.tail | apply List.mem_append_right | assumption)) (by repeat (first | exact SegL.done | apply SegL.take | apply SegL.skip))) ?_
                    refine rg_q (.inl rfl) rfl rfl (by exact QW.qr (qw_move rfl)) ?_
                    refine rg_e (.inl rfl) rfl rfl (by exact ev_call0 rfl (.cons rfl (.cons rfl (.nil))) (without_ca spots es node _ _ hn hes O _ (hs.mono (fun q hq => by repeat (first | exact hq | apply List.mem_append_right | apply List.mem_cons_of_mem))) (he.mono (fun q hq => by repeat (first | exact hq | apply List.mem_append_right | apply List.mem_cons_of_mem))))) ?_
                    rintro _ _ ⟨pw, cw, yw, Bw, rfl, rfl, hzw, hyw⟩
                    obtain ⟨pyw, cyw, rfl, hyw2⟩ := id hyw
                    refine rg_q (.inl rfl) rfl rfl (by exact QW.qr (qw_move rfl)) ?_
                    refine rg_q (.inl rfl) rfl rfl (by exact QW.qr (qw_move rfl)) ?_
                    refine rg_q (.inl rfl) rfl rfl (by exact QW.qr (qw_move rfl)) ?_
                    refine rg_e (.inl rfl) rfl rfl (by exact ev_call0 rfl (.cons rfl (.cons rfl (.cons rfl (.cons rfl (.nil))))) (best_ca spots.length (withoutF es node) first last asked pw cw _ O _ (hyw.mono (fun q hq => List.mem_append_left _ hq)) (withoutF_good hg node) hau hn (by rw [withoutF_len]; exact hes) (fun r hr => by have h := allF_ok (withoutF_good hg node) hau r hr; have := h.one; have := h.al; omega))) ?_
                    rintro _ _ ⟨t, Br, rfl, rfl, ht⟩
                    have hroute := best_route (n := spots.length) (f := first) (t := last) (withoutF_good hg node) hau
                    generalize hb : bestF spots.length (withoutF es node) first last asked = rb at ht hroute ⊢
                    obtain ⟨r, eb⟩ := rb
                    obtain ⟨q1, l1, c1, q2, l2, c2, q3, l3, c3⟩ := t
                    obtain ⟨ht1, ht2, ht3⟩ := ht
                    replace ht1 : RdL Br encI 1 (.slice q1 l1 c1) r.nodes := ht1
                    replace ht2 : RdL Br encI 1 (.slice q2 l2 c2) r.edges := ht2
                    replace ht3 : RdL Br encU 1 (.slice q3 l3 c3) r.amounts := ht3
                    obtain ⟨_, _, ee1, _, hcap1, _, hRn⟩ := id ht1
                    obtain ⟨_, _, ee2, _, _, _, hRx⟩ := id ht2
                    obtain ⟨_, _, ee3, _, _, _, hRa⟩ := id ht3
                    cases ee1
                    cases ee2
                    cases ee3
                    rw [show encRV ⟨q1, r.nodes.length, c1, q2, r.edges.length, c2, q3, r.amounts.length, c3⟩ = [.slice q1 r.nodes.length c1, .slice q2 r.edges.length c2, .slice q3 r.amounts.length c3] from rfl]
                    refine rg_q (.inl rfl) rfl rfl (by exact QW.qr (qw_move rfl)) ?_
                    refine rg_q (.inl rfl) rfl rfl (by exact QW.qr (qw_extract rfl rfl)) ?_
                    refine rg_q (.inl rfl) rfl rfl (by exact QW.qr (qw_extract rfl rfl)) ?_
                    refine rg_e (.inl rfl) rfl rfl (by exact ev_alloc (by first | exact CellsOf.agg | exact CellsOf.one rfl)) ?_
                    rintro _ _ ⟨b23, rfl, rfl⟩
                    refine rg_e0 (.inl rfl) rfl (by exact ev_store rfl rfl (by first | exact CellsOf.agg | exact CellsOf.one rfl) (by repeat (first | exact List.Mem.head _ | apply List.Mem.tail | apply List.mem_append_right | assumption)) (by repeat (first | exact SetSeg.done | apply SetSeg.take | apply SetSeg.skip)) rfl rfl (by repeat (first | exact Upd.here | apply Upd.there | apply Upd.app)) (by first | exact Or.inl ⟨inferInstance, rfl⟩ | exact Or.inr inferInstance)) ?_
                    rintro _ _ ⟨rfl, rfl⟩
                    refine rg_q (.inl rfl) rfl rfl (by exact QW.qr (qw_assign rfl)) ?_
                    refine rg_nil ?_
                    refine qg_then ?_
                    refine cg_seq ?_
                    refine cg_seq ?_
                    refine cg_region ?_
                    refine rg_q (.inl rfl) rfl rfl (by exact QW.qr (qw_move rfl)) ?_
                    refine rg_split (.inl rfl) rfl rfl (by exact qc_neq rfl rfl) ?_ ?_
                    · intro h6
                      have hfin : cycleF spots.length es node out in_ a = (nilP, eb) := by rw [hcy, midF, if_neg hfl, hb, if_pos h6]; rfl
                      refine rg_nil ?_
                      refine qg_then ?_
                      refine cg_true rfl ?_
                      refine cg_seq ?_
                      refine cg_region ?_
                      refine rg_q (.inl rfl) rfl rfl (by exact QW.qr (qw_build (.nil) rfl (.nil))) ?_
                      refine rg_q (.inl rfl) rfl rfl (by exact QW.qr (qw_move rfl)) ?_
                      refine rg_e0 (.inl rfl) rfl (by exact ev_store rfl rfl (by first | exact CellsOf.agg | exact CellsOf.one rfl) (by repeat (first | exact List.Mem.head _ | apply List.Mem.tail | apply List.mem_append_right | assumption)) (by repeat (first | exact SetSeg.done | apply SetSeg.take | apply SetSeg.skip)) rfl rfl (by repeat (first | exact Upd.here | apply Upd.there | apply Upd.app)) (by first | exact Or.inl ⟨inferInstance, rfl⟩ | exact Or.inr inferInstance)) ?_
                      rintro _ _ ⟨rfl, rfl⟩
                      refine rg_q (.inl rfl) rfl rfl (by exact QW.qr (qw_assign rfl)) ?_
                      refine rg_nil ?_
                      refine qg_then ?_
                      refine cg_ret ?_
                      refine qg_then_ret ?_
                      refine qg_then_ret ?_
                      exact qg_end (.inl rfl) _ (.cons (resCellN rfl (by repeat (first | exact List.Mem.head _ | apply List.Mem.tail | apply List.mem_append_right | assumption)) (by repeat (first | exact SegL.done | apply SegL.take | apply SegL.skip))) (.cons (.tmp rfl) (.nil))) L (by repeat (first | exact List.Sublist.refl _ | exact List.nil_sublist _ | exact List.sublist_append_right _ _ | apply List.Sublist.cons_cons | apply List.Sublist.cons | refine List.Sublist.trans ?_ (List.sublist_append_right _ _))) ⟨.slice none 0 0, .slice none 0 0, .slice none 0 0, [], by rw [hfin]; rfl, rfl, by rw [hfin]; exact rdl_nil, by rw [hfin]; exact rdl_nil, by rw [hfin]; exact rdl_nil⟩
                    · intro h6
                      obtain rfl := Decidable.not_not.1 h6
                      replace hroute : RouteOk (withoutF es node) first last asked r := hroute rfl
                      have hone := hroute.one
                      have hfew := hroute.few
                      have hnl := hroute.nl
                      have hal := hroute.al
                      refine rg_nil ?_
                      refine qg_then ?_
                      refine cg_false rfl ?_
                      refine cg_skip ?_
                      refine qg_then ?_
                      refine cg_seq ?_
                      refine cg_seq ?_
                      refine cg_region ?_
                      refine rg_q (.inl rfl) rfl rfl (by exact qr_loadN rfl (by repeat (first | exact List.Mem.head _ | apply List.Mem.tail | apply List.mem_append_right | assumption)) (by repeat (first | exact SegL.done | apply SegL.take | apply SegL.skip))) ?_
                      refine rg_e (.inl rfl) rfl rfl (by exact ev_call0 rfl (.cons rfl (.nil)) (long_ca _ _ _ _ _ rfl rfl O _)) ?_
                      rintro _ _ ⟨rfl, rfl⟩
                      refine rg_q (.inl rfl) rfl rfl (by exact QW.qr (qw_add_in rfl rfl (by unfold inK; omega))) ?_
                      refine rg_split (.inl rfl) rfl rfl (by exact qc_gtr rfl rfl) ?_ ?_
                      · intro h7
                        have hfin : cycleF spots.length es node out in_ a = (nilP, 27) := by rw [hcy, midF, if_neg hfl, hb, if_neg (fun h => h rfl), if_pos (by show r.edges.length + 2 > 7; omega)]; rfl
                        refine rg_nil ?_
                        refine qg_then ?_
                        refine cg_true rfl ?_
                        refine cg_seq ?_
                        refine cg_region ?_
                        refine rg_q (.inl rfl) rfl rfl (by exact QW.qr (qw_build (.nil) rfl (.nil))) ?_
                        refine rg_e0 (.inl rfl) rfl (by exact ev_store rfl rfl (by first | exact CellsOf.agg | exact CellsOf.one rfl) (by repeat (first | exact List.Mem.head _ | apply List.Mem.tail | apply List.mem_append_right | assumption)) (by repeat (first | exact SetSeg.done | apply SetSeg.take | apply SetSeg.skip)) rfl rfl (by repeat (first | exact Upd.here | apply Upd.there | apply Upd.app)) (by first | exact Or.inl ⟨inferInstance, rfl⟩ | exact Or.inr inferInstance)) ?_
                        rintro _ _ ⟨rfl, rfl⟩
                        refine rg_q (.inl rfl) rfl rfl (by exact QW.qr (qw_assign rfl)) ?_
                        refine rg_nil ?_
                        refine qg_then ?_
                        refine cg_ret ?_
                        refine qg_then_ret ?_
                        refine qg_then_ret ?_
                        exact qg_end (.inl rfl) _ (.cons (resCellN rfl (by repeat (first | exact List.Mem.head _ | apply List.Mem.tail | apply List.mem_append_right | assumption)) (by repeat (first | exact SegL.done | apply SegL.take | apply SegL.skip))) (.cons (.tmp rfl) (.nil))) L (by repeat (first | exact List.Sublist.refl _ | exact List.nil_sublist _ | exact List.sublist_append_right _ _ | apply List.Sublist.cons_cons | apply List.Sublist.cons | refine List.Sublist.trans ?_ (List.sublist_append_right _ _))) ⟨.slice none 0 0, .slice none 0 0, .slice none 0 0, [], by rw [hfin]; rfl, rfl, by rw [hfin]; exact rdl_nil, by rw [hfin]; exact rdl_nil, by rw [hfin]; exact rdl_nil⟩
                      · intro h7
                        obtain ⟨bn, on, An, tn, fzn, rfl, hmn, hsegn⟩ := hRn (by omega)
                        obtain ⟨bx, ox, Ax, tx, fzx, rfl, hmx, hsegx⟩ := hRx (by omega)
                        obtain ⟨ba, oa, Aa, ta, fza, rfl, hma, hsega⟩ := hRa (by omega)
                        have hgx : Ax[ox + (0 : Int).toNat * 1]? = some (I (gi r.edges 0)) := seg_i hsegx (gi_get (by omega)) (by simp)
                        have hga : Aa[oa + (0 : Int).toNat * 1]? = some (U (gi r.amounts 0)) := seg_u hsega (gi_get (by omega)) (by simp)
                        obtain ⟨hop, hlink, hcanr⟩ := hroute.hops 0 first (gi r.edges 0) (gi r.nodes 1) (gi r.amounts 0) hroute.first (gi_get (by omega)) (gi_get (by omega)) (gi_get (by omega))
                        obtain ⟨hx0, hx1, hx2⟩ := hop
                        replace hx0 : 0 ≤ gi r.edges 0 := hx0
                        replace hx1 : (gi r.edges 0).toNat < es.length := by rw [← withoutF_len es node]; exact hx1
                        replace hx2 : sideOf (edgeAt es (gi r.edges 0)) first = 0 ∨ sideOf (edgeAt es (gi r.edges 0)) first = 1 := by
                          have h : sideOf (edgeAt (withoutF es node) (gi r.edges 0)) first = 0 ∨ sideOf (edgeAt (withoutF es node) (gi r.edges 0)) first = 1 := hx2
                          rwa [withoutF_at node hx1, cutE_side] at h
                        obtain ⟨s3, hs3, hse3⟩ : ∃ s : Nat, s < 2 ∧ sideOf (edgeAt es (gi r.edges 0)) first = s := by
                          rcases hx2 with h | h
                          · exact ⟨0, by omega, h⟩
                          · exact ⟨1, by omega, h⟩
                        have hfx := hseg.elem (enc := encE) (k := 8) (fun _ => rfl) hx1
                        rw [edgeAt_eq hx1] at hfx
                        have hfee3 := (edge_fee (seg_self (encE (edgeAt es (gi r.edges 0)))) hs3).2
                        have hg3 := hg _ (List.getElem_mem hx1)
                        rw [edgeAt_eq hx1] at hg3
                        have hfg3 := feeAt_good hg3 s3
                        have hfee : feeOf es (first, gi r.edges 0) = feeAt (edgeAt es (gi r.edges 0)) s3 := by show feeAt (edgeAt es (gi r.edges 0)) (sideOf (edgeAt es (gi r.edges 0)) first).toNat = _; rw [hse3]; rfl
                        have ham0 : isU64 (gi r.amounts 0) := hroute.range _ (by rw [gi_eq (by omega)]; exact List.getElem_mem _)
                        have hc1 : ¬ c1 = (1 : Int).toNat := by show ¬ c1 = 1; omega
                        have hdl : r.nodes.length - (1 : Int).toNat = (r.nodes.drop 1).length := by rw [List.length_drop]; rfl
                        refine rg_nil ?_
                        refine qg_then ?_
                        refine cg_false rfl ?_
                        refine cg_skip ?_
                        refine qg_then ?_
                        refine cg_seq ?_
                        refine cg_draw follows (.op 0 false (.op 1 false (.op 2 false (.op 3 false (.op 4 false (.op 5 false (.op 6 false (.op 7 false .done)))))))) _ (by kernel_rfl) (SubP.of (List.Sublist.refl _)) ?_
                        refine dg_w rfl rfl (.inl rfl) rfl rfl (by exact qw_fieldAddr rfl) ?_
                        refine dg_r rfl rfl rfl (.inl rfl) rfl rfl (by exact qr_load1 rfl (by repeat (first | exact List.Mem.head _ | apply List.Mem.tail | apply List.mem_append_right | assumption)) rfl) ?_
                        refine dg_w rfl rfl (.inl rfl) rfl rfl (by exact qw_fieldAddr rfl) ?_
                        refine dg_r rfl rfl rfl (.inl rfl) rfl rfl (by exact qr_load1 rfl (by repeat (first | exact List.Mem.head _ | apply List.Mem.tail | apply List.mem_append_right | assumption)) rfl) ?_
                        refine dg_w rfl rfl (.inl rfl) rfl rfl (by exact qw_slice_lo rfl rfl (by omega) (by show (1 : Int) ≤ (r.nodes.length : Int); omega)) ?_
                        rw [if_neg hc1, hdl]
                        refine dg_g rfl rfl (.inl rfl) rfl rfl (by exact ev_appendL (xs := [node, first]) (ys := r.nodes.drop 1) (T := 38) (T2 := 38) (B := [(b93, _)]) (.cons rfl (.cons rfl .nil)) rfl rfl (own2I _ b93 node first) (R := cat [[(b23, _)], Br, Bw, [(b97, _)], [(b21, _)], [(b95, _)], [(b19, _)], [(b10, _)], [(b5, _)]] L) (cat_perm (ls' := [[(b93, _)], [(b23, _)], Br, Bw, [(b97, _)], [(b21, _)], [(b95, _)], [(b19, _)], [(b10, _)], [(b5, _)]]) (ls := [[(b23, _)], Br, Bw, [(b97, _)], [(b21, _)], [(b95, _)], [(b93, _)], [(b19, _)], [(b10, _)], [(b5, _)]]) (by repeat (first | exact PermM.nil | refine PermM.cons (by repeat (first | exact Ins.here | apply Ins.there)) ?_))) (.row (by repeat (first | exact List.mem_append_left _ hmn | apply List.mem_append_right | apply List.mem_cons_of_mem)) (seg_drop1 hsegn) (flat_length (enc := encI) (k := 1) (fun _ => rfl) _)) (fun _ => rfl) encI_one (by rw [List.length_drop]; simp only [List.length_cons, List.length_nil]; omega) rfl rfl rfl rfl) ?_
                        rintro nv _ ⟨BN, hoN, rfl⟩
                        obtain ⟨pN, cN, rfl, hqN⟩ := id (hoN.rd (fun _ => rfl) (by decide))
                        refine dg_w rfl rfl (.inl rfl) rfl rfl (by exact qw_fieldAddr rfl) ?_
                        refine dg_g0 rfl rfl (.inl rfl) rfl (by exact ev_store rfl rfl (by first | exact CellsOf.agg | exact CellsOf.one rfl) (by repeat (first | exact List.Mem.head _ | apply List.Mem.tail | apply List.mem_append_right | assumption)) (by repeat (first | exact SetSeg.done | apply SetSeg.take | apply SetSeg.skip)) rfl rfl (by repeat (first | exact Upd.here | apply Upd.there | apply Upd.app)) (by first | exact Or.inl ⟨inferInstance, rfl⟩ | exact Or.inr inferInstance)) ?_
                        rintro _ _ ⟨rfl, rfl⟩
                        refine dg_nil ?_
                        refine qg_then ?_
                        refine cg_seq ?_
                        refine cg_region ?_
                        refine rg_q (.inl rfl) rfl rfl (by exact QW.qr (qw_fieldAddr rfl)) ?_
                        refine rg_q (.inl rfl) rfl rfl (by exact qr_load1 rfl (by repeat (first | exact List.Mem.head _ | apply List.Mem.tail | apply List.mem_append_right | assumption)) rfl) ?_
                        refine rg_q (.inl rfl) rfl rfl (by exact QW.qr (qw_fieldAddr rfl)) ?_
                        refine rg_q (.inl rfl) rfl rfl (by exact qr_load1 rfl (by repeat (first | exact List.Mem.head _ | apply List.Mem.tail | apply List.mem_append_right | assumption)) rfl) ?_
                        refine rg_e (.inl rfl) rfl rfl (by exact ev_appendL (xs := [out]) (ys := r.edges) (T := 38) (T2 := 38) (B := [(b95, _)]) (.cons rfl (.cons rfl .nil)) rfl rfl (own1I _ b95 out) (R := cat [BN, [(b23, _)], Br, Bw, [(b97, _)], [(b21, _)], [(b19, _)], [(b10, _)], [(b5, _)]] L) (cat_perm (ls' := [[(b95, _)], BN, [(b23, _)], Br, Bw, [(b97, _)], [(b21, _)], [(b19, _)], [(b10, _)], [(b5, _)]]) (ls := [BN, [(b23, _)], Br, Bw, [(b97, _)], [(b21, _)], [(b95, _)], [(b19, _)], [(b10, _)], [(b5, _)]]) (by repeat (first | exact PermM.nil | refine PermM.cons (by repeat (first | exact Ins.here | apply Ins.there)) ?_))) (ht2.mono (fun q hq => (by repeat (first | exact List.mem_append_left _ hq | apply List.mem_append_right | apply List.mem_cons_of_mem)))).src (fun _ => rfl) encI_one (by simp only [List.length_cons, List.length_nil]; omega) rfl rfl rfl rfl) ?_
                        rintro xv _ ⟨BX, hoX, rfl⟩
                        obtain ⟨pX, cX, rfl, hqX⟩ := id (hoX.rd (fun _ => rfl) (by decide))
                        refine rg_q (.inl rfl) rfl rfl (by exact QW.qr (qw_fieldAddr rfl)) ?_
                        refine rg_e0 (.inl rfl) rfl (by exact ev_store rfl rfl (by first | exact CellsOf.agg | exact CellsOf.one rfl) (by repeat (first | exact List.Mem.head _ | apply List.Mem.tail | apply List.mem_append_right | assumption)) (by repeat (first | exact SetSeg.done | apply SetSeg.take | apply SetSeg.skip)) rfl rfl (by repeat (first | exact Upd.here | apply Upd.there | apply Upd.app)) (by first | exact Or.inl ⟨inferInstance, rfl⟩ | exact Or.inr inferInstance)) ?_
                        rintro _ _ ⟨rfl, rfl⟩
                        refine rg_nil ?_
                        refine qg_then ?_
                        refine cg_seq ?_
                        refine cg_region ?_
                        refine rg_q (.inl rfl) rfl rfl (by exact QW.qr (qw_fieldAddr rfl)) ?_
                        refine rg_q (.inl rfl) rfl rfl (by exact qr_load1 rfl (by repeat (first | exact List.Mem.head _ | apply List.Mem.tail | apply List.mem_append_right | assumption)) rfl) ?_
                        refine rg_q (.inl rfl) rfl rfl (by exact QW.qr (qw_assign rfl)) ?_
                        refine rg_nil ?_
                        refine qg_then ?_
                        refine cg_seq ?_
                        refine cg_draw follows (.op 0 false (.op 1 false (.op 2 false (.op 3 false (.op 4 false (.op 5 false (.op 6 false (.op 7 false (.op 8 true (.op 9 false .done)))))))))) _ (by kernel_rfl) (SubP.of (List.Sublist.refl _)) ?_
                        refine dg_w rfl rfl (.inl rfl) rfl rfl (by exact qw_fieldAddr rfl) ?_
                        refine dg_r rfl rfl rfl (.inl rfl) rfl rfl (by exact qr_load1 rfl (by repeat (first | exact List.Mem.head _ | apply List.Mem.tail | apply List.mem_append_right | assumption)) rfl) ?_
                        refine dg_w rfl rfl (.inl rfl) rfl rfl (by exact qw_fieldAddr rfl) ?_
                        refine dg_r rfl rfl rfl (.inl rfl) rfl rfl (by exact qr_load1 rfl (by repeat (first | exact List.Mem.head _ | apply List.Mem.tail | apply List.mem_append_right | assumption)) rfl) ?_
                        refine dg_w rfl rfl (.inl rfl) rfl rfl (by exact qw_indexAddr rfl rfl (by omega) (by omega)) ?_
                        refine dg_r rfl rfl rfl (.inl rfl) rfl rfl (by exact qr_load1' rfl (by repeat (first | exact List.mem_append_left _ hmx | apply List.mem_append_right | apply List.mem_cons_of_mem)) hgx) ?_
                        refine dg_w rfl rfl (.inl rfl) rfl rfl (by exact qw_indexAddr rfl rfl (by exact hx0) (by show gi r.edges 0 < _; omega)) ?_
                        refine dg_r rfl rfl rfl (.inl rfl) rfl rfl (by exact qr_loadS rfl (by repeat (first | exact hm0 | apply List.mem_append_right | apply List.mem_cons_of_mem)) hfx rfl) ?_
                        refine dg_e rfl rfl (.inl rfl) rfl rfl (by exact ev_alloc (by first | exact CellsOf.agg | exact CellsOf.one rfl)) ?_
                        rintro _ _ ⟨b25, rfl, rfl⟩
                        refine ⟨(SubP.of (by repeat (first | exact List.Sublist.refl _ | exact List.nil_sublist _ | exact List.sublist_append_right _ _ | apply List.Sublist.cons_cons | apply List.Sublist.cons | refine List.Sublist.trans ?_ (List.sublist_append_right _ _)))), ?_⟩
                        refine dg_g0 rfl rfl (.inl rfl) rfl (by exact ev_store rfl rfl (by first | exact CellsOf.agg | exact CellsOf.one rfl) (by repeat (first | exact List.Mem.head _ | apply List.Mem.tail | apply List.mem_append_right | assumption)) (by repeat (first | exact SetSeg.done | apply SetSeg.take | apply SetSeg.skip)) rfl rfl (by repeat (first | exact Upd.here | apply Upd.there | apply Upd.app)) (by first | exact Or.inl ⟨inferInstance, rfl⟩ | exact Or.inr inferInstance)) ?_
                        rintro _ _ ⟨rfl, rfl⟩
                        refine dg_nil ?_
                        refine qg_then ?_
                        refine cg_seq ?_
                        refine cg_draw follows (.op 0 false (.op 1 false (.op 3 false (.op 6 false (.op 7 false (.op 8 false (.op 9 false (.op 2 true (.op 4 false (.op 5 false (.op 10 false (.op 11 false (.op 12 false (.op 13 false (.op 14 false (.op 15 false .done)))))))))))))))) _ (by kernel_rfl) (SubP.of (List.Sublist.refl _)) ?_
                        refine dg_r rfl rfl rfl (.inl rfl) rfl rfl (by exact qr_loadN rfl (by repeat (first | exact List.Mem.head _ | apply List.Mem.tail | apply List.mem_append_right | assumption)) (by repeat (first | exact SegL.done | apply SegL.take | apply SegL.skip))) ?_
                        refine dg_w rfl rfl (.inl rfl) rfl rfl (by exact qw_move rfl) ?_
                        refine dg_w rfl rfl (.inl rfl) rfl rfl (by exact qw_fieldAddr rfl) ?_
                        refine dg_w rfl rfl (.inl rfl) rfl rfl (by exact qw_fieldAddr rfl) ?_
                        refine dg_r rfl rfl rfl (.inl rfl) rfl rfl (by exact qr_load1 rfl (by repeat (first | exact List.Mem.head _ | apply List.Mem.tail | apply List.mem_append_right | assumption)) rfl) ?_
                        refine dg_w rfl rfl (.inl rfl) rfl rfl (by exact qw_indexAddr rfl rfl (by omega) (by omega)) ?_
                        refine dg_r rfl rfl rfl (.inl rfl) rfl rfl (by exact qr_load1' rfl (by repeat (first | exact List.mem_append_left _ hma | apply List.mem_append_right | apply List.mem_cons_of_mem)) hga) ?_
                        refine dg_e rfl rfl (.inl rfl) rfl rfl (by exact ev_call0 rfl (.cons rfl (.cons rfl (.nil))) (side_ca (edgeAt es (gi r.edges 0)) first O _)) ?_
                        rintro _ _ ⟨rfl, rfl⟩
                        rw [hse3]
                        refine ⟨(SubP.of (by repeat (first | exact List.Sublist.refl _ | exact List.nil_sublist _ | exact List.sublist_append_right _ _ | apply List.Sublist.cons_cons | apply List.Sublist.cons | refine List.Sublist.trans ?_ (List.sublist_append_right _ _)))), ?_⟩
                        refine dg_w rfl rfl (.inl rfl) rfl rfl (by exact qw_indexAddr_arr rfl rfl (by omega) (by omega)) ?_
                        refine dg_r rfl rfl rfl (.inl rfl) rfl rfl (by exact qr_loadS (vs := [U (feeAt (edgeAt es (gi r.edges 0)) s3).1, U (feeAt (edgeAt es (gi r.edges 0)) s3).2]) rfl (List.Mem.head _) (by exact hfee3) rfl) ?_
                        refine dg_g rfl rfl (.inl rfl) rfl rfl (by exact ev_call0 rfl (.cons rfl (.cons rfl (.nil))) (over_ca (feeAt (edgeAt es (gi r.edges 0)) s3) (gi r.amounts 0) ham0 hfg3.1 O _)) ?_
                        rintro _ _ ⟨rfl, rfl⟩
                        have hau3 := overF_range (f := feeAt (edgeAt es (gi r.edges 0)) s3) (a := gi r.amounts 0) ham0 hfg3.1
                        generalize ho3 : overF (feeAt (edgeAt es (gi r.edges 0)) s3) (gi r.amounts 0) = o3 at hau3 ⊢
                        obtain ⟨asked3, eo3⟩ := o3
                        replace hau3 : isU64 asked3 := hau3
                        refine dg_w rfl rfl (.inl rfl) rfl rfl (by exact qw_move rfl) ?_
                        refine dg_w rfl rfl (.inl rfl) rfl rfl (by exact qw_extract rfl rfl) ?_
                        refine dg_w rfl rfl (.inl rfl) rfl rfl (by exact qw_extract rfl rfl) ?_
                        refine dg_w rfl rfl (.inl rfl) rfl rfl (by exact qw_assign rfl) ?_
                        refine dg_w rfl rfl (.inl rfl) rfl rfl (by exact qw_assign rfl) ?_
                        refine dg_nil ?_
                        refine qg_then ?_
                        refine cg_seq ?_
                        refine cg_region ?_
                        refine rg_q (.inl rfl) rfl rfl (by exact QW.qr (qw_move rfl)) ?_
                        refine rg_split (.inl rfl) rfl rfl (by exact qc_neq rfl rfl) ?_ ?_
                        · intro h8
                          have hfin : cycleF spots.length es node out in_ a = (nilP, eo3) := by rw [hcy, midF, if_neg hfl, hb, if_neg (fun h => h rfl), if_neg (by show ¬ (r.edges.length + 2 > 7); omega)]; simp only; rw [hfee, ho3, if_pos h8]; rfl
                          refine rg_nil ?_
                          refine qg_then ?_
                          refine cg_true rfl ?_
                          refine cg_seq ?_
                          refine cg_region ?_
                          refine rg_q (.inl rfl) rfl rfl (by exact QW.qr (qw_build (.nil) rfl (.nil))) ?_
                          refine rg_q (.inl rfl) rfl rfl (by exact QW.qr (qw_move rfl)) ?_
                          refine rg_e0 (.inl rfl) rfl (by exact ev_store rfl rfl (by first | exact CellsOf.agg | exact CellsOf.one rfl) (by repeat (first | exact List.Mem.head _ | apply List.Mem.tail | apply List.mem_append_right | assumption)) (by repeat (first | exact SetSeg.done | apply SetSeg.take | apply SetSeg.skip)) rfl rfl (by repeat (first | exact Upd.here | apply Upd.there | apply Upd.app)) (by first | exact Or.inl ⟨inferInstance, rfl⟩ | exact Or.inr inferInstance)) ?_
                          rintro _ _ ⟨rfl, rfl⟩
                          refine rg_q (.inl rfl) rfl rfl (by exact QW.qr (qw_assign rfl)) ?_
                          refine rg_nil ?_
                          refine qg_then ?_
                          refine cg_ret ?_
                          refine qg_then_ret ?_
                          exact qg_end (.inl rfl) _ (.cons (resCellN rfl (by repeat (first | exact List.Mem.head _ | apply List.Mem.tail | apply List.mem_append_right | assumption)) (by repeat (first | exact SegL.done | apply SegL.take | apply SegL.skip))) (.cons (.tmp rfl) (.nil))) L (by repeat (first | exact List.Sublist.refl _ | exact List.nil_sublist _ | exact List.sublist_append_right _ _ | apply List.Sublist.cons_cons | apply List.Sublist.cons | refine List.Sublist.trans ?_ (List.sublist_append_right _ _))) ⟨.slice none 0 0, .slice none 0 0, .slice none 0 0, [], by rw [hfin]; rfl, rfl, by rw [hfin]; exact rdl_nil, by rw [hfin]; exact rdl_nil, by rw [hfin]; exact rdl_nil⟩
                        · intro h8
                          have hmid : midF spots.length es node out first last asked = .inr ([node, first] ++ r.nodes.drop 1, [out] ++ r.edges, r.amounts, asked3) := by rw [midF, if_neg hfl, hb, if_neg (fun h => h rfl), if_neg (by show ¬ (r.edges.length + 2 > 7); omega)]; simp only; rw [hfee, ho3, if_neg h8]
                          refine rg_nil ?_
                          refine qg_then ?_
                          refine cg_false rfl ?_
                          refine cg_skip ?_
                          exact qg_cut_sp _ _ ⟨_, _, _, asked3, _, _, _, BN, BX, Br, hmid, hau3, by rw [List.length_append, List.length_drop]; simp only [List.length_cons, List.length_nil]; omega, by rw [List.length_append, List.length_singleton]; omega, by omega, hoN, hoX, ht3, rfl, rfl⟩ (by repeat (first | exact Sub.nil | refine Sub.cons rfl ?_ | refine Sub.cons (congrArg (fun z => some (Value.int IntKind.i64 z)) (by omega)) ?_)) (cat_sub (ls' := [[(b21, _)], BN, BX, Br, [(b10, _)], [(b5, _)]]) (ls := [[(b25, _)], BX, BN, [(b23, _)], Br, Bw, [(b97, _)], [(b21, _)], [(b19, _)], [(b10, _)], [(b5, _)]]) (by repeat (first | exact SubM.nil | refine SubM.cons (by repeat (first | exact Ins.here | apply Ins.there)) ?_)))
                  · intro hfl
                    have hmid : midF spots.length es node out first last asked = .inr ([node, first], [out], [], asked) := by rw [midF, if_pos (Decidable.not_not.1 hfl)]
                    refine rg_nil ?_
                    refine qg_then ?_
                    refine cg_false rfl ?_
                    refine cg_skip ?_
                    exact qg_cut_sp _ _ ⟨_, _, _, asked, _, _, _, [(b93, _)], [(b95, _)], [], hmid, hau, Nat.le_of_ble_eq_true rfl, Nat.le_of_ble_eq_true rfl, Nat.le_of_ble_eq_true rfl, own2I _ b93 node first, own1I _ b95 out, rdl_nilb b97, rfl, rfl⟩ (by repeat (first | exact Sub.nil | refine Sub.cons rfl ?_ | refine Sub.cons (congrArg (fun z => some (Value.int IntKind.i64 z)) (by omega)) ?_)) (cat_sub (ls' := [[(b21, _)], [(b93, _)], [(b95, _)], [], [(b10, _)], [(b5, _)]]) (ls := [[], [(b97, _)], [(b21, _)], [(b95, _)], [(b93, _)], [(b19, _)], [(b10, _)], [(b5, _)]]) (by repeat (first | exact SubM.nil | refine SubM.cons (by repeat (first | exact Ins.here | apply Ins.there)) ?_)))
                · clear hau
                  rintro _ _ ⟨N, X, A, asked3, nv, xv, cv, BN, BX, BA, hmid, hau3, hNl, hXl, hAl, hoN, hoX, hrA, rfl, rfl⟩
                  obtain ⟨pN, cN, rfl, hqN⟩ := id (hoN.rd (fun _ => rfl) (by decide))
                  obtain ⟨pX, cX, rfl, hqX⟩ := id (hoX.rd (fun _ => rfl) (by decide))
                  rw [hmid, cyc3] at hcy
                  have hcu1 := canAt_u (hg _ (List.getElem_mem ho1)) s1
                  refine cg_seq ?_
                  refine cg_seq ?_
                  refine cg_region ?_
                  refine rg_q (.inl rfl) rfl rfl (by exact QW.qr (qw_fieldAddr rfl)) ?_
                  refine rg_q (.inl rfl) rfl rfl (by exact qr_load1 rfl (by repeat (first | exact List.Mem.head _ | apply List.Mem.tail | apply List.mem_append_right | assumption)) rfl) ?_
                  refine rg_q (.inl rfl) rfl rfl (by exact QW.qr (qw_move rfl)) ?_
                  refine rg_q (.inl rfl) rfl rfl (by exact QW.qr (qw_move rfl)) ?_
                  refine rg_q (.inl rfl) rfl rfl (by exact QW.qr (qw_indexAddr rfl rfl (by exact ho0) (by show out < _; omega))) ?_
                  refine rg_q (.inl rfl) rfl rfl (by exact QW.qr (qw_fieldAddr rfl)) ?_
                  refine rg_q (.inl rfl) rfl rfl (by exact QW.qr (qw_indexAddr_arr rfl rfl (by omega) (by omega))) ?_
                  refine rg_q (.inl rfl) rfl rfl (by exact qr_load1' rfl (by repeat (first | exact hm0 | apply List.mem_append_right | apply List.mem_cons_of_mem)) hcanO) ?_
                  refine rg_q (.inl rfl) rfl rfl (by exact QW.qr (qw_move rfl)) ?_
                  refine rg_split (.inl rfl) rfl rfl (by exact qc_lss rfl rfl) ?_ ?_
                  · intro h9
                    have hfin : cycleF spots.length es node out in_ a = (nilP, 28) := by rw [hcy, if_pos h9]
                    refine rg_nil ?_
                    refine qg_then ?_
                    refine cg_true rfl ?_
                    refine cg_seq ?_
                    refine cg_region ?_
                    refine rg_q (.inl rfl) rfl rfl (by exact QW.qr (qw_build (.nil) rfl (.nil))) ?_
                    refine rg_e0 (.inl rfl) rfl (by exact ev_store rfl rfl (by first | exact CellsOf.agg | exact CellsOf.one rfl) (by repeat (first | exact List.Mem.head _ | apply List.Mem.tail | apply List.mem_append_right | assumption)) (by repeat (first | exact SetSeg.done | apply SetSeg.take | apply SetSeg.skip)) rfl rfl (by repeat (first | exact Upd.here | apply Upd.there | apply Upd.app)) (by first | exact Or.inl ⟨inferInstance, rfl⟩ | exact Or.inr inferInstance)) ?_
                    rintro _ _ ⟨rfl, rfl⟩
                    refine rg_q (.inl rfl) rfl rfl (by exact QW.qr (qw_assign rfl)) ?_
                    refine rg_nil ?_
                    refine qg_then ?_
                    refine cg_ret ?_
                    refine qg_then_ret ?_
                    exact qg_end (.inl rfl) _ (.cons (resCellN rfl (by repeat (first | exact List.Mem.head _ | apply List.Mem.tail | apply List.mem_append_right | assumption)) (by repeat (first | exact SegL.done | apply SegL.take | apply SegL.skip))) (.cons (.tmp rfl) (.nil))) L (by repeat (first | exact List.Sublist.refl _ | exact List.nil_sublist _ | exact List.sublist_append_right _ _ | apply List.Sublist.cons_cons | apply List.Sublist.cons | refine List.Sublist.trans ?_ (List.sublist_append_right _ _))) ⟨.slice none 0 0, .slice none 0 0, .slice none 0 0, [], by rw [hfin]; rfl, rfl, by rw [hfin]; exact rdl_nil, by rw [hfin]; exact rdl_nil, by rw [hfin]; exact rdl_nil⟩
                  · intro h9
                    have hfin : cycleF spots.length es node out in_ a = (⟨N ++ [node], X ++ [in_], [asked3] ++ A ++ [a], IntKind.wrap .u64 (asked3 - a)⟩, 0) := by rw [hcy, if_neg h9]
                    refine rg_nil ?_
                    refine qg_then ?_
                    refine cg_false rfl ?_
                    refine cg_skip ?_
                    refine qg_then ?_
                    refine cg_seq ?_
                    refine cg_region ?_
                    refine rg_q (.inl rfl) rfl rfl (by exact QW.qr (qw_fieldAddr rfl)) ?_
                    refine rg_q (.inl rfl) rfl rfl (by exact qr_load1 rfl (by repeat (first | exact List.Mem.head _ | apply List.Mem.tail | apply List.mem_append_right | assumption)) rfl) ?_
                    refine rg_q (.inl rfl) rfl rfl (by exact QW.qr (qw_move rfl)) ?_
                    refine rg_e (.inl rfl) rfl rfl (by exact ev_buildSlice (.cons rfl (.nil)) rfl (by first | exact CellsOf.agg | exact CellsOf.one rfl) (by rfl) (.cons rfl (by first | exact CellsOf.agg | exact CellsOf.one rfl) (by repeat (first | exact SetSeg.done | apply SetSeg.take | apply SetSeg.skip)) (by rfl) (by rfl) (.nil))) ?_
                    rintro _ _ ⟨b175, rfl, rfl⟩
                    refine rg_e (.inl rfl) rfl rfl (by exact ev_appendL (ys := [node]) (T := 38) (T2 := 38) (.cons rfl (.cons rfl .nil)) rfl rfl hoN (R := cat [[(b175, _)], [(b21, _)], BX, BA, [(b10, _)], [(b5, _)]] L) (cat_perm (ls' := [BN, [(b175, _)], [(b21, _)], BX, BA, [(b10, _)], [(b5, _)]]) (ls := [[(b175, _)], [(b21, _)], BN, BX, BA, [(b10, _)], [(b5, _)]]) (by repeat (first | exact PermM.nil | refine PermM.cons (by repeat (first | exact Ins.here | apply Ins.there)) ?_))) (.row (List.Mem.head _) (SegL.seg (m := 1) (by repeat (first | exact SegL.done | apply SegL.take | apply SegL.skip))).1 rfl) (fun _ => rfl) encI_one (by simp only [List.length_singleton]; omega) rfl rfl rfl rfl) ?_
                    rintro nv2 _ ⟨BN2, hoN2, rfl⟩
                    obtain ⟨pN2, cN2, rfl, hqN2⟩ := id (hoN2.rd (fun _ => rfl) (by decide))
                    refine rg_q (.inl rfl) rfl rfl (by exact QW.qr (qw_fieldAddr rfl)) ?_
                    refine rg_e0 (.inl rfl) rfl (by exact ev_store rfl rfl (by first | exact CellsOf.agg | exact CellsOf.one rfl) (by repeat (first | exact List.Mem.head _ | apply List.Mem.tail | apply List.mem_append_right | assumption)) (by repeat (first | exact SetSeg.done | apply SetSeg.take | apply SetSeg.skip)) rfl rfl (by repeat (first | exact Upd.here | apply Upd.there | apply Upd.app)) (by first | exact Or.inl ⟨inferInstance, rfl⟩ | exact Or.inr inferInstance)) ?_
                    rintro _ _ ⟨rfl, rfl⟩
                    refine rg_nil ?_
                    refine qg_then ?_
                    refine cg_seq ?_
                    refine cg_region ?_
                    refine rg_q (.inl rfl) rfl rfl (by exact QW.qr (qw_fieldAddr rfl)) ?_
                    refine rg_q (.inl rfl) rfl rfl (by exact qr_load1 rfl (by repeat (first | exact List.Mem.head _ | apply List.Mem.tail | apply List.mem_append_right | assumption)) rfl) ?_
                    refine rg_q (.inl rfl) rfl rfl (by exact QW.qr (qw_move rfl)) ?_
                    refine rg_e (.inl rfl) rfl rfl (by exact ev_buildSlice (.cons rfl (.nil)) rfl (by first | exact CellsOf.agg | exact CellsOf.one rfl) (by rfl) (.cons rfl (by first | exact CellsOf.agg | exact CellsOf.one rfl) (by repeat (first | exact SetSeg.done | apply SetSeg.take | apply SetSeg.skip)) (by rfl) (by rfl) (.nil))) ?_
                    rintro _ _ ⟨b181, rfl, rfl⟩
                    refine rg_e (.inl rfl) rfl rfl (by exact ev_appendL (ys := [in_]) (T := 38) (T2 := 38) (.cons rfl (.cons rfl .nil)) rfl rfl hoX (R := cat [[(b181, _)], BN2, [(b175, _)], [(b21, _)], BA, [(b10, _)], [(b5, _)]] L) (cat_perm (ls' := [BX, [(b181, _)], BN2, [(b175, _)], [(b21, _)], BA, [(b10, _)], [(b5, _)]]) (ls := [[(b181, _)], BN2, [(b175, _)], [(b21, _)], BX, BA, [(b10, _)], [(b5, _)]]) (by repeat (first | exact PermM.nil | refine PermM.cons (by repeat (first | exact Ins.here | apply Ins.there)) ?_))) (.row (List.Mem.head _) (SegL.seg (m := 1) (by repeat (first | exact SegL.done | apply SegL.take | apply SegL.skip))).1 rfl) (fun _ => rfl) encI_one (by simp only [List.length_singleton]; omega) rfl rfl rfl rfl) ?_
                    rintro xv2 _ ⟨BX2, hoX2, rfl⟩
                    obtain ⟨pX2, cX2, rfl, hqX2⟩ := id (hoX2.rd (fun _ => rfl) (by decide))
                    refine rg_q (.inl rfl) rfl rfl (by exact QW.qr (qw_fieldAddr rfl)) ?_
                    refine rg_e0 (.inl rfl) rfl (by exact ev_store rfl rfl (by first | exact CellsOf.agg | exact CellsOf.one rfl) (by repeat (first | exact List.Mem.head _ | apply List.Mem.tail | apply List.mem_append_right | assumption)) (by repeat (first | exact SetSeg.done | apply SetSeg.take | apply SetSeg.skip)) rfl rfl (by repeat (first | exact Upd.here | apply Upd.there | apply Upd.app)) (by first | exact Or.inl ⟨inferInstance, rfl⟩ | exact Or.inr inferInstance)) ?_
                    rintro _ _ ⟨rfl, rfl⟩
                    refine rg_nil ?_
                    refine qg_then ?_
                    refine cg_seq ?_
                    refine cg_region ?_
                    refine rg_q (.inl rfl) rfl rfl (by exact QW.qr (qw_move rfl)) ?_
                    refine rg_e (.inl rfl) rfl rfl (by exact ev_buildSlice (.cons rfl (.nil)) rfl (by first | exact CellsOf.agg | exact CellsOf.one rfl) (by rfl) (.cons rfl (by first | exact CellsOf.agg | exact CellsOf.one rfl) (by repeat (first | exact SetSeg.done | apply SetSeg.take | apply SetSeg.skip)) (by rfl) (by rfl) (.nil))) ?_
                    rintro _ _ ⟨b185, rfl, rfl⟩
                    rw [repU]
                    refine rg_q (.inl rfl) rfl rfl (by exact QW.qr (qw_move rfl)) ?_
                    refine rg_e (.inl rfl) rfl rfl (by exact ev_appendL (xs := [asked3]) (ys := A) (T := 39) (T2 := 39) (B := [(b185, _)]) (.cons rfl (.cons rfl .nil)) rfl rfl (own1U _ b185 asked3) (R := cat [BX2, [(b181, _)], BN2, [(b175, _)], [(b21, _)], BA, [(b10, _)], [(b5, _)]] L) (List.Perm.refl _) (hrA.mono (fun q hq => (by repeat (first | exact List.mem_append_left _ hq | apply List.mem_append_right | apply List.mem_cons_of_mem)))).src (fun _ => rfl) encU_one (by simp only [List.length_singleton]; omega) rfl rfl rfl rfl) ?_
                    rintro av1 _ ⟨BA1, hoA1, rfl⟩
                    refine rg_q (.inl rfl) rfl rfl (by exact QW.qr (qw_move rfl)) ?_
                    refine rg_e (.inl rfl) rfl rfl (by exact ev_buildSlice (.cons rfl (.nil)) rfl (by first | exact CellsOf.agg | exact CellsOf.one rfl) (by rfl) (.cons rfl (by first | exact CellsOf.agg | exact CellsOf.one rfl) (by repeat (first | exact SetSeg.done | apply SetSeg.take | apply SetSeg.skip)) (by rfl) (by rfl) (.nil))) ?_
                    rintro _ _ ⟨b189, rfl, rfl⟩
                    refine rg_e (.inl rfl) rfl rfl (by exact ev_appendL (ys := [a]) (T := 39) (T2 := 39) (.cons rfl (.cons rfl .nil)) rfl rfl hoA1 (R := cat [[(b189, _)], BX2, [(b181, _)], BN2, [(b175, _)], [(b21, _)], BA, [(b10, _)], [(b5, _)]] L) (cat_perm (ls' := [BA1, [(b189, _)], BX2, [(b181, _)], BN2, [(b175, _)], [(b21, _)], BA, [(b10, _)], [(b5, _)]]) (ls := [[(b189, _)], BA1, BX2, [(b181, _)], BN2, [(b175, _)], [(b21, _)], BA, [(b10, _)], [(b5, _)]]) (by repeat (first | exact PermM.nil | refine PermM.cons (by repeat (first | exact Ins.here | apply Ins.there)) ?_))) (.row (List.Mem.head _) (SegL.seg (m := 1) (by repeat (first | exact SegL.done | apply SegL.take | apply SegL.skip))).1 rfl) (fun _ => rfl) encU_one (by rw [List.length_append]; simp only [List.length_singleton]; omega) rfl rfl rfl rfl) ?_
                    rintro av2 _ ⟨BA2, hoA2, rfl⟩
                    obtain ⟨pA2, cA2, rfl, hqA2⟩ := id (hoA2.rd (fun _ => rfl) (by decide))
                    refine rg_q (.inl rfl) rfl rfl (by exact QW.qr (qw_fieldAddr rfl)) ?_
                    refine rg_e0 (.inl rfl) rfl (by exact ev_store rfl rfl (by first | exact CellsOf.agg | exact CellsOf.one rfl) (by repeat (first | exact List.Mem.head _ | apply List.Mem.tail | apply List.mem_append_right | assumption)) (by repeat (first | exact SetSeg.done | apply SetSeg.take | apply SetSeg.skip)) rfl rfl (by repeat (first | exact Upd.here | apply Upd.there | apply Upd.app)) (by first | exact Or.inl ⟨inferInstance, rfl⟩ | exact Or.inr inferInstance)) ?_
                    rintro _ _ ⟨rfl, rfl⟩
                    refine rg_nil ?_
                    refine qg_then ?_
                    refine cg_seq ?_
                    refine cg_region ?_
                    refine rg_q (.inl rfl) rfl rfl (by exact QW.qr (qw_move rfl)) ?_
                    refine rg_q (.inl rfl) rfl rfl (by exact QW.qr (qw_move rfl)) ?_
                    refine rg_q (.inl rfl) rfl rfl (by exact QW.qr (qw_sub rfl rfl)) ?_
                    refine rg_q (.inl rfl) rfl rfl (by exact QW.qr (qw_fieldAddr rfl)) ?_
                    refine rg_e0 (.inl rfl) rfl (by exact ev_store rfl rfl (by first | exact CellsOf.agg | exact CellsOf.one rfl) (by repeat (first | exact List.Mem.head _ | apply List.Mem.tail | apply List.mem_append_right | assumption)) (by repeat (first | exact SetSeg.done | apply SetSeg.take | apply SetSeg.skip)) rfl rfl (by repeat (first | exact Upd.here | apply Upd.there | apply Upd.app)) (by first | exact Or.inl ⟨inferInstance, rfl⟩ | exact Or.inr inferInstance)) ?_
                    rintro _ _ ⟨rfl, rfl⟩
                    refine rg_nil ?_
                    refine qg_then ?_
                    refine cg_seq ?_
                    refine cg_region ?_
                    refine rg_q (.inl rfl) rfl rfl (by exact qr_loadN rfl (by repeat (first | exact List.Mem.head _ | apply List.Mem.tail | apply List.mem_append_right | assumption)) (by repeat (first | exact SegL.done | apply SegL.take | apply SegL.skip))) ?_
                    refine rg_e0 (.inl rfl) rfl (by exact ev_store rfl rfl (by first | exact CellsOf.agg | exact CellsOf.one rfl) (by repeat (first | exact List.Mem.head _ | apply List.Mem.tail | apply List.mem_append_right | assumption)) (by repeat (first | exact SetSeg.done | apply SetSeg.take | apply SetSeg.skip)) rfl rfl (by repeat (first | exact Upd.here | apply Upd.there | apply Upd.app)) (by first | exact Or.inl ⟨inferInstance, rfl⟩ | exact Or.inr inferInstance)) ?_
                    rintro _ _ ⟨rfl, rfl⟩
                    refine rg_q (.inl rfl) rfl rfl (by exact QW.qr (qw_assign rfl)) ?_
                    refine rg_nil ?_
                    refine qg_then ?_
                    refine cg_ret ?_
                    exact qg_end_sp (.inl rfl) _ (.cons (resCellN rfl (by repeat (first | exact List.Mem.head _ | apply List.Mem.tail | apply List.mem_append_right | assumption)) (by repeat (first | exact SegL.done | apply SegL.take | apply SegL.skip))) (.cons (.tmp rfl) (.nil))) _ (cat_sub (ls' := [BA2, BX2, BN2]) (ls := [BA2, [(b189, _)], BX2, [(b181, _)], BN2, [(b175, _)], [(b21, _)], BA, [(b10, _)], [(b5, _)]]) (by repeat (first | exact SubM.nil | refine SubM.cons (by repeat (first | exact Ins.here | apply Ins.there)) ?_))) ⟨_, _, _, BA2 ++ (BX2 ++ BN2), by rw [hfin]; rfl, by rw [List.append_assoc, List.append_assoc]; rfl,
                      by rw [hfin]; exact (hoN2.rd (fun _ => rfl) (by decide)).mono (fun q hq => List.mem_append_right _ (List.mem_append_right _ hq)), by rw [hfin]; exact (hoX2.rd (fun _ => rfl) (by decide)).mono (fun q hq => List.mem_append_right _ (List.mem_append_left _ hq)), by rw [hfin]; exact (hoA2.rd (fun _ => rfl) (by decide)).mono (fun q hq => List.mem_append_left _ hq)⟩

end Go.Proofs.Ytjimpciiaceleaa