/-
  THE WALKS of the document's Check and Steps, and of the law's sends. Conditions: sizes; numbers of their kinds.
-/
import Derived.Test.YtjimpciiaceleaaA19
namespace Go.Proofs.Ytjimpciiaceleaa
open Fw
set_option linter.unusedVariables false
set_option maxRecDepth 100000

theorem edge_seg {A : Array Value} {o : Nat} {e : Edge} (h : Seg A o (encE e)) :
    A[o + 0 + (0 : Int).toNat * 1]? = some (I e.e0) ∧ A[o + 0 + (1 : Int).toNat * 1]? = some (I e.e1) :=
  ⟨h.get (i := 0) rfl, h.get (i := 1) rfl⟩
theorem edge_segj {A : Array Value} {o : Nat} {e : Edge} (h : Seg A o (encE e)) {j : Nat} (hj : j < 2) :
    A[o + 0 + (j : Int).toNat * 1]? = some (I (endAt e j)) ∧ A[o + 0 + (1 - (j : Int)).toNat * 1]? = some (I (endAt e (1 - j))) ∧ A[o + 2 + (j : Int).toNat * 1]? = some (U (canAt e j)) ∧ Seg A (o + 4 + (j : Int).toNat * 2) (encFee (feeAt e j)) := by
  have h01 : j = 0 ∨ j = 1 := by omega
  rcases h01 with rfl | rfl
  · exact ⟨h.get (i := 0) rfl, h.get (i := 1) rfl, h.get (i := 2) rfl, h.part 4 2 (Nat.le_of_ble_eq_true rfl)⟩
  · exact ⟨h.get (i := 1) rfl, h.get (i := 0) rfl, h.get (i := 3) rfl, h.part 6 2 (Nat.le_of_ble_eq_true rfl)⟩
/-- What the first s ends of a channel give. -/
def sidePart (i : Nat) (e : Edge) (x : Int) : Nat → List Step
  | 0 => []
  | s + 1 => sidePart i e x s ++ (if endAt e s = x then [⟨i, endAt e (1 - s), canAt e s, feeAt e s⟩] else [])
theorem sidePart_all {i : Nat} {e : Edge} {x : Int} (h : e.e0 ≠ e.e1) : sidePart i e x 2 = stepsFrom x i [e] := by
  have hs := sideOf_eq e x
  simp only [stepsFrom]
  unfold stepOf
  rw [hs]
  simp only [sidePart, endAt, canAt, feeAt]
  by_cases h0 : e.e0 = x
  · have h1 : ¬ e.e1 = x := by omega
    simp [h0, h1]
  · by_cases h1 : e.e1 = x
    · simp [h0, h1]
    · simp [h0, h1]
theorem stepsFrom_take1 (x : Int) (es : List Edge) (i k : Nat) (hk : k < es.length) : stepsFrom x i (es.take (k + 1)) = stepsFrom x i (es.take k) ++ stepsFrom x (i + k) [es[k]] := by
  rw [stepsFrom_take x es i k hk]
  simp [stepsFrom]
  rfl
theorem sidePart_len (i : Nat) (e : Edge) (x : Int) (s : Nat) : (sidePart i e x s).length ≤ s := by
  induction s with
  | zero => simp [sidePart]
  | succ s ih =>
    rw [sidePart, List.length_append]
    split <;> simp <;> omega
theorem checkF_edges {n : Nat} {es : List Edge} (h : checkF n es = 0) : ∀ e ∈ es, edgeOk n e := by
  unfold checkF at h
  split at h
  · cases h
  · split at h
    · assumption
    · cases h

theorem rcheck_ca (n : Nat) (es : List Edge) (p : Option Addr) (cap : Nat) (ev : Value) (O : Out) (L : List Blk) (he : RdW L encE ev es) (hn : n < 9223372036854775808) (hes : es.length < 9223372036854775808) :
    CA Try.prog 43 [.agg #[.slice p n cap, ev]] O L fun v L' => v = I (checkF n es) ∧ L' = L := by
  obtain ⟨p2, cap2, rfl, hR2⟩ := he
  refine ca_enter Try.func43 rfl rfl ?_
  rw [Try.ntmps43]
  simp only [envOf]
  refine cg_seq ?_
  refine cg_region ?_
  refine rg_e (.inl rfl) rfl rfl (by exact ev_box rfl (by first | exact CellsOf.agg | exact CellsOf.one rfl)) ?_
  rintro _ _ ⟨b1, rfl, rfl⟩
  refine rg_q (.inl rfl) rfl rfl (by exact QW.qr (qw_assign rfl)) ?_
  refine rg_nil ?_
  refine qg_then ?_
  refine cg_seq ?_
  refine cg_seq ?_
  refine cg_region ?_
  refine rg_q (.inl rfl) rfl rfl (by exact QW.qr (qw_fieldAddr rfl)) ?_
  refine rg_q (.inl rfl) rfl rfl (by exact qr_load1 rfl (by repeat (first | exact List.Mem.head _ | apply List.Mem.tail | apply List.mem_append_right | assumption)) rfl) ?_
  refine rg_q (.inl rfl) rfl rfl (by exact QW.qr (qw_len_slice (t := 22) (.cons rfl (.nil)) rfl)) ?_
  refine rg_split (.inl rfl) rfl rfl (by exact qc_gtr rfl rfl) ?_ ?_
  · intro h8
    have hfin := checkF_big (n := n) (es := es) (.inl (by omega))
    refine rg_q (.inl rfl) rfl rfl (by exact QW.qr (qw_move rfl)) ?_
    refine rg_s (guard_mk rfl rfl rfl rfl) rfl rfl ?_
    refine rg_s (guard_mk rfl rfl rfl rfl) rfl rfl ?_
    refine rg_s (guard_mk rfl rfl rfl rfl) rfl rfl ?_
    refine rg_s (guard_mk rfl rfl rfl rfl) rfl rfl ?_
    refine rg_q (.inl rfl) rfl rfl (by exact QW.qr (qw_pick_t rfl rfl)) ?_
    refine rg_nil ?_
    refine qg_then ?_
    refine cg_true rfl ?_
    refine cg_seq ?_
    refine cg_region ?_
    refine rg_q (.inl rfl) rfl rfl (by exact QW.qr (qw_assign rfl)) ?_
    refine rg_nil ?_
    refine qg_then ?_
    refine cg_ret ?_
    refine qg_then_ret ?_
    exact qg_end (.inl rfl) _ (.cons (.tmp rfl) (.nil)) _ (by repeat (first | exact List.Sublist.refl _ | exact List.nil_sublist _ | exact List.sublist_append_right _ _ | apply List.Sublist.cons_cons | apply List.Sublist.cons)) ⟨by rw [hfin]; rfl, rfl⟩
  · intro h8
    refine rg_q (.inl rfl) rfl rfl (by exact QW.qr (qw_move rfl)) ?_
    refine rg_q (.inr (guard_mk rfl rfl rfl rfl)) rfl rfl (by exact QW.qr (qw_fieldAddr rfl)) ?_
    refine rg_q (.inr (guard_mk rfl rfl rfl rfl)) rfl rfl (by exact qr_load1 rfl (by repeat (first | exact List.Mem.head _ | apply List.Mem.tail | apply List.mem_append_right | assumption)) rfl) ?_
    refine rg_q (.inr (guard_mk rfl rfl rfl rfl)) rfl rfl (by exact QW.qr (qw_len_slice (t := 23) (.cons rfl (.nil)) rfl)) ?_
    refine rg_split (.inr (guard_mk rfl rfl rfl rfl)) rfl rfl (by exact qc_gtr rfl rfl) ?_ ?_
    · intro h16
      have hfin := checkF_big (n := n) (es := es) (.inr (by omega))
      refine rg_q (.inl rfl) rfl rfl (by exact QW.qr (qw_pick_f rfl rfl)) ?_
      refine rg_nil ?_
      refine qg_then ?_
      refine cg_true rfl ?_
      refine cg_seq ?_
      refine cg_region ?_
      refine rg_q (.inl rfl) rfl rfl (by exact QW.qr (qw_assign rfl)) ?_
      refine rg_nil ?_
      refine qg_then ?_
      refine cg_ret ?_
      refine qg_then_ret ?_
      exact qg_end (.inl rfl) _ (.cons (.tmp rfl) (.nil)) _ (by repeat (first | exact List.Sublist.refl _ | exact List.nil_sublist _ | exact List.sublist_append_right _ _ | apply List.Sublist.cons_cons | apply List.Sublist.cons)) ⟨by rw [hfin]; rfl, rfl⟩
    · intro h16
      have hsm : ¬ (n > 8 ∨ es.length > 16) := by omega
      refine rg_q (.inl rfl) rfl rfl (by exact QW.qr (qw_pick_f rfl rfl)) ?_
      refine rg_nil ?_
      refine qg_then ?_
      refine cg_false rfl ?_
      refine cg_skip ?_
      refine qg_then ?_
      refine cg_seq ?_
      refine cg_seq ?_
      refine cg_region ?_
      refine rg_q (.inl rfl) rfl rfl (by exact QW.qr (qw_assign rfl)) ?_
      refine rg_nil ?_
      refine qg_then ?_
      refine cg_block ?_
      refine cg_loop (fun E' L' m => ∃ k : Nat, k ≤ es.length ∧ (∀ j, j < k → ∀ h : j < es.length, edgeOk n es[j]) ∧ E' = [(1, .pointer (some ⟨b1, 0, none⟩)), (3, .int .i64 k)] ∧ L' = (b1, .cells [Value.slice p n cap, Value.slice p2 es.length cap2].toArray 25 (0, 0)) :: L ∧ m = es.length - k) _ _ _ ⟨0, by omega, fun j h => by omega, rfl, rfl, rfl⟩ (by repeat (first | exact Sub.nil | refine Sub.cons rfl ?_ | refine Sub.cons (congrArg (fun z => some (Value.int IntKind.i64 z)) (by omega)) ?_)) (List.Perm.refl _) ?_
      rintro _ _ _ ⟨k, hk, hall, rfl, rfl, rfl⟩
      refine cg_seq ?_
      refine cg_seq ?_
      refine cg_region ?_
      refine rg_q (.inl rfl) rfl rfl (by exact QW.qr (qw_move rfl)) ?_
      refine rg_q (.inl rfl) rfl rfl (by exact QW.qr (qw_fieldAddr rfl)) ?_
      refine rg_q (.inl rfl) rfl rfl (by exact qr_load1 rfl (by repeat (first | exact List.Mem.head _ | apply List.Mem.tail | apply List.mem_append_right | assumption)) rfl) ?_
      refine rg_q (.inl rfl) rfl rfl (by exact QW.qr (qw_len_slice (t := 23) (.cons rfl (.nil)) rfl)) ?_
      refine rg_split (.inl rfl) rfl rfl (by exact qc_lss rfl rfl) ?_ ?_
      · intro hlt
        have hklt : k < es.length := by omega
        obtain ⟨b0, o0, A0, t0, fz0, rfl, hm0, hseg⟩ := hR2 (by omega)
        have hfe := hseg.elem (enc := encE) (k := 8) (fun _ => rfl) hklt
        obtain ⟨hg0, hg1⟩ := edge_seg hfe
        refine rg_nil ?_
        refine qg_then ?_
        refine cg_true rfl ?_
        refine cg_skip ?_
        refine qg_then ?_
        refine cg_seq ?_
        refine cg_block ?_
        refine cg_seq ?_
        refine cg_draw follows (.op 0 false (.op 1 false (.op 2 false (.op 3 false (.op 4 false (.op 5 false (.op 6 false (.op 7 false (.op 8 false (.op 9 false (.op 10 false (.op 11 false (.op 12 false (.op 13 false (.op 14 false (.op 15 false .done)))))))))))))))) _ (by kernel_rfl) (SubP.of (List.Sublist.refl _)) ?_
        refine dg_w rfl rfl (.inl rfl) rfl rfl (by exact qw_fieldAddr rfl) ?_
        refine dg_r rfl rfl rfl (.inl rfl) rfl rfl (by exact qr_load1 rfl (by repeat (first | exact List.Mem.head _ | apply List.Mem.tail | apply List.mem_append_right | assumption)) rfl) ?_
        refine dg_w rfl rfl (.inl rfl) rfl rfl (by exact qw_move rfl) ?_
        refine dg_w rfl rfl (.inl rfl) rfl rfl (by exact qw_indexAddr rfl rfl (by omega) (by omega)) ?_
        refine dg_w rfl rfl (.inl rfl) rfl rfl (by exact qw_fieldAddr rfl) ?_
        refine dg_w rfl rfl (.inl rfl) rfl rfl (by exact qw_indexAddr_arr rfl rfl (by omega) (by omega)) ?_
        refine dg_r rfl rfl rfl (.inl rfl) rfl rfl (by exact qr_load1' rfl (List.mem_cons_of_mem _ hm0) hg0) ?_
        refine dg_w rfl rfl (.inl rfl) rfl rfl (by exact qw_fieldAddr rfl) ?_
        refine dg_r rfl rfl rfl (.inl rfl) rfl rfl (by exact qr_load1 rfl (by repeat (first | exact List.Mem.head _ | apply List.Mem.tail | apply List.mem_append_right | assumption)) rfl) ?_
        refine dg_w rfl rfl (.inl rfl) rfl rfl (by exact qw_move rfl) ?_
        refine dg_w rfl rfl (.inl rfl) rfl rfl (by exact qw_indexAddr rfl rfl (by omega) (by omega)) ?_
        refine dg_w rfl rfl (.inl rfl) rfl rfl (by exact qw_fieldAddr rfl) ?_
        refine dg_w rfl rfl (.inl rfl) rfl rfl (by exact qw_indexAddr_arr rfl rfl (by omega) (by omega)) ?_
        refine dg_r rfl rfl rfl (.inl rfl) rfl rfl (by exact qr_load1' rfl (List.mem_cons_of_mem _ hm0) hg1) ?_
        refine dg_w rfl rfl (.inl rfl) rfl rfl (by exact qw_assign rfl) ?_
        refine dg_w rfl rfl (.inl rfl) rfl rfl (by exact qw_assign rfl) ?_
        refine dg_nil ?_
        refine qg_then ?_
        refine cg_seq ?_
        refine cg_region ?_
        refine rg_q (.inl rfl) rfl rfl (by exact QW.qr (qw_move rfl)) ?_
        refine rg_split (.inl rfl) rfl rfl (by exact qc_lss rfl rfl) ?_ ?_
        · intro ha
          have hbad : ¬ edgeOk n es[k] := by (unfold edgeOk endOk; omega)
          refine rg_q (.inl rfl) rfl rfl (by exact QW.qr (qw_move rfl)) ?_
          refine rg_s (guard_mk rfl rfl rfl rfl) rfl rfl ?_
          refine rg_s (guard_mk rfl rfl rfl rfl) rfl rfl ?_
          refine rg_q (.inl rfl) rfl rfl (by exact QW.qr (qw_pick_t rfl rfl)) ?_
          refine rg_q (.inl rfl) rfl rfl (by exact QW.qr (qw_move rfl)) ?_
          refine rg_s (guard_mk rfl rfl rfl rfl) rfl rfl ?_
          refine rg_s (guard_mk rfl rfl rfl rfl) rfl rfl ?_
          refine rg_s (guard_mk rfl rfl rfl rfl) rfl rfl ?_
          refine rg_s (guard_mk rfl rfl rfl rfl) rfl rfl ?_
          refine rg_s (guard_mk rfl rfl rfl rfl) rfl rfl ?_
          refine rg_q (.inl rfl) rfl rfl (by exact QW.qr (qw_pick_t rfl rfl)) ?_
          refine rg_q (.inl rfl) rfl rfl (by exact QW.qr (qw_move rfl)) ?_
          refine rg_s (guard_mk rfl rfl rfl rfl) rfl rfl ?_
          refine rg_s (guard_mk rfl rfl rfl rfl) rfl rfl ?_
          refine rg_s (guard_mk rfl rfl rfl rfl) rfl rfl ?_
          refine rg_s (guard_mk rfl rfl rfl rfl) rfl rfl ?_
          refine rg_s (guard_mk rfl rfl rfl rfl) rfl rfl ?_
          refine rg_q (.inl rfl) rfl rfl (by exact QW.qr (qw_pick_t rfl rfl)) ?_
          refine rg_q (.inl rfl) rfl rfl (by exact QW.qr (qw_move rfl)) ?_
          refine rg_s (guard_mk rfl rfl rfl rfl) rfl rfl ?_
          refine rg_s (guard_mk rfl rfl rfl rfl) rfl rfl ?_
          refine rg_s (guard_mk rfl rfl rfl rfl) rfl rfl ?_
          refine rg_q (.inl rfl) rfl rfl (by exact QW.qr (qw_pick_t rfl rfl)) ?_
          refine rg_nil ?_
          refine qg_then ?_
          refine cg_true rfl ?_
          refine cg_seq ?_
          refine cg_region ?_
          refine rg_q (.inl rfl) rfl rfl (by exact QW.qr (qw_assign rfl)) ?_
          refine rg_nil ?_
          refine qg_then ?_
          refine cg_ret ?_
          refine qg_block_ret ?_
          refine qg_then_ret ?_
          refine qg_then_ret ?_
          refine qg_block_ret ?_
          refine qg_then_ret ?_
          exact qg_end (.inl rfl) _ (.cons (.tmp rfl) (.nil)) _ (by repeat (first | exact List.Sublist.refl _ | exact List.nil_sublist _ | exact List.sublist_append_right _ _ | apply List.Sublist.cons_cons | apply List.Sublist.cons)) ⟨by rw [checkF_bad hsm (List.getElem_mem hklt) hbad]; rfl, rfl⟩
        · intro ha
          refine rg_q (.inl rfl) rfl rfl (by exact QW.qr (qw_move rfl)) ?_
          refine rg_q (.inr (guard_mk rfl rfl rfl rfl)) rfl rfl (by exact QW.qr (qw_move rfl)) ?_
          refine rg_split (.inr (guard_mk rfl rfl rfl rfl)) rfl rfl (by exact qc_lss rfl rfl) ?_ ?_
          · intro hb
            have hbad : ¬ edgeOk n es[k] := by (unfold edgeOk endOk; omega)
            refine rg_q (.inl rfl) rfl rfl (by exact QW.qr (qw_pick_f rfl rfl)) ?_
            refine rg_q (.inl rfl) rfl rfl (by exact QW.qr (qw_move rfl)) ?_
            refine rg_s (guard_mk rfl rfl rfl rfl) rfl rfl ?_
            refine rg_s (guard_mk rfl rfl rfl rfl) rfl rfl ?_
            refine rg_s (guard_mk rfl rfl rfl rfl) rfl rfl ?_
            refine rg_s (guard_mk rfl rfl rfl rfl) rfl rfl ?_
            refine rg_s (guard_mk rfl rfl rfl rfl) rfl rfl ?_
            refine rg_q (.inl rfl) rfl rfl (by exact QW.qr (qw_pick_t rfl rfl)) ?_
            refine rg_q (.inl rfl) rfl rfl (by exact QW.qr (qw_move rfl)) ?_
            refine rg_s (guard_mk rfl rfl rfl rfl) rfl rfl ?_
            refine rg_s (guard_mk rfl rfl rfl rfl) rfl rfl ?_
            refine rg_s (guard_mk rfl rfl rfl rfl) rfl rfl ?_
            refine rg_s (guard_mk rfl rfl rfl rfl) rfl rfl ?_
            refine rg_s (guard_mk rfl rfl rfl rfl) rfl rfl ?_
            refine rg_q (.inl rfl) rfl rfl (by exact QW.qr (qw_pick_t rfl rfl)) ?_
            refine rg_q (.inl rfl) rfl rfl (by exact QW.qr (qw_move rfl)) ?_
            refine rg_s (guard_mk rfl rfl rfl rfl) rfl rfl ?_
            refine rg_s (guard_mk rfl rfl rfl rfl) rfl rfl ?_
            refine rg_s (guard_mk rfl rfl rfl rfl) rfl rfl ?_
            refine rg_q (.inl rfl) rfl rfl (by exact QW.qr (qw_pick_t rfl rfl)) ?_
            refine rg_nil ?_
            refine qg_then ?_
            refine cg_true rfl ?_
            refine cg_seq ?_
            refine cg_region ?_
            refine rg_q (.inl rfl) rfl rfl (by exact QW.qr (qw_assign rfl)) ?_
            refine rg_nil ?_
            refine qg_then ?_
            refine cg_ret ?_
            refine qg_block_ret ?_
            refine qg_then_ret ?_
            refine qg_then_ret ?_
            refine qg_block_ret ?_
            refine qg_then_ret ?_
            exact qg_end (.inl rfl) _ (.cons (.tmp rfl) (.nil)) _ (by repeat (first | exact List.Sublist.refl _ | exact List.nil_sublist _ | exact List.sublist_append_right _ _ | apply List.Sublist.cons_cons | apply List.Sublist.cons)) ⟨by rw [checkF_bad hsm (List.getElem_mem hklt) hbad]; rfl, rfl⟩
          · intro hb
            refine rg_q (.inl rfl) rfl rfl (by exact QW.qr (qw_pick_f rfl rfl)) ?_
            refine rg_q (.inl rfl) rfl rfl (by exact QW.qr (qw_move rfl)) ?_
            refine rg_q (.inr (guard_mk rfl rfl rfl rfl)) rfl rfl (by exact QW.qr (qw_move rfl)) ?_
            refine rg_q (.inr (guard_mk rfl rfl rfl rfl)) rfl rfl (by exact QW.qr (qw_fieldAddr rfl)) ?_
            refine rg_q (.inr (guard_mk rfl rfl rfl rfl)) rfl rfl (by exact qr_load1 rfl (by repeat (first | exact List.Mem.head _ | apply List.Mem.tail | apply List.mem_append_right | assumption)) rfl) ?_
            refine rg_q (.inr (guard_mk rfl rfl rfl rfl)) rfl rfl (by exact QW.qr (qw_len_slice (t := 22) (.cons rfl (.nil)) rfl)) ?_
            refine rg_split (.inr (guard_mk rfl rfl rfl rfl)) rfl rfl (by exact qc_geq rfl rfl) ?_ ?_
            · intro hc
              have hbad : ¬ edgeOk n es[k] := by (unfold edgeOk endOk; omega)
              refine rg_q (.inl rfl) rfl rfl (by exact QW.qr (qw_pick_f rfl rfl)) ?_
              refine rg_q (.inl rfl) rfl rfl (by exact QW.qr (qw_move rfl)) ?_
              refine rg_s (guard_mk rfl rfl rfl rfl) rfl rfl ?_
              refine rg_s (guard_mk rfl rfl rfl rfl) rfl rfl ?_
              refine rg_s (guard_mk rfl rfl rfl rfl) rfl rfl ?_
              refine rg_s (guard_mk rfl rfl rfl rfl) rfl rfl ?_
              refine rg_s (guard_mk rfl rfl rfl rfl) rfl rfl ?_
              refine rg_q (.inl rfl) rfl rfl (by exact QW.qr (qw_pick_t rfl rfl)) ?_
              refine rg_q (.inl rfl) rfl rfl (by exact QW.qr (qw_move rfl)) ?_
              refine rg_s (guard_mk rfl rfl rfl rfl) rfl rfl ?_
              refine rg_s (guard_mk rfl rfl rfl rfl) rfl rfl ?_
              refine rg_s (guard_mk rfl rfl rfl rfl) rfl rfl ?_
              refine rg_q (.inl rfl) rfl rfl (by exact QW.qr (qw_pick_t rfl rfl)) ?_
              refine rg_nil ?_
              refine qg_then ?_
              refine cg_true rfl ?_
              refine cg_seq ?_
              refine cg_region ?_
              refine rg_q (.inl rfl) rfl rfl (by exact QW.qr (qw_assign rfl)) ?_
              refine rg_nil ?_
              refine qg_then ?_
              refine cg_ret ?_
              refine qg_block_ret ?_
              refine qg_then_ret ?_
              refine qg_then_ret ?_
              refine qg_block_ret ?_
              refine qg_then_ret ?_
              exact qg_end (.inl rfl) _ (.cons (.tmp rfl) (.nil)) _ (by repeat (first | exact List.Sublist.refl _ | exact List.nil_sublist _ | exact List.sublist_append_right _ _ | apply List.Sublist.cons_cons | apply List.Sublist.cons)) ⟨by rw [checkF_bad hsm (List.getElem_mem hklt) hbad]; rfl, rfl⟩
            · intro hc
              refine rg_q (.inl rfl) rfl rfl (by exact QW.qr (qw_pick_f rfl rfl)) ?_
              refine rg_q (.inl rfl) rfl rfl (by exact QW.qr (qw_move rfl)) ?_
              refine rg_q (.inr (guard_mk rfl rfl rfl rfl)) rfl rfl (by exact QW.qr (qw_move rfl)) ?_
              refine rg_q (.inr (guard_mk rfl rfl rfl rfl)) rfl rfl (by exact QW.qr (qw_fieldAddr rfl)) ?_
              refine rg_q (.inr (guard_mk rfl rfl rfl rfl)) rfl rfl (by exact qr_load1 rfl (by repeat (first | exact List.Mem.head _ | apply List.Mem.tail | apply List.mem_append_right | assumption)) rfl) ?_
              refine rg_q (.inr (guard_mk rfl rfl rfl rfl)) rfl rfl (by exact QW.qr (qw_len_slice (t := 22) (.cons rfl (.nil)) rfl)) ?_
              refine rg_split (.inr (guard_mk rfl rfl rfl rfl)) rfl rfl (by exact qc_geq rfl rfl) ?_ ?_
              · intro hd
                have hbad : ¬ edgeOk n es[k] := by (unfold edgeOk endOk; omega)
                refine rg_q (.inl rfl) rfl rfl (by exact QW.qr (qw_pick_f rfl rfl)) ?_
                refine rg_q (.inl rfl) rfl rfl (by exact QW.qr (qw_move rfl)) ?_
                refine rg_s (guard_mk rfl rfl rfl rfl) rfl rfl ?_
                refine rg_s (guard_mk rfl rfl rfl rfl) rfl rfl ?_
                refine rg_s (guard_mk rfl rfl rfl rfl) rfl rfl ?_
                refine rg_q (.inl rfl) rfl rfl (by exact QW.qr (qw_pick_t rfl rfl)) ?_
                refine rg_nil ?_
                refine qg_then ?_
                refine cg_true rfl ?_
                refine cg_seq ?_
                refine cg_region ?_
                refine rg_q (.inl rfl) rfl rfl (by exact QW.qr (qw_assign rfl)) ?_
                refine rg_nil ?_
                refine qg_then ?_
                refine cg_ret ?_
                refine qg_block_ret ?_
                refine qg_then_ret ?_
                refine qg_then_ret ?_
                refine qg_block_ret ?_
                refine qg_then_ret ?_
                exact qg_end (.inl rfl) _ (.cons (.tmp rfl) (.nil)) _ (by repeat (first | exact List.Sublist.refl _ | exact List.nil_sublist _ | exact List.sublist_append_right _ _ | apply List.Sublist.cons_cons | apply List.Sublist.cons)) ⟨by rw [checkF_bad hsm (List.getElem_mem hklt) hbad]; rfl, rfl⟩
              · intro hd
                refine rg_q (.inl rfl) rfl rfl (by exact QW.qr (qw_pick_f rfl rfl)) ?_
                refine rg_q (.inl rfl) rfl rfl (by exact QW.qr (qw_move rfl)) ?_
                refine rg_q (.inr (guard_mk rfl rfl rfl rfl)) rfl rfl (by exact QW.qr (qw_move rfl)) ?_
                refine rg_q (.inr (guard_mk rfl rfl rfl rfl)) rfl rfl (by exact QW.qr (qw_move rfl)) ?_
                refine rg_split (.inr (guard_mk rfl rfl rfl rfl)) rfl rfl (by exact qc_eql rfl rfl) ?_ ?_
                · intro heq
                  have hbad : ¬ edgeOk n es[k] := by (unfold edgeOk endOk; omega)
                  refine rg_q (.inl rfl) rfl rfl (by exact QW.qr (qw_pick_f rfl rfl)) ?_
                  refine rg_nil ?_
                  refine qg_then ?_
                  refine cg_true rfl ?_
                  refine cg_seq ?_
                  refine cg_region ?_
                  refine rg_q (.inl rfl) rfl rfl (by exact QW.qr (qw_assign rfl)) ?_
                  refine rg_nil ?_
                  refine qg_then ?_
                  refine cg_ret ?_
                  refine qg_block_ret ?_
                  refine qg_then_ret ?_
                  refine qg_then_ret ?_
                  refine qg_block_ret ?_
                  refine qg_then_ret ?_
                  exact qg_end (.inl rfl) _ (.cons (.tmp rfl) (.nil)) _ (by repeat (first | exact List.Sublist.refl _ | exact List.nil_sublist _ | exact List.sublist_append_right _ _ | apply List.Sublist.cons_cons | apply List.Sublist.cons)) ⟨by rw [checkF_bad hsm (List.getElem_mem hklt) hbad]; rfl, rfl⟩
                · intro heq
                  refine rg_q (.inl rfl) rfl rfl (by exact QW.qr (qw_pick_f rfl rfl)) ?_
                  refine rg_nil ?_
                  refine qg_then ?_
                  refine cg_false rfl ?_
                  refine cg_skip ?_
                  refine qg_block ?_
                  refine qg_then ?_
                  refine cg_region ?_
                  refine rg_q (.inl rfl) rfl rfl (by exact QW.qr (qw_move rfl)) ?_
                  refine rg_q (.inl rfl) rfl rfl (by exact QW.qr (qw_add_in rfl rfl (by unfold inK; omega))) ?_
                  refine rg_q (.inl rfl) rfl rfl (by exact QW.qr (qw_assign rfl)) ?_
                  refine rg_nil ?_
                  exact qg_round _ _ _ ⟨k + 1, by omega, fun j h h2 => by (rcases Nat.lt_succ_iff_lt_or_eq.1 h with h3 | h3; exact hall j h3 h2; subst h3; exact ⟨⟨by omega, by omega⟩, ⟨by omega, by omega⟩, heq⟩), rfl, rfl, rfl⟩ (by repeat (first | exact Sub.nil | refine Sub.cons rfl ?_ | refine Sub.cons (congrArg (fun z => some (Value.int IntKind.i64 z)) (by omega)) ?_)) (List.Perm.refl _) (by omega)
      · intro hlt
        obtain rfl : k = es.length := by omega
        refine rg_nil ?_
        refine qg_then ?_
        refine cg_false rfl ?_
        refine cg_exit ?_
        refine qg_then_exit ?_
        refine qg_then_exit ?_
        refine qg_block_here ?_
        refine qg_then ?_
        refine cg_seq ?_
        refine cg_region ?_
        refine rg_q (.inl rfl) rfl rfl (by exact QW.qr (qw_assign rfl)) ?_
        refine rg_nil ?_
        refine qg_then ?_
        refine cg_ret ?_
        refine qg_end (.inl rfl) _ (.cons (.tmp rfl) (.nil)) _ (by repeat (first | exact List.Sublist.refl _ | exact List.nil_sublist _ | exact List.sublist_append_right _ _ | apply List.Sublist.cons_cons | apply List.Sublist.cons)) ⟨?_, rfl⟩
        rw [checkF_ok hsm (fun e he => ?_)]
        · rfl
        · obtain ⟨i, hi, rfl⟩ := List.mem_iff_getElem.1 he
          exact hall i (by omega) hi

theorem rsteps_ca (n : Nat) (es : List Edge) (x : Int) (p : Option Addr) (cap : Nat) (ev : Value) (O : Out) (L : List Blk) (he : RdW L encE ev es) (hn : n < 9223372036854775808) (hes : es.length < 100000) :
    CA Try.prog 32 [.agg #[.slice p n cap, ev], I x] O L fun v L' => ∃ B, L' = B ++ L ∧ RdL B encS 5 v (stepsF n es x) := by
  obtain ⟨p2, cap2, rfl, hR2⟩ := id he
  refine ca_enter Try.func32 rfl rfl ?_
  rw [Try.ntmps32]
  simp only [envOf]
  refine cg_seq ?_
  refine cg_region ?_
  refine rg_e (.inl rfl) rfl rfl (by exact ev_box rfl (by first | exact CellsOf.agg | exact CellsOf.one rfl)) ?_
  rintro _ _ ⟨b2, rfl, rfl⟩
  refine rg_q (.inl rfl) rfl rfl (by exact QW.qr (qw_assign rfl)) ?_
  refine rg_nil ?_
  refine qg_then ?_
  refine cg_seq ?_
  refine cg_region ?_
  refine rg_q (.inl rfl) rfl rfl (by exact QW.qr (qw_assign rfl)) ?_
  refine rg_nil ?_
  refine qg_then ?_
  refine cg_seq ?_
  refine cg_seq ?_
  refine cg_region ?_
  refine rg_q (.inl rfl) rfl rfl (by exact qr_loadN rfl (by repeat (first | exact List.Mem.head _ | apply List.Mem.tail | apply List.mem_append_right | assumption)) (by repeat (first | exact SegL.done | apply SegL.take | apply SegL.skip))) ?_
  refine rg_e (.inl rfl) rfl rfl (by exact ev_call0 rfl (.cons rfl (.nil)) (rcheck_ca n es p cap _ O _ (he.mono (fun q hq => List.mem_cons_of_mem _ hq)) (by omega) (by omega))) ?_
  rintro _ _ ⟨rfl, rfl⟩
  refine rg_split (.inl rfl) rfl rfl (by exact qc_neq rfl rfl) ?_ ?_
  · intro hc
    have hfin : stepsF n es x = [] := by rw [stepsF, if_neg hc]
    refine rg_nil ?_
    refine qg_then ?_
    refine cg_true rfl ?_
    refine cg_seq ?_
    refine cg_region ?_
    refine rg_q (.inl rfl) rfl rfl (by exact QW.qr (qw_move rfl)) ?_
    refine rg_q (.inl rfl) rfl rfl (by exact QW.qr (qw_assign rfl)) ?_
    refine rg_nil ?_
    refine qg_then ?_
    refine cg_ret ?_
    refine qg_then_ret ?_
    exact qg_end (.inl rfl) _ (.cons (.tmp rfl) (.nil)) L (by repeat (first | exact List.Sublist.refl _ | exact List.nil_sublist _ | exact List.sublist_append_right _ _ | apply List.Sublist.cons_cons | apply List.Sublist.cons)) ⟨[], rfl, by rw [hfin]; exact OwnL.nil (e := 0) |>.rd (fun _ => rfl) (by decide)⟩
  · intro hc
    have hfin : stepsF n es x = stepsFrom x 0 es := by rw [stepsF, if_pos (Decidable.not_not.1 hc)]
    have hok := checkF_edges (Decidable.not_not.1 hc)
    refine rg_nil ?_
    refine qg_then ?_
    refine cg_false rfl ?_
    refine cg_skip ?_
    refine qg_then ?_
    refine cg_seq ?_
    refine cg_seq ?_
    refine cg_region ?_
    refine rg_q (.inl rfl) rfl rfl (by exact QW.qr (qw_assign rfl)) ?_
    refine rg_nil ?_
    refine qg_then ?_
    refine cg_block ?_
    refine cg_loop (fun E' L' m => ∃ (k : Nat) (ov : Value) (B : List Blk), k ≤ es.length ∧ OwnL 94 encS 5 ov (stepsFrom x 0 (es.take k)) B ∧ E' = [(1, I x), (2, .pointer (some ⟨b2, 0, none⟩)), (5, ov), (6, .int .i64 k)] ∧ L' = B ++ (b2, .cells [Value.slice p n cap, Value.slice p2 es.length cap2].toArray 25 (0, 0)) :: L ∧ m = es.length - k) _ _ _ ⟨0, _, [], by omega, OwnL.nil, rfl, rfl, rfl⟩ (by repeat (first | exact Sub.nil | refine Sub.cons rfl ?_ | refine Sub.cons (congrArg (fun z => some (Value.int IntKind.i64 z)) (by omega)) ?_)) (List.Perm.refl _) ?_
    rintro _ _ _ ⟨k, ov, B, hk, hown, rfl, rfl, rfl⟩
    refine cg_seq ?_
    refine cg_seq ?_
    refine cg_region ?_
    refine rg_q (.inl rfl) rfl rfl (by exact QW.qr (qw_move rfl)) ?_
    refine rg_q (.inl rfl) rfl rfl (by exact QW.qr (qw_fieldAddr rfl)) ?_
    refine rg_q (.inl rfl) rfl rfl (by exact qr_load1 rfl (by repeat (first | exact List.Mem.head _ | apply List.Mem.tail | apply List.mem_append_right | assumption)) rfl) ?_
    refine rg_q (.inl rfl) rfl rfl (by exact QW.qr (qw_len_slice (t := 23) (.cons rfl (.nil)) rfl)) ?_
    refine rg_split (.inl rfl) rfl rfl (by exact qc_lss rfl rfl) ?_ ?_
    · intro hlt
      have hklt : k < es.length := by omega
      obtain ⟨b0, o0, A0, t0, fz0, rfl, hm0, hseg⟩ := hR2 (by omega)
      have hfe := hseg.elem (enc := encE) (k := 8) (fun _ => rfl) hklt
      have hown2 := stepsFrom_len x (es.take k) 0
      have htk : (es.take k).length ≤ k := by rw [List.length_take]; omega
      refine rg_nil ?_
      refine qg_then ?_
      refine cg_true rfl ?_
      refine cg_skip ?_
      refine qg_then ?_
      refine cg_seq ?_
      refine cg_block ?_
      refine cg_seq ?_
      refine cg_region ?_
      refine rg_q (.inl rfl) rfl rfl (by exact QW.qr (qw_assign rfl)) ?_
      refine rg_nil ?_
      refine qg_then ?_
      refine cg_block ?_
      refine cg_loop (fun E' L' m => ∃ (j : Nat) (ov : Value) (B : List Blk), j ≤ 2 ∧ OwnL 94 encS 5 ov (stepsFrom x 0 (es.take k) ++ sidePart k es[k] x j) B ∧ E' = [(1, I x), (2, .pointer (some ⟨b2, 0, none⟩)), (5, ov), (6, .int .i64 k), (7, .int .i64 j)] ∧ L' = B ++ (b2, .cells [Value.slice p n cap, Value.slice (some ⟨b0, o0, none⟩) es.length cap2].toArray 25 (0, 0)) :: L ∧ m = 2 - j) _ _ _ ⟨0, _, B, by omega, by rw [sidePart, List.append_nil]; exact hown, rfl, rfl, rfl⟩ (by repeat (first | exact Sub.nil | refine Sub.cons rfl ?_ | refine Sub.cons (congrArg (fun z => some (Value.int IntKind.i64 z)) (by omega)) ?_)) (List.Perm.refl _) ?_
      clear hown ov B
      rintro _ _ _ ⟨j, ov, B, hj, hown, rfl, rfl, rfl⟩
      refine cg_seq ?_
      refine cg_seq ?_
      refine cg_region ?_
      refine rg_q (.inl rfl) rfl rfl (by exact QW.qr (qw_move rfl)) ?_
      refine rg_split (.inl rfl) rfl rfl (by exact qc_lss rfl rfl) ?_ ?_
      · intro hj2
        have hj2' : j < 2 := by omega
        have hsl := sidePart_len k es[k] x j
        obtain ⟨hga, hgb, hgc, hgd⟩ := edge_segj hfe hj2'
        refine rg_nil ?_
        refine qg_then ?_
        refine cg_true rfl ?_
        refine cg_skip ?_
        refine qg_then ?_
        refine cg_seq ?_
        refine cg_block ?_
        refine cg_seq ?_
        refine cg_region ?_
        refine rg_q (.inl rfl) rfl rfl (by exact QW.qr (qw_fieldAddr rfl)) ?_
        refine rg_q (.inl rfl) rfl rfl (by exact qr_load1 rfl (by repeat (first | exact List.Mem.head _ | apply List.Mem.tail | apply List.mem_append_right | assumption)) rfl) ?_
        refine rg_q (.inl rfl) rfl rfl (by exact QW.qr (qw_move rfl)) ?_
        refine rg_q (.inl rfl) rfl rfl (by exact QW.qr (qw_move rfl)) ?_
        refine rg_q (.inl rfl) rfl rfl (by exact QW.qr (qw_indexAddr rfl rfl (by omega) (by omega))) ?_
        refine rg_q (.inl rfl) rfl rfl (by exact QW.qr (qw_fieldAddr rfl)) ?_
        refine rg_q (.inl rfl) rfl rfl (by exact QW.qr (qw_indexAddr_arr rfl rfl (by omega) (by omega))) ?_
        refine rg_q (.inl rfl) rfl rfl (by exact qr_load1' rfl (List.mem_append_right _ (List.mem_cons_of_mem _ hm0)) hga) ?_
        refine rg_q (.inl rfl) rfl rfl (by exact QW.qr (qw_move rfl)) ?_
        refine rg_split (.inl rfl) rfl rfl (by exact qc_eql rfl rfl) ?_ ?_
        · intro heq
          refine rg_nil ?_
          refine qg_then ?_
          refine cg_true rfl ?_
          refine cg_draw follows (.op 0 false (.op 1 false (.op 2 false (.op 3 false (.op 4 false (.op 5 false (.op 6 false (.op 7 false (.op 8 false (.op 9 false (.op 10 false (.op 11 false (.op 12 false (.op 13 false (.op 14 false (.op 15 false (.op 16 false (.op 17 false (.op 18 false (.op 19 false (.op 20 false (.op 21 false (.op 22 false (.op 23 false (.op 24 false (.op 25 false (.op 26 false (.op 27 false (.op 28 true (.op 29 true (.op 30 false .done))))))))))))))))))))))))))))))) _ (by kernel_rfl) (SubP.of (List.sublist_append_right _ _)) ?_
          refine dg_w rfl rfl (.inl rfl) rfl rfl (by exact qw_move rfl) ?_
          refine dg_w rfl rfl (.inl rfl) rfl rfl (by exact qw_move rfl) ?_
          refine dg_w rfl rfl (.inl rfl) rfl rfl (by exact qw_fieldAddr rfl) ?_
          refine dg_r rfl rfl rfl (.inl rfl) rfl rfl (by exact qr_load1 rfl (by repeat (first | exact List.Mem.head _ | apply List.Mem.tail | apply List.mem_append_right | assumption)) rfl) ?_
          refine dg_w rfl rfl (.inl rfl) rfl rfl (by exact qw_move rfl) ?_
          refine dg_w rfl rfl (.inl rfl) rfl rfl (by exact qw_move rfl) ?_
          refine dg_w rfl rfl (.inl rfl) rfl rfl (by exact qw_sub_in rfl rfl (by unfold inK; omega)) ?_
          refine dg_w rfl rfl (.inl rfl) rfl rfl (by exact qw_indexAddr rfl rfl (by omega) (by omega)) ?_
          refine dg_w rfl rfl (.inl rfl) rfl rfl (by exact qw_fieldAddr rfl) ?_
          refine dg_w rfl rfl (.inl rfl) rfl rfl (by exact qw_indexAddr_arr rfl rfl (by omega) (by omega)) ?_
          refine dg_r rfl rfl rfl (.inl rfl) rfl rfl (by exact qr_load1' rfl (List.mem_cons_of_mem _ hm0) hgb) ?_
          refine dg_w rfl rfl (.inl rfl) rfl rfl (by exact qw_fieldAddr rfl) ?_
          refine dg_r rfl rfl rfl (.inl rfl) rfl rfl (by exact qr_load1 rfl (by repeat (first | exact List.Mem.head _ | apply List.Mem.tail | apply List.mem_append_right | assumption)) rfl) ?_
          refine dg_w rfl rfl (.inl rfl) rfl rfl (by exact qw_move rfl) ?_
          refine dg_w rfl rfl (.inl rfl) rfl rfl (by exact qw_move rfl) ?_
          refine dg_w rfl rfl (.inl rfl) rfl rfl (by exact qw_indexAddr rfl rfl (by omega) (by omega)) ?_
          refine dg_w rfl rfl (.inl rfl) rfl rfl (by exact qw_fieldAddr rfl) ?_
          refine dg_w rfl rfl (.inl rfl) rfl rfl (by exact qw_indexAddr_arr rfl rfl (by omega) (by omega)) ?_
          refine dg_r rfl rfl rfl (.inl rfl) rfl rfl (by exact qr_load1' rfl (List.mem_cons_of_mem _ hm0) hgc) ?_
          refine dg_w rfl rfl (.inl rfl) rfl rfl (by exact qw_fieldAddr rfl) ?_
          refine dg_r rfl rfl rfl (.inl rfl) rfl rfl (by exact qr_load1 rfl (by repeat (first | exact List.Mem.head _ | apply List.Mem.tail | apply List.mem_append_right | assumption)) rfl) ?_
          refine dg_w rfl rfl (.inl rfl) rfl rfl (by exact qw_move rfl) ?_
          refine dg_w rfl rfl (.inl rfl) rfl rfl (by exact qw_move rfl) ?_
          refine dg_w rfl rfl (.inl rfl) rfl rfl (by exact qw_indexAddr rfl rfl (by omega) (by omega)) ?_
          refine dg_w rfl rfl (.inl rfl) rfl rfl (by exact qw_fieldAddr rfl) ?_
          refine dg_w rfl rfl (.inl rfl) rfl rfl (by exact qw_indexAddr_arr rfl rfl (by omega) (by omega)) ?_
          refine dg_r rfl rfl rfl (.inl rfl) rfl rfl (by exact qr_loadS (vs := [U (feeAt es[k] j).1, U (feeAt es[k] j).2]) rfl (List.mem_cons_of_mem _ hm0) hgd rfl) ?_
          refine dg_w rfl rfl (.inl rfl) rfl rfl (by exact qw_build (.cons rfl (.cons rfl (.cons rfl (.cons rfl (.nil))))) rfl (.cons rfl (by first | exact CellsOf.agg | exact CellsOf.one rfl) (by repeat (first | exact SetSeg.done | apply SetSeg.take | apply SetSeg.skip)) (by rfl) (by rfl) (.cons rfl (by first | exact CellsOf.agg | exact CellsOf.one rfl) (by repeat (first | exact SetSeg.done | apply SetSeg.take | apply SetSeg.skip)) (by rfl) (by rfl) (.cons rfl (by first | exact CellsOf.agg | exact CellsOf.one rfl) (by repeat (first | exact SetSeg.done | apply SetSeg.take | apply SetSeg.skip)) (by rfl) (by rfl) (.cons rfl (by first | exact CellsOf.agg | exact CellsOf.one rfl) (by repeat (first | exact SetSeg.done | apply SetSeg.take | apply SetSeg.skip)) (by rfl) (by rfl) (.nil)))))) ?_
          refine dg_e rfl rfl (.inl rfl) rfl rfl (by exact ev_buildSlice (.cons rfl (.nil)) rfl (by first | exact CellsOf.agg | exact CellsOf.one rfl) (by rfl) (.cons rfl (by first | exact CellsOf.agg | exact CellsOf.one rfl) (by repeat (first | exact SetSeg.done | apply SetSeg.take | apply SetSeg.skip)) (by rfl) (by rfl) (.nil))) ?_
          rintro _ _ ⟨b61, rfl, rfl⟩
          refine ⟨(SubP.of (by repeat (first | exact List.Sublist.refl _ | exact List.nil_sublist _ | exact List.sublist_append_right _ _ | apply List.Sublist.cons_cons | apply List.Sublist.cons))), ?_⟩
          refine dg_e rfl rfl (.inl rfl) rfl rfl (by exact ev_appendL (ys := [(⟨k, endAt es[k] (1 - j), canAt es[k] j, feeAt es[k] j⟩ : Step)]) (T := 91) (T2 := 91) (.cons rfl (.cons rfl .nil)) rfl rfl hown (pull [_] B _) (.row (List.Mem.head _) (SegL.seg (m := 5) (by repeat (first | exact SegL.done | apply SegL.take | apply SegL.skip))).1 rfl) (fun _ => rfl) encS_one (by rw [List.length_append]; simp only [List.length_singleton]; omega) rfl rfl rfl rfl) ?_
          rintro ov' _ ⟨B', hown', rfl⟩
          refine ⟨(SubP.of (List.Sublist.trans (List.Sublist.cons _ (List.Sublist.refl _)) (List.sublist_append_right _ _))), ?_⟩
          refine dg_w rfl rfl (.inl rfl) rfl rfl (by exact qw_assign rfl) ?_
          refine dg_nil ?_
          refine qg_block ?_
          refine qg_then ?_
          refine cg_region ?_
          refine rg_q (.inl rfl) rfl rfl (by exact QW.qr (qw_move rfl)) ?_
          refine rg_q (.inl rfl) rfl rfl (by exact QW.qr (qw_add_in rfl rfl (by unfold inK; omega))) ?_
          refine rg_q (.inl rfl) rfl rfl (by exact QW.qr (qw_assign rfl)) ?_
          refine rg_nil ?_
          first
            | exact qg_round_sub _ _ _ ⟨j + 1, _, B', by omega, by rw [sidePart, if_pos heq, ← List.append_assoc]; exact hown', rfl, rfl, rfl⟩ (by repeat (first | exact Sub.nil | refine Sub.cons rfl ?_ | refine Sub.cons (congrArg (fun z => some (Value.int IntKind.i64 z)) (by omega)) ?_)) (List.Sublist.append_left (List.sublist_append_right [_] _) _) (by omega)
            | exact qg_round _ _ _ ⟨j + 1, _, B, by omega, by rw [sidePart, if_neg heq, List.append_nil]; exact hown, rfl, rfl, rfl⟩ (by repeat (first | exact Sub.nil | refine Sub.cons rfl ?_ | refine Sub.cons (congrArg (fun z => some (Value.int IntKind.i64 z)) (by omega)) ?_)) (List.Perm.refl _) (by omega)
        · intro heq
          refine rg_nil ?_
          refine qg_then ?_
          refine cg_false rfl ?_
          refine cg_skip ?_
          refine qg_block ?_
          refine qg_then ?_
          refine cg_region ?_
          refine rg_q (.inl rfl) rfl rfl (by exact QW.qr (qw_move rfl)) ?_
          refine rg_q (.inl rfl) rfl rfl (by exact QW.qr (qw_add_in rfl rfl (by unfold inK; omega))) ?_
          refine rg_q (.inl rfl) rfl rfl (by exact QW.qr (qw_assign rfl)) ?_
          refine rg_nil ?_
          first
            | exact qg_round_sub _ _ _ ⟨j + 1, _, B', by omega, by rw [sidePart, if_pos heq, ← List.append_assoc]; exact hown', rfl, rfl, rfl⟩ (by repeat (first | exact Sub.nil | refine Sub.cons rfl ?_ | refine Sub.cons (congrArg (fun z => some (Value.int IntKind.i64 z)) (by omega)) ?_)) (List.Sublist.append_left (List.sublist_append_right [_] _) _) (by omega)
            | exact qg_round _ _ _ ⟨j + 1, _, B, by omega, by rw [sidePart, if_neg heq, List.append_nil]; exact hown, rfl, rfl, rfl⟩ (by repeat (first | exact Sub.nil | refine Sub.cons rfl ?_ | refine Sub.cons (congrArg (fun z => some (Value.int IntKind.i64 z)) (by omega)) ?_)) (List.Perm.refl _) (by omega)
      · intro hj2
        obtain rfl : j = 2 := by omega
        refine rg_nil ?_
        refine qg_then ?_
        refine cg_false rfl ?_
        refine cg_exit ?_
        refine qg_then_exit ?_
        refine qg_then_exit ?_
        refine qg_block_here ?_
        refine qg_block ?_
        refine qg_then ?_
        refine cg_region ?_
        refine rg_q (.inl rfl) rfl rfl (by exact QW.qr (qw_move rfl)) ?_
        refine rg_q (.inl rfl) rfl rfl (by exact QW.qr (qw_add_in rfl rfl (by unfold inK; omega))) ?_
        refine rg_q (.inl rfl) rfl rfl (by exact QW.qr (qw_assign rfl)) ?_
        refine rg_nil ?_
        exact qg_round _ _ _ ⟨k + 1, _, B, by omega, by rw [stepsFrom_take1 x es 0 k hklt, Nat.zero_add, ← sidePart_all (hok _ (List.getElem_mem hklt)).2.2]; exact hown, rfl, rfl, rfl⟩ (by repeat (first | exact Sub.nil | refine Sub.cons rfl ?_ | refine Sub.cons (congrArg (fun z => some (Value.int IntKind.i64 z)) (by omega)) ?_)) (List.Perm.refl _) (by omega)
    · intro hlt
      obtain rfl : k = es.length := by omega
      rw [List.take_length] at hown
      refine rg_nil ?_
      refine qg_then ?_
      refine cg_false rfl ?_
      refine cg_exit ?_
      refine qg_then_exit ?_
      refine qg_then_exit ?_
      refine qg_block_here ?_
      refine qg_then ?_
      refine cg_seq ?_
      refine cg_region ?_
      refine rg_q (.inl rfl) rfl rfl (by exact QW.qr (qw_move rfl)) ?_
      refine rg_q (.inl rfl) rfl rfl (by exact QW.qr (qw_assign rfl)) ?_
      refine rg_nil ?_
      refine qg_then ?_
      refine cg_ret ?_
      exact qg_end (.inl rfl) _ (.cons (.tmp rfl) (.nil)) (B ++ L) (List.Sublist.append_left (List.sublist_cons_self _ _) _) ⟨B, rfl, by rw [hfin]; exact hown.rd (fun _ => rfl) (by decide)⟩

end Go.Proofs.Ytjimpciiaceleaa