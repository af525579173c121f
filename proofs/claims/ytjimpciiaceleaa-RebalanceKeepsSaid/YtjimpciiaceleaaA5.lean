/-
  THE WALKS of web's small functions: Side, Check, Steps; of slices.Contains and slices.Clone. Conditions: sizes.
-/
import Derived.Test.YtjimpciiaceleaaA4
namespace Go.Proofs.Ytjimpciiaceleaa
open Fw
set_option linter.unusedVariables false
set_option maxRecDepth 100000

def sideOf (e : Edge) (x : Int) : Int := idxOf [e.e0, e.e1] x
theorem sideOf_eq (e : Edge) (x : Int) : sideOf e x = if e.e0 = x then 0 else if e.e1 = x then 1 else -1 := by
  unfold sideOf
  by_cases h0 : e.e0 = x
  · simp [idxOf, h0]
  · by_cases h1 : e.e1 = x
    · simp [idxOf, h0, h1]
    · simp [idxOf, h0, h1]
      rfl
def endOk (n : Nat) (x : Int) : Prop := 0 ≤ x ∧ x < n
instance (n : Nat) (x : Int) : Decidable (endOk n x) := inferInstanceAs (Decidable (_ ∧ _))
def edgeOk (n : Nat) (e : Edge) : Prop := endOk n e.e0 ∧ endOk n e.e1 ∧ e.e0 ≠ e.e1
instance (n : Nat) (e : Edge) : Decidable (edgeOk n e) := inferInstanceAs (Decidable (_ ∧ _ ∧ _))
/-- web.Check. -/
def checkF (n : Nat) (es : List Edge) : Int := if n > 8 ∨ es.length > 16 then 8 else if ∀ e ∈ es, edgeOk n e then 0 else 1
theorem checkF_bad {n : Nat} {es : List Edge} (h1 : ¬ (n > 8 ∨ es.length > 16)) {e : Edge} (he : e ∈ es) (hb : ¬ edgeOk n e) : checkF n es = 1 := by
  unfold checkF
  rw [if_neg h1, if_neg (fun h => hb (h e he))]
theorem checkF_ok {n : Nat} {es : List Edge} (h1 : ¬ (n > 8 ∨ es.length > 16)) (h : ∀ e ∈ es, edgeOk n e) : checkF n es = 0 := by
  unfold checkF
  rw [if_neg h1, if_pos h]
structure Step where
  edge : Int
  to : Int
  can : Int
  fee : Int × Int
def encS (s : Step) : List Value := [I s.edge, I s.to, U s.can, U s.fee.1, U s.fee.2]
def endAt (e : Edge) (i : Nat) : Int := if i = 0 then e.e0 else e.e1
def canAt (e : Edge) (i : Nat) : Int := if i = 0 then e.c0 else e.c1
def feeAt (e : Edge) (i : Nat) : Int × Int := if i = 0 then e.f0 else e.f1
def stepOf (i : Nat) (e : Edge) (x : Int) : Option Step :=
  if sideOf e x = 0 then some ⟨i, e.e1, e.c0, e.f0⟩ else if sideOf e x = 1 then some ⟨i, e.e0, e.c1, e.f1⟩ else none
def stepsFrom (x : Int) : Nat → List Edge → List Step
  | _, [] => []
  | i, e :: es => (match stepOf i e x with
    | some s => [s]
    | none => []) ++ stepsFrom x (i + 1) es
def stepsF (n : Nat) (es : List Edge) (x : Int) : List Step := if checkF n es = 0 then stepsFrom x 0 es else []

theorem side_ca (e : Edge) (x : Int) (O : Out) (L : List Blk) :
    CA Try.prog 12 [.agg (encE e).toArray, I x] O L fun v L' => v = I (sideOf e x) ∧ L' = L := by
  refine ca_enter Try.func12 rfl rfl ?_
  rw [Try.ntmps12]
  simp only [envOf]
  refine cg_seq ?_
  refine cg_region ?_
  refine rg_e (.inl rfl) rfl rfl (by exact ev_box rfl (by first | exact CellsOf.agg | exact CellsOf.one rfl)) ?_
  rintro _ _ ⟨b2, rfl, rfl⟩
  refine rg_q (.inl rfl) rfl rfl (by exact QW.qr (qw_assign rfl)) ?_
  refine rg_nil ?_
  refine qg_then ?_
  refine cg_seq ?_
  refine cg_region ?_
  refine rg_q (.inl rfl) rfl rfl (by exact QW.qr (qw_fieldAddr rfl)) ?_
  refine rg_q (.inl rfl) rfl rfl (by exact QW.qr (qw_slice_arr rfl)) ?_
  refine rg_q (.inl rfl) rfl rfl (by exact QW.qr (qw_move rfl)) ?_
  refine rg_e (.inl rfl) rfl rfl (by exact ev_call0 rfl (.cons rfl (.cons rfl (.nil))) (index_ca [e.e0, e.e1] x _ O _ ⟨some ⟨b2, 0 + 0, none⟩, 2, rfl, rfl, Nat.le_refl _, ⟨(fun _ h => by cases h; rfl), fun h => by cases h⟩, fun _ => ⟨b2, 0 + 0, _, _, _, rfl, List.Mem.head _, SegL.seg (l := encE e) (m := 2) (by repeat (first | exact SegL.done | apply SegL.take | apply SegL.skip)) |>.1⟩⟩ (by show 2 < _; decide))) ?_
  rintro _ _ ⟨rfl, rfl⟩
  refine rg_q (.inl rfl) rfl rfl (by exact QW.qr (qw_assign rfl)) ?_
  refine rg_nil ?_
  refine qg_then ?_
  refine cg_ret ?_
  exact qg_end (.inl rfl) _ (.cons (.tmp rfl) (.nil)) _ (by repeat (first | exact List.Sublist.refl _ | exact List.nil_sublist _ | exact List.sublist_append_right _ _ | apply List.Sublist.cons_cons | apply List.Sublist.cons)) ⟨rfl, rfl⟩

theorem contains_ca (xs : List Int) (x : Int) (s : Value) (O : Out) (L : List Blk) (hs : RdL L encI 1 s xs) (hsz : xs.length < 4611686018427387904) :
    CA Try.prog 37 [s, I x] O L fun v L' => v = .bool (decide (0 ≤ idxOf xs x)) ∧ L' = L := by
  refine ca_enter Try.func37 rfl rfl ?_
  rw [Try.ntmps37]
  simp only [envOf]
  refine cg_seq ?_
  refine cg_region ?_
  refine rg_q (.inl rfl) rfl rfl (by exact QW.qr (qw_assign rfl)) ?_
  refine rg_nil ?_
  refine qg_then ?_
  refine cg_seq ?_
  refine cg_region ?_
  refine rg_q (.inl rfl) rfl rfl (by exact QW.qr (qw_move rfl)) ?_
  refine rg_q (.inl rfl) rfl rfl (by exact QW.qr (qw_move rfl)) ?_
  refine rg_e (.inl rfl) rfl rfl (by exact ev_call0 rfl (.cons rfl (.cons rfl (.nil))) (index_ca xs x s O _ hs hsz)) ?_
  rintro _ _ ⟨rfl, rfl⟩
  refine rg_q (.inl rfl) rfl rfl (by exact QW.qr (qw_geq rfl rfl)) ?_
  refine rg_q (.inl rfl) rfl rfl (by exact QW.qr (qw_assign rfl)) ?_
  refine rg_nil ?_
  refine qg_then ?_
  refine cg_ret ?_
  exact qg_end (.inl rfl) _ (.cons (.tmp rfl) (.nil)) _ (by repeat (first | exact List.Sublist.refl _ | exact List.nil_sublist _ | exact List.sublist_append_right _ _ | apply List.Sublist.cons_cons | apply List.Sublist.cons)) ⟨rfl, rfl⟩

theorem checkF_big {n : Nat} {es : List Edge} (h : n > 8 ∨ es.length > 16) : checkF n es = 8 := by
  unfold checkF
  rw [if_pos h]

theorem check_ca (n : Nat) (es : List Edge) (p : Option Addr) (cap : Nat) (ev : Value) (O : Out) (L : List Blk) (he : RdL L encE 8 ev es) (hn : n < 4611686018427387904) (hes : es.length < 4611686018427387904) :
    CA Try.prog 27 [.agg #[.slice p n cap, ev]] O L fun v L' => v = I (checkF n es) ∧ L' = L := by
  obtain ⟨p2, cap2, rfl, hl2, hcap2, hsp2, hR2⟩ := he
  refine ca_enter Try.func27 rfl rfl ?_
  rw [Try.ntmps27]
  simp only [envOf]
  refine cg_seq ?_
  refine cg_region ?_
  refine rg_e (.inl rfl) rfl rfl (by exact ev_box rfl (by first | exact CellsOf.agg | exact CellsOf.one rfl)) ?_
  rintro _ _ ⟨b1, rfl, rfl⟩
  refine rg_q (.inl rfl) rfl rfl (by exact QW.qr (qw_assign rfl)) ?_
  refine rg_nil ?_
  refine qg_then ?_
  refine cg_seq ?_
  refine cg_seq ?_
  refine cg_region ?_
  refine rg_q (.inl rfl) rfl rfl (by exact QW.qr (qw_fieldAddr rfl)) ?_
  refine rg_q (.inl rfl) rfl rfl (by exact qr_load1 rfl (by repeat (first | exact List.Mem.head _ | apply List.Mem.tail | apply List.mem_append_right | assumption)) rfl) ?_
  refine rg_q (.inl rfl) rfl rfl (by exact QW.qr (qw_len_slice (t := 29) (.cons rfl (.nil)) rfl)) ?_
  refine rg_split (.inl rfl) rfl rfl (by exact qc_gtr rfl rfl) ?_ ?_
  · intro h8
    have hfin := checkF_big (n := n) (es := es) (.inl (by omega))
    refine rg_q (.inl rfl) rfl rfl (by exact QW.qr (qw_move rfl)) ?_
    refine rg_s (guard_mk rfl rfl rfl rfl) rfl rfl ?_
    refine rg_s (guard_mk rfl rfl rfl rfl) rfl rfl ?_
    refine rg_s (guard_mk rfl rfl rfl rfl) rfl rfl ?_
    refine rg_s (guard_mk rfl rfl rfl rfl) rfl rfl ?_
    refine rg_q (.inl rfl) rfl rfl (by exact QW.qr (qw_pick_t rfl rfl)) ?_
    refine rg_nil ?_
    refine qg_then ?_
    refine cg_true rfl ?_
    refine cg_seq ?_
    refine cg_region ?_
    refine rg_q (.inl rfl) rfl rfl (by exact QW.qr (qw_assign rfl)) ?_
    refine rg_nil ?_
    refine qg_then ?_
    refine cg_ret ?_
    refine qg_then_ret ?_
    exact qg_end (.inl rfl) _ (.cons (.tmp rfl) (.nil)) _ (by repeat (first | exact List.Sublist.refl _ | exact List.nil_sublist _ | exact List.sublist_append_right _ _ | apply List.Sublist.cons_cons | apply List.Sublist.cons)) ⟨by rw [hfin]; rfl, rfl⟩
  · intro h8
    refine rg_q (.inl rfl) rfl rfl (by exact QW.qr (qw_move rfl)) ?_
    refine rg_q (.inr (guard_mk rfl rfl rfl rfl)) rfl rfl (by exact QW.qr (qw_fieldAddr rfl)) ?_
    refine rg_q (.inr (guard_mk rfl rfl rfl rfl)) rfl rfl (by exact qr_load1 rfl (by repeat (first | exact List.Mem.head _ | apply List.Mem.tail | apply List.mem_append_right | assumption)) rfl) ?_
    refine rg_q (.inr (guard_mk rfl rfl rfl rfl)) rfl rfl (by exact QW.qr (qw_len_slice (t := 30) (.cons rfl (.nil)) rfl)) ?_
    refine rg_split (.inr (guard_mk rfl rfl rfl rfl)) rfl rfl (by exact qc_gtr rfl rfl) ?_ ?_
    · intro h16
      have hfin := checkF_big (n := n) (es := es) (.inr (by omega))
      refine rg_q (.inl rfl) rfl rfl (by exact QW.qr (qw_pick_f rfl rfl)) ?_
      refine rg_nil ?_
      refine qg_then ?_
      refine cg_true rfl ?_
      refine cg_seq ?_
      refine cg_region ?_
      refine rg_q (.inl rfl) rfl rfl (by exact QW.qr (qw_assign rfl)) ?_
      refine rg_nil ?_
      refine qg_then ?_
      refine cg_ret ?_
      refine qg_then_ret ?_
      exact qg_end (.inl rfl) _ (.cons (.tmp rfl) (.nil)) _ (by repeat (first | exact List.Sublist.refl _ | exact List.nil_sublist _ | exact List.sublist_append_right _ _ | apply List.Sublist.cons_cons | apply List.Sublist.cons)) ⟨by rw [hfin]; rfl, rfl⟩
    · intro h16
      have hsm : ¬ (n > 8 ∨ es.length > 16) := by omega
      refine rg_q (.inl rfl) rfl rfl (by exact QW.qr (qw_pick_f rfl rfl)) ?_
      refine rg_nil ?_
      refine qg_then ?_
      refine cg_false rfl ?_
      refine cg_skip ?_
      refine qg_then ?_
      refine cg_seq ?_
      refine cg_seq ?_
      refine cg_region ?_
      refine rg_q (.inl rfl) rfl rfl (by exact QW.qr (qw_fieldAddr rfl)) ?_
      refine rg_q (.inl rfl) rfl rfl (by exact qr_load1 rfl (by repeat (first | exact List.Mem.head _ | apply List.Mem.tail | apply List.mem_append_right | assumption)) rfl) ?_
      refine rg_q (.inl rfl) rfl rfl (by exact QW.qr (qw_len_slice (t := 30) (.cons rfl (.nil)) rfl)) ?_
      refine rg_q (.inl rfl) rfl rfl (by exact QW.qr (qw_move rfl)) ?_
      refine rg_nil ?_
      refine qg_then ?_
      refine cg_block ?_
      refine cg_loop (fun E' L' m => ∃ k : Nat, k ≤ es.length ∧ (∀ j, j < k → ∀ h : j < es.length, edgeOk n es[j]) ∧ E' = [(1, .pointer (some ⟨b1, 0, none⟩)), (18, .slice p2 es.length cap2), (19, .int .i64 es.length), (20, .int .i64 k)] ∧ L' = (b1, .cells [Value.slice p n cap, Value.slice p2 es.length cap2].toArray 32 (0, 0)) :: L ∧ m = es.length - k) _ _ _ ⟨0, by omega, fun j h => by omega, rfl, rfl, rfl⟩ (by repeat (first | exact Sub.nil | refine Sub.cons rfl ?_ | refine Sub.cons (congrArg (fun z => some (Value.int IntKind.i64 z)) (by omega)) ?_)) (List.Perm.refl _) ?_
      rintro _ _ _ ⟨k, hk, hall, rfl, rfl, rfl⟩
      refine cg_seq ?_
      refine cg_region ?_
      refine rg_split (.inl rfl) rfl rfl (by exact qc_lss rfl rfl) ?_ ?_
      · intro hlt
        have hklt : k < es.length := by omega
        obtain ⟨b0, o0, A0, t0, fz0, rfl, hm0, hseg⟩ := hR2 (by omega)
        have hfe := hseg.elem (enc := encE) (k := 8) (fun _ => rfl) hklt
        refine rg_nil ?_
        refine qg_then ?_
        refine cg_seq ?_
        refine cg_true rfl ?_
        refine cg_skip ?_
        refine qg_then ?_
        refine cg_seq ?_
        refine cg_block ?_
        refine cg_seq ?_
        refine cg_region ?_
        refine rg_q (.inl rfl) rfl rfl (by exact QW.qr (qw_indexAddr rfl rfl (by omega) (by omega))) ?_
        refine rg_q (.inl rfl) rfl rfl (by exact qr_loadS rfl (List.mem_cons_of_mem _ hm0) hfe rfl) ?_
        refine rg_e (.inl rfl) rfl rfl (by exact ev_alloc (by first | exact CellsOf.agg | exact CellsOf.one rfl)) ?_
        rintro _ _ ⟨b4, rfl, rfl⟩
        refine rg_e0 (.inl rfl) rfl (by exact ev_store rfl rfl (by first | exact CellsOf.agg | exact CellsOf.one rfl) (by repeat (first | exact List.Mem.head _ | apply List.Mem.tail | apply List.mem_append_right | assumption)) (by repeat (first | exact SetSeg.done | apply SetSeg.take | apply SetSeg.skip)) rfl rfl (by repeat (first | exact Upd.here | apply Upd.there | apply Upd.app)) (by first | exact Or.inl ⟨inferInstance, rfl⟩ | exact Or.inr inferInstance)) ?_
        rintro _ _ ⟨rfl, rfl⟩
        refine rg_nil ?_
        refine qg_then ?_
        refine cg_seq ?_
        refine cg_seq ?_
        refine cg_region ?_
        refine rg_q (.inl rfl) rfl rfl (by exact QW.qr (qw_fieldAddr rfl)) ?_
        refine rg_q (.inl rfl) rfl rfl (by exact qr_loadN rfl (by repeat (first | exact List.Mem.head _ | apply List.Mem.tail | apply List.mem_append_right | assumption)) (by repeat (first | exact SegL.done | apply SegL.take | apply SegL.skip))) ?_
        refine rg_q (.inl rfl) rfl rfl (by exact QW.qr (qw_move rfl)) ?_
        refine rg_nil ?_
        refine qg_then ?_
        refine cg_block ?_
        refine cg_loop (fun E' L' m => ∃ j : Nat, j ≤ 2 ∧ (∀ i, i < j → endOk n (endAt es[k] i)) ∧ E' = [(1, .pointer (some ⟨b1, 0, none⟩)), (4, .pointer (some ⟨b4, 0, none⟩)), (18, .slice (some ⟨b0, o0, none⟩) es.length cap2), (19, .int .i64 es.length), (20, .int .i64 k), (25, .agg [I es[k].e0, I es[k].e1].toArray), (26, .int .i64 j)] ∧
          L' = (b4, .cells (encE es[k]).toArray 53 (0, 0)) :: (b1, .cells [Value.slice p n cap, Value.slice (some ⟨b0, o0, none⟩) es.length cap2].toArray 32 (0, 0)) :: L ∧ m = 2 - j) _ _ _ ⟨0, by omega, fun j h => by omega, rfl, rfl, rfl⟩ (by repeat (first | exact Sub.nil | refine Sub.cons rfl ?_ | refine Sub.cons (congrArg (fun z => some (Value.int IntKind.i64 z)) (by omega)) ?_)) (List.Perm.refl _) ?_
        rintro _ _ _ ⟨j, hj, hends, rfl, rfl, rfl⟩
        refine cg_seq ?_
        refine cg_region ?_
        refine rg_split (.inl rfl) rfl rfl (by exact qc_lss rfl rfl) ?_ ?_
        · intro hj2
          have hix : [I es[k].e0, I es[k].e1][(j : Int).toNat]? = some (I (endAt es[k] j)) := by
            have : j = 0 ∨ j = 1 := by omega
            rcases this with rfl | rfl <;> rfl
          have hjlt : j < 2 := by omega
          refine rg_nil ?_
          refine qg_then ?_
          refine cg_seq ?_
          refine cg_true rfl ?_
          refine cg_skip ?_
          refine qg_then ?_
          refine cg_seq ?_
          refine cg_block ?_
          refine cg_seq ?_
          refine cg_region ?_
          refine rg_q (.inl rfl) rfl rfl (by exact QW.qr (qw_index_arr rfl rfl (by omega) (by omega) hix)) ?_
          refine rg_q (.inl rfl) rfl rfl (by exact QW.qr (qw_assign rfl)) ?_
          refine rg_nil ?_
          refine qg_then ?_
          refine cg_seq ?_
          refine cg_region ?_
          refine rg_q (.inl rfl) rfl rfl (by exact QW.qr (qw_move rfl)) ?_
          refine rg_split (.inl rfl) rfl rfl (by exact qc_lss rfl rfl) ?_ ?_
          · intro hneg
            refine rg_q (.inl rfl) rfl rfl (by exact QW.qr (qw_move rfl)) ?_
            refine rg_s (guard_mk rfl rfl rfl rfl) rfl rfl ?_
            refine rg_s (guard_mk rfl rfl rfl rfl) rfl rfl ?_
            refine rg_s (guard_mk rfl rfl rfl rfl) rfl rfl ?_
            refine rg_s (guard_mk rfl rfl rfl rfl) rfl rfl ?_
            refine rg_s (guard_mk rfl rfl rfl rfl) rfl rfl ?_
            refine rg_q (.inl rfl) rfl rfl (by exact QW.qr (qw_pick_t rfl rfl)) ?_
            refine rg_nil ?_
            refine qg_then ?_
            refine cg_true rfl ?_
            refine cg_seq ?_
            refine cg_region ?_
            refine rg_q (.inl rfl) rfl rfl (by exact QW.qr (qw_assign rfl)) ?_
            refine rg_nil ?_
            refine qg_then ?_
            refine cg_ret ?_
            refine qg_block_ret ?_
            refine qg_then_ret ?_
            refine qg_then_ret ?_
            refine qg_block_ret ?_
            refine qg_then_ret ?_
            refine qg_block_ret ?_
            refine qg_then_ret ?_
            refine qg_then_ret ?_
            refine qg_block_ret ?_
            refine qg_then_ret ?_
            refine qg_end (.inl rfl) _ (.cons (.tmp rfl) (.nil)) _ (by repeat (first | exact List.Sublist.refl _ | exact List.nil_sublist _ | exact List.sublist_append_right _ _ | apply List.Sublist.cons_cons | apply List.Sublist.cons)) ⟨?_, rfl⟩
            rw [checkF_bad hsm (List.getElem_mem hklt) (fun h => ?_)]
            · rfl
            · have hj01 : j = 0 ∨ j = 1 := by omega
              rcases hj01 with rfl | rfl
              · have h4 := h.1; have h5 : endAt es[k] 0 = es[k].e0 := rfl; unfold endOk at h4; omega
              · have h4 := h.2.1; have h5 : endAt es[k] 1 = es[k].e1 := rfl; unfold endOk at h4; omega
          · intro hneg
            refine rg_q (.inl rfl) rfl rfl (by exact QW.qr (qw_move rfl)) ?_
            refine rg_q (.inr (guard_mk rfl rfl rfl rfl)) rfl rfl (by exact QW.qr (qw_move rfl)) ?_
            refine rg_q (.inr (guard_mk rfl rfl rfl rfl)) rfl rfl (by exact QW.qr (qw_fieldAddr rfl)) ?_
            refine rg_q (.inr (guard_mk rfl rfl rfl rfl)) rfl rfl (by exact qr_load1 rfl (by repeat (first | exact List.Mem.head _ | apply List.Mem.tail | apply List.mem_append_right | assumption)) rfl) ?_
            refine rg_q (.inr (guard_mk rfl rfl rfl rfl)) rfl rfl (by exact QW.qr (qw_len_slice (t := 29) (.cons rfl (.nil)) rfl)) ?_
            refine rg_split (.inr (guard_mk rfl rfl rfl rfl)) rfl rfl (by exact qc_geq rfl rfl) ?_ ?_
            · intro hbig
              refine rg_q (.inl rfl) rfl rfl (by exact QW.qr (qw_pick_f rfl rfl)) ?_
              refine rg_nil ?_
              refine qg_then ?_
              refine cg_true rfl ?_
              refine cg_seq ?_
              refine cg_region ?_
              refine rg_q (.inl rfl) rfl rfl (by exact QW.qr (qw_assign rfl)) ?_
              refine rg_nil ?_
              refine qg_then ?_
              refine cg_ret ?_
              refine qg_block_ret ?_
              refine qg_then_ret ?_
              refine qg_then_ret ?_
              refine qg_block_ret ?_
              refine qg_then_ret ?_
              refine qg_block_ret ?_
              refine qg_then_ret ?_
              refine qg_then_ret ?_
              refine qg_block_ret ?_
              refine qg_then_ret ?_
              refine qg_end (.inl rfl) _ (.cons (.tmp rfl) (.nil)) _ (by repeat (first | exact List.Sublist.refl _ | exact List.nil_sublist _ | exact List.sublist_append_right _ _ | apply List.Sublist.cons_cons | apply List.Sublist.cons)) ⟨?_, rfl⟩
              rw [checkF_bad hsm (List.getElem_mem hklt) (fun h => ?_)]
              · rfl
              · have hj01 : j = 0 ∨ j = 1 := by omega
                rcases hj01 with rfl | rfl
                · have h4 := h.1; have h5 : endAt es[k] 0 = es[k].e0 := rfl; unfold endOk at h4; omega
                · have h4 := h.2.1; have h5 : endAt es[k] 1 = es[k].e1 := rfl; unfold endOk at h4; omega
            · intro hbig
              refine rg_q (.inl rfl) rfl rfl (by exact QW.qr (qw_pick_f rfl rfl)) ?_
              refine rg_nil ?_
              refine qg_then ?_
              refine cg_false rfl ?_
              refine cg_skip ?_
              refine qg_block ?_
              refine qg_then ?_
              refine cg_region ?_
              refine rg_q (.inl rfl) rfl rfl (by exact QW.qr (qw_add_in rfl rfl (by unfold inK; omega))) ?_
              refine rg_q (.inl rfl) rfl rfl (by exact QW.qr (qw_move rfl)) ?_
              refine rg_nil ?_
              exact qg_round _ _ _ ⟨j + 1, by omega, fun i h => by (rcases Nat.lt_succ_iff_lt_or_eq.1 h with h3 | h3; exact hends i h3; subst h3; exact ⟨by omega, by omega⟩), rfl, rfl, rfl⟩ (by repeat (first | exact Sub.nil | refine Sub.cons rfl ?_ | refine Sub.cons (congrArg (fun z => some (Value.int IntKind.i64 z)) (by omega)) ?_)) (List.Perm.refl _) (by omega)
        · intro hj2
          obtain rfl : j = 2 := by omega
          refine rg_nil ?_
          refine qg_then ?_
          refine cg_seq ?_
          refine cg_false rfl ?_
          refine cg_exit ?_
          refine qg_then_exit ?_
          refine qg_then_exit ?_
          refine qg_block_here ?_
          refine qg_then ?_
          refine cg_seq ?_
          refine cg_region ?_
          refine rg_q (.inl rfl) rfl rfl (by exact QW.qr (qw_fieldAddr rfl)) ?_
          refine rg_q (.inl rfl) rfl rfl (by exact QW.qr (qw_indexAddr_arr rfl rfl (by omega) (by omega))) ?_
          refine rg_q (.inl rfl) rfl rfl (by exact qr_load1 rfl (by repeat (first | exact List.Mem.head _ | apply List.Mem.tail | apply List.mem_append_right | assumption)) rfl) ?_
          refine rg_q (.inl rfl) rfl rfl (by exact QW.qr (qw_fieldAddr rfl)) ?_
          refine rg_q (.inl rfl) rfl rfl (by exact QW.qr (qw_indexAddr_arr rfl rfl (by omega) (by omega))) ?_
          refine rg_q (.inl rfl) rfl rfl (by exact qr_load1 rfl (by repeat (first | exact List.Mem.head _ | apply List.Mem.tail | apply List.mem_append_right | assumption)) rfl) ?_
          refine rg_split (.inl rfl) rfl rfl (by exact qc_eql rfl rfl) ?_ ?_
          · intro heq
            refine rg_nil ?_
            refine qg_then ?_
            refine cg_true rfl ?_
            refine cg_seq ?_
            refine cg_region ?_
            refine rg_q (.inl rfl) rfl rfl (by exact QW.qr (qw_assign rfl)) ?_
            refine rg_nil ?_
            refine qg_then ?_
            refine cg_ret ?_
            refine qg_block_ret ?_
            refine qg_then_ret ?_
            refine qg_then_ret ?_
            refine qg_block_ret ?_
            refine qg_then_ret ?_
            refine qg_end (.inl rfl) _ (.cons (.tmp rfl) (.nil)) _ (by repeat (first | exact List.Sublist.refl _ | exact List.nil_sublist _ | exact List.sublist_append_right _ _ | apply List.Sublist.cons_cons | apply List.Sublist.cons)) ⟨?_, rfl⟩
            rw [checkF_bad hsm (List.getElem_mem hklt) (fun h => h.2.2 heq)]
            rfl
          · intro heq
            refine rg_nil ?_
            refine qg_then ?_
            refine cg_false rfl ?_
            refine cg_skip ?_
            refine qg_block ?_
            refine qg_then ?_
            refine cg_region ?_
            refine rg_q (.inl rfl) rfl rfl (by exact QW.qr (qw_add_in rfl rfl (by unfold inK; omega))) ?_
            refine rg_q (.inl rfl) rfl rfl (by exact QW.qr (qw_move rfl)) ?_
            refine rg_nil ?_
            exact qg_round_sub _ _ _ ⟨k + 1, by omega, fun j h h2 => by (rcases Nat.lt_succ_iff_lt_or_eq.1 h with h3 | h3; exact hall j h3 h2; subst h3; exact ⟨hends 0 (by omega), hends 1 (by omega), heq⟩), rfl, rfl, rfl⟩ (by repeat (first | exact Sub.nil | refine Sub.cons rfl ?_ | refine Sub.cons (congrArg (fun z => some (Value.int IntKind.i64 z)) (by omega)) ?_)) (by repeat (first | exact List.Sublist.refl _ | exact List.nil_sublist _ | exact List.sublist_append_right _ _ | apply List.Sublist.cons_cons | apply List.Sublist.cons)) (by omega)
      · intro hlt
        refine rg_nil ?_
        refine qg_then ?_
        refine cg_seq ?_
        refine cg_false rfl ?_
        refine cg_exit ?_
        refine qg_then_exit ?_
        refine qg_then_exit ?_
        refine qg_block_here ?_
        refine qg_then ?_
        refine cg_seq ?_
        refine cg_region ?_
        refine rg_q (.inl rfl) rfl rfl (by exact QW.qr (qw_assign rfl)) ?_
        refine rg_nil ?_
        refine qg_then ?_
        refine cg_ret ?_
        refine qg_end (.inl rfl) _ (.cons (.tmp rfl) (.nil)) _ (by repeat (first | exact List.Sublist.refl _ | exact List.nil_sublist _ | exact List.sublist_append_right _ _ | apply List.Sublist.cons_cons | apply List.Sublist.cons)) ⟨?_, rfl⟩
        rw [checkF_ok hsm (fun e he => ?_)]
        · rfl
        · obtain ⟨i, hi, rfl⟩ := List.mem_iff_getElem.1 he
          exact hall i (by omega) hi

end Go.Proofs.Ytjimpciiaceleaa