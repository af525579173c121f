/-
  THE WALKS of path's right and All: they answer what the search as lists answers. Conditions: sizes; the web's numbers are of their kinds.
-/
import Derived.Test.YtjimpciiaceleaaA11
namespace Go.Proofs.Ytjimpciiaceleaa
open Fw
set_option linter.unusedVariables false
set_option maxRecDepth 100000

theorem own_one (b e : Nat) (x : Int) : OwnL e encI 1 (.slice (some ⟨b, 0, none⟩) 1 1) [x] [(b, Obj.cells [I x].toArray e (0, 0))] := OwnS.blk (cs := [I x]) (rest := []) rfl rfl (by decide)
theorem seek_ca (es : List Edge) (n : Nat) (to a : Int) (ps : Option Addr) (caps : Nat) (ev : Value) (bs bw ba bo : Nat) (O : Out)
    (hg : ∀ e ∈ es, goodEdge e) (ha : isU64 a) (hn : n ≤ 1000) (hes : es.length ≤ 1000) : ∀ d, SeekSpec es n to a (.slice ps n caps) ev bs bw ba bo O d
  | 0 => seek_step es n to a ps caps ev bs bw ba bo O 0 hg ha hn hes (fun d' h => by omega)
  | d + 1 => seek_step es n to a ps caps ev bs bw ba bo O (d + 1) hg ha hn hes (fun d' h => by cases h; exact seek_ca es n to a ps caps ev bs bw ba bo O hg ha hn hes d)
/-- path.All. -/
noncomputable def allF (n : Nat) (es : List Edge) (from_ to a : Int) : List RouteP × Int := if rightF n es from_ to a ≠ 0 then ([], rightF n es from_ to a) else ((seekF es n to a 7 [from_] [] []).1, 0)
theorem allF_len (n : Nat) (es : List Edge) (from_ to a : Int) : (allF n es from_ to a).1.length ≤ 32 := by
  unfold allF
  split
  · simp
  · exact (seekF_few es n to a 7 [from_] [] [] (by simp)).1

theorem right_ca (n : Nat) (es : List Edge) (from_ to a : Int) (p : Option Addr) (cap : Nat) (ev : Value) (O : Out) (L : List Blk) (he : RdL L encE 8 ev es) (hn : n < 1000000) (hes : es.length < 1000000) :
    CA Try.prog 20 [.agg #[.slice p n cap, ev], I from_, I to, U a] O L fun v L' => v = I (rightF n es from_ to a) ∧ L' = L := by
  obtain ⟨p2, cap2, rfl, hl2, hcap2, hsp2, hR2⟩ := id he
  refine ca_enter Try.func20 rfl rfl ?_
  rw [Try.ntmps20]
  simp only [envOf]
  refine cg_seq ?_
  refine cg_region ?_
  refine rg_e (.inl rfl) rfl rfl (by exact ev_box rfl (by first | exact CellsOf.agg | exact CellsOf.one rfl)) ?_
  rintro _ _ ⟨b4, rfl, rfl⟩
  refine rg_q (.inl rfl) rfl rfl (by exact QW.qr (qw_assign rfl)) ?_
  refine rg_nil ?_
  refine qg_then ?_
  refine cg_seq ?_
  refine cg_seq ?_
  refine cg_region ?_
  refine rg_q (.inl rfl) rfl rfl (by exact qr_loadN rfl (by repeat (first | exact List.Mem.head _ | apply List.Mem.tail | apply List.mem_append_right | assumption)) (by repeat (first | exact SegL.done | apply SegL.take | apply SegL.skip))) ?_
  refine rg_e (.inl rfl) rfl rfl (by exact ev_call0 rfl (.cons rfl (.nil)) (check_ca n es p cap _ O _ (he.mono (fun q hq => List.mem_cons_of_mem _ hq)) (by omega) (by omega))) ?_
  rintro _ _ ⟨rfl, rfl⟩
  refine rg_q (.inl rfl) rfl rfl (by exact QW.qr (qw_assign rfl)) ?_
  refine rg_nil ?_
  refine qg_then ?_
  refine cg_seq ?_
  refine cg_region ?_
  refine rg_q (.inl rfl) rfl rfl (by exact QW.qr (qw_move rfl)) ?_
  refine rg_split (.inl rfl) rfl rfl (by exact qc_neq rfl rfl) ?_ ?_
  · intro hc
    refine rg_nil ?_
    refine qg_then ?_
    refine cg_true rfl ?_
    refine cg_seq ?_
    refine cg_region ?_
    refine rg_q (.inl rfl) rfl rfl (by exact QW.qr (qw_move rfl)) ?_
    refine rg_q (.inl rfl) rfl rfl (by exact QW.qr (qw_assign rfl)) ?_
    refine rg_nil ?_
    refine qg_then ?_
    refine cg_ret ?_
    refine qg_then_ret ?_
    have hfin : rightF n es from_ to a = checkF n es := by rw [rightF, if_pos hc]
    exact qg_end (.inl rfl) _ (.cons (.tmp rfl) (.nil)) L (by repeat (first | exact List.Sublist.refl _ | exact List.nil_sublist _ | exact List.sublist_append_right _ _ | apply List.Sublist.cons_cons | apply List.Sublist.cons)) ⟨by rw [hfin]; rfl, rfl⟩
  · intro hc
    refine rg_nil ?_
    refine qg_then ?_
    refine cg_false rfl ?_
    refine cg_skip ?_
    refine qg_then ?_
    refine cg_seq ?_
    refine cg_region ?_
    refine rg_q (.inl rfl) rfl rfl (by exact QW.qr (qw_fieldAddr rfl)) ?_
    refine rg_q (.inl rfl) rfl rfl (by exact qr_load1 rfl (by repeat (first | exact List.Mem.head _ | apply List.Mem.tail | apply List.mem_append_right | assumption)) rfl) ?_
    refine rg_q (.inl rfl) rfl rfl (by exact QW.qr (qw_len_slice (t := 29) (.cons rfl (.nil)) rfl)) ?_
    refine rg_q (.inl rfl) rfl rfl (by exact QW.qr (qw_assign rfl)) ?_
    refine rg_nil ?_
    refine qg_then ?_
    refine cg_seq ?_
    refine cg_seq ?_
    refine cg_region ?_
    refine rg_q (.inl rfl) rfl rfl (by exact QW.qr (qw_move rfl)) ?_
    refine rg_split (.inl rfl) rfl rfl (by exact qc_lss rfl rfl) ?_ ?_
    · intro hc20
      refine rg_q (.inl rfl) rfl rfl (by exact QW.qr (qw_move rfl)) ?_
      refine rg_s (guard_mk rfl rfl rfl rfl) rfl rfl ?_
      refine rg_s (guard_mk rfl rfl rfl rfl) rfl rfl ?_
      refine rg_s (guard_mk rfl rfl rfl rfl) rfl rfl ?_
      refine rg_q (.inl rfl) rfl rfl (by exact QW.qr (qw_pick_t rfl rfl)) ?_
      refine rg_q (.inl rfl) rfl rfl (by exact QW.qr (qw_move rfl)) ?_
      refine rg_s (guard_mk rfl rfl rfl rfl) rfl rfl ?_
      refine rg_s (guard_mk rfl rfl rfl rfl) rfl rfl ?_
      refine rg_q (.inl rfl) rfl rfl (by exact QW.qr (qw_pick_t rfl rfl)) ?_
      refine rg_q (.inl rfl) rfl rfl (by exact QW.qr (qw_move rfl)) ?_
      refine rg_s (guard_mk rfl rfl rfl rfl) rfl rfl ?_
      refine rg_s (guard_mk rfl rfl rfl rfl) rfl rfl ?_
      refine rg_s (guard_mk rfl rfl rfl rfl) rfl rfl ?_
      refine rg_q (.inl rfl) rfl rfl (by exact QW.qr (qw_pick_t rfl rfl)) ?_
      refine rg_q (.inl rfl) rfl rfl (by exact QW.qr (qw_move rfl)) ?_
      refine rg_s (guard_mk rfl rfl rfl rfl) rfl rfl ?_
      refine rg_s (guard_mk rfl rfl rfl rfl) rfl rfl ?_
      refine rg_s (guard_mk rfl rfl rfl rfl) rfl rfl ?_
      refine rg_q (.inl rfl) rfl rfl (by exact QW.qr (qw_pick_t rfl rfl)) ?_
      refine rg_q (.inl rfl) rfl rfl (by exact QW.qr (qw_move rfl)) ?_
      refine rg_s (guard_mk rfl rfl rfl rfl) rfl rfl ?_
      refine rg_s (guard_mk rfl rfl rfl rfl) rfl rfl ?_
      refine rg_q (.inl rfl) rfl rfl (by exact QW.qr (qw_pick_t rfl rfl)) ?_
      refine rg_nil ?_
      refine qg_then ?_
      refine cg_true rfl ?_
      refine cg_seq ?_
      refine cg_region ?_
      refine rg_q (.inl rfl) rfl rfl (by exact QW.qr (qw_assign rfl)) ?_
      refine rg_nil ?_
      refine qg_then ?_
      refine cg_ret ?_
      refine qg_then_ret ?_
      have hfin : rightF n es from_ to a = 1 := by rw [rightF, if_neg hc, if_pos (by omega)]
      exact qg_end (.inl rfl) _ (.cons (.tmp rfl) (.nil)) L (by repeat (first | exact List.Sublist.refl _ | exact List.nil_sublist _ | exact List.sublist_append_right _ _ | apply List.Sublist.cons_cons | apply List.Sublist.cons)) ⟨by rw [hfin]; rfl, rfl⟩
    · intro hc20
      refine rg_q (.inl rfl) rfl rfl (by exact QW.qr (qw_move rfl)) ?_
      refine rg_q (.inr (guard_mk rfl rfl rfl rfl)) rfl rfl (by exact QW.qr (qw_move rfl)) ?_
      refine rg_q (.inr (guard_mk rfl rfl rfl rfl)) rfl rfl (by exact QW.qr (qw_move rfl)) ?_
      refine rg_split (.inr (guard_mk rfl rfl rfl rfl)) rfl rfl (by exact qc_geq rfl rfl) ?_ ?_
      · intro hc24
        refine rg_q (.inl rfl) rfl rfl (by exact QW.qr (qw_pick_f rfl rfl)) ?_
        refine rg_q (.inl rfl) rfl rfl (by exact QW.qr (qw_move rfl)) ?_
        refine rg_s (guard_mk rfl rfl rfl rfl) rfl rfl ?_
        refine rg_s (guard_mk rfl rfl rfl rfl) rfl rfl ?_
        refine rg_q (.inl rfl) rfl rfl (by exact QW.qr (qw_pick_t rfl rfl)) ?_
        refine rg_q (.inl rfl) rfl rfl (by exact QW.qr (qw_move rfl)) ?_
        refine rg_s (guard_mk rfl rfl rfl rfl) rfl rfl ?_
        refine rg_s (guard_mk rfl rfl rfl rfl) rfl rfl ?_
        refine rg_s (guard_mk rfl rfl rfl rfl) rfl rfl ?_
        refine rg_q (.inl rfl) rfl rfl (by exact QW.qr (qw_pick_t rfl rfl)) ?_
        refine rg_q (.inl rfl) rfl rfl (by exact QW.qr (qw_move rfl)) ?_
        refine rg_s (guard_mk rfl rfl rfl rfl) rfl rfl ?_
        refine rg_s (guard_mk rfl rfl rfl rfl) rfl rfl ?_
        refine rg_s (guard_mk rfl rfl rfl rfl) rfl rfl ?_
        refine rg_q (.inl rfl) rfl rfl (by exact QW.qr (qw_pick_t rfl rfl)) ?_
        refine rg_q (.inl rfl) rfl rfl (by exact QW.qr (qw_move rfl)) ?_
        refine rg_s (guard_mk rfl rfl rfl rfl) rfl rfl ?_
        refine rg_s (guard_mk rfl rfl rfl rfl) rfl rfl ?_
        refine rg_q (.inl rfl) rfl rfl (by exact QW.qr (qw_pick_t rfl rfl)) ?_
        refine rg_nil ?_
        refine qg_then ?_
        refine cg_true rfl ?_
        refine cg_seq ?_
        refine cg_region ?_
        refine rg_q (.inl rfl) rfl rfl (by exact QW.qr (qw_assign rfl)) ?_
        refine rg_nil ?_
        refine qg_then ?_
        refine cg_ret ?_
        refine qg_then_ret ?_
        have hfin : rightF n es from_ to a = 1 := by rw [rightF, if_neg hc, if_pos (by omega)]
        exact qg_end (.inl rfl) _ (.cons (.tmp rfl) (.nil)) L (by repeat (first | exact List.Sublist.refl _ | exact List.nil_sublist _ | exact List.sublist_append_right _ _ | apply List.Sublist.cons_cons | apply List.Sublist.cons)) ⟨by rw [hfin]; rfl, rfl⟩
      · intro hc24
        refine rg_q (.inl rfl) rfl rfl (by exact QW.qr (qw_pick_f rfl rfl)) ?_
        refine rg_q (.inl rfl) rfl rfl (by exact QW.qr (qw_move rfl)) ?_
        refine rg_q (.inr (guard_mk rfl rfl rfl rfl)) rfl rfl (by exact QW.qr (qw_move rfl)) ?_
        refine rg_split (.inr (guard_mk rfl rfl rfl rfl)) rfl rfl (by exact qc_lss rfl rfl) ?_ ?_
        · intro hc28
          refine rg_q (.inl rfl) rfl rfl (by exact QW.qr (qw_pick_f rfl rfl)) ?_
          refine rg_q (.inl rfl) rfl rfl (by exact QW.qr (qw_move rfl)) ?_
          refine rg_s (guard_mk rfl rfl rfl rfl) rfl rfl ?_
          refine rg_s (guard_mk rfl rfl rfl rfl) rfl rfl ?_
          refine rg_s (guard_mk rfl rfl rfl rfl) rfl rfl ?_
          refine rg_q (.inl rfl) rfl rfl (by exact QW.qr (qw_pick_t rfl rfl)) ?_
          refine rg_q (.inl rfl) rfl rfl (by exact QW.qr (qw_move rfl)) ?_
          refine rg_s (guard_mk rfl rfl rfl rfl) rfl rfl ?_
          refine rg_s (guard_mk rfl rfl rfl rfl) rfl rfl ?_
          refine rg_s (guard_mk rfl rfl rfl rfl) rfl rfl ?_
          refine rg_q (.inl rfl) rfl rfl (by exact QW.qr (qw_pick_t rfl rfl)) ?_
          refine rg_q (.inl rfl) rfl rfl (by exact QW.qr (qw_move rfl)) ?_
          refine rg_s (guard_mk rfl rfl rfl rfl) rfl rfl ?_
          refine rg_s (guard_mk rfl rfl rfl rfl) rfl rfl ?_
          refine rg_q (.inl rfl) rfl rfl (by exact QW.qr (qw_pick_t rfl rfl)) ?_
          refine rg_nil ?_
          refine qg_then ?_
          refine cg_true rfl ?_
          refine cg_seq ?_
          refine cg_region ?_
          refine rg_q (.inl rfl) rfl rfl (by exact QW.qr (qw_assign rfl)) ?_
          refine rg_nil ?_
          refine qg_then ?_
          refine cg_ret ?_
          refine qg_then_ret ?_
          have hfin : rightF n es from_ to a = 1 := by rw [rightF, if_neg hc, if_pos (by omega)]
          exact qg_end (.inl rfl) _ (.cons (.tmp rfl) (.nil)) L (by repeat (first | exact List.Sublist.refl _ | exact List.nil_sublist _ | exact List.sublist_append_right _ _ | apply List.Sublist.cons_cons | apply List.Sublist.cons)) ⟨by rw [hfin]; rfl, rfl⟩
        · intro hc28
          refine rg_q (.inl rfl) rfl rfl (by exact QW.qr (qw_pick_f rfl rfl)) ?_
          refine rg_q (.inl rfl) rfl rfl (by exact QW.qr (qw_move rfl)) ?_
          refine rg_q (.inr (guard_mk rfl rfl rfl rfl)) rfl rfl (by exact QW.qr (qw_move rfl)) ?_
          refine rg_q (.inr (guard_mk rfl rfl rfl rfl)) rfl rfl (by exact QW.qr (qw_move rfl)) ?_
          refine rg_split (.inr (guard_mk rfl rfl rfl rfl)) rfl rfl (by exact qc_geq rfl rfl) ?_ ?_
          · intro hc33
            refine rg_q (.inl rfl) rfl rfl (by exact QW.qr (qw_pick_f rfl rfl)) ?_
            refine rg_q (.inl rfl) rfl rfl (by exact QW.qr (qw_move rfl)) ?_
            refine rg_s (guard_mk rfl rfl rfl rfl) rfl rfl ?_
            refine rg_s (guard_mk rfl rfl rfl rfl) rfl rfl ?_
            refine rg_s (guard_mk rfl rfl rfl rfl) rfl rfl ?_
            refine rg_q (.inl rfl) rfl rfl (by exact QW.qr (qw_pick_t rfl rfl)) ?_
            refine rg_q (.inl rfl) rfl rfl (by exact QW.qr (qw_move rfl)) ?_
            refine rg_s (guard_mk rfl rfl rfl rfl) rfl rfl ?_
            refine rg_s (guard_mk rfl rfl rfl rfl) rfl rfl ?_
            refine rg_q (.inl rfl) rfl rfl (by exact QW.qr (qw_pick_t rfl rfl)) ?_
            refine rg_nil ?_
            refine qg_then ?_
            refine cg_true rfl ?_
            refine cg_seq ?_
            refine cg_region ?_
            refine rg_q (.inl rfl) rfl rfl (by exact QW.qr (qw_assign rfl)) ?_
            refine rg_nil ?_
            refine qg_then ?_
            refine cg_ret ?_
            refine qg_then_ret ?_
            have hfin : rightF n es from_ to a = 1 := by rw [rightF, if_neg hc, if_pos (by omega)]
            exact qg_end (.inl rfl) _ (.cons (.tmp rfl) (.nil)) L (by repeat (first | exact List.Sublist.refl _ | exact List.nil_sublist _ | exact List.sublist_append_right _ _ | apply List.Sublist.cons_cons | apply List.Sublist.cons)) ⟨by rw [hfin]; rfl, rfl⟩
          · intro hc33
            refine rg_q (.inl rfl) rfl rfl (by exact QW.qr (qw_pick_f rfl rfl)) ?_
            refine rg_q (.inl rfl) rfl rfl (by exact QW.qr (qw_move rfl)) ?_
            refine rg_q (.inr (guard_mk rfl rfl rfl rfl)) rfl rfl (by exact QW.qr (qw_move rfl)) ?_
            refine rg_q (.inr (guard_mk rfl rfl rfl rfl)) rfl rfl (by exact QW.qr (qw_move rfl)) ?_
            refine rg_split (.inr (guard_mk rfl rfl rfl rfl)) rfl rfl (by exact qc_eql rfl rfl) ?_ ?_
            · intro hc38
              refine rg_q (.inl rfl) rfl rfl (by exact QW.qr (qw_pick_f rfl rfl)) ?_
              refine rg_q (.inl rfl) rfl rfl (by exact QW.qr (qw_move rfl)) ?_
              refine rg_s (guard_mk rfl rfl rfl rfl) rfl rfl ?_
              refine rg_s (guard_mk rfl rfl rfl rfl) rfl rfl ?_
              refine rg_q (.inl rfl) rfl rfl (by exact QW.qr (qw_pick_t rfl rfl)) ?_
              refine rg_nil ?_
              refine qg_then ?_
              refine cg_true rfl ?_
              refine cg_seq ?_
              refine cg_region ?_
              refine rg_q (.inl rfl) rfl rfl (by exact QW.qr (qw_assign rfl)) ?_
              refine rg_nil ?_
              refine qg_then ?_
              refine cg_ret ?_
              refine qg_then_ret ?_
              have hfin : rightF n es from_ to a = 1 := by rw [rightF, if_neg hc, if_pos (by omega)]
              exact qg_end (.inl rfl) _ (.cons (.tmp rfl) (.nil)) L (by repeat (first | exact List.Sublist.refl _ | exact List.nil_sublist _ | exact List.sublist_append_right _ _ | apply List.Sublist.cons_cons | apply List.Sublist.cons)) ⟨by rw [hfin]; rfl, rfl⟩
            · intro hc38
              refine rg_q (.inl rfl) rfl rfl (by exact QW.qr (qw_pick_f rfl rfl)) ?_
              refine rg_q (.inl rfl) rfl rfl (by exact QW.qr (qw_move rfl)) ?_
              refine rg_q (.inr (guard_mk rfl rfl rfl rfl)) rfl rfl (by exact QW.qr (qw_move rfl)) ?_
              refine rg_split (.inr (guard_mk rfl rfl rfl rfl)) rfl rfl (by exact qc_eql rfl rfl) ?_ ?_
              · intro hc42
                refine rg_q (.inl rfl) rfl rfl (by exact QW.qr (qw_pick_f rfl rfl)) ?_
                refine rg_nil ?_
                refine qg_then ?_
                refine cg_true rfl ?_
                refine cg_seq ?_
                refine cg_region ?_
                refine rg_q (.inl rfl) rfl rfl (by exact QW.qr (qw_assign rfl)) ?_
                refine rg_nil ?_
                refine qg_then ?_
                refine cg_ret ?_
                refine qg_then_ret ?_
                have hfin : rightF n es from_ to a = 1 := by rw [rightF, if_neg hc, if_pos (by omega)]
                exact qg_end (.inl rfl) _ (.cons (.tmp rfl) (.nil)) L (by repeat (first | exact List.Sublist.refl _ | exact List.nil_sublist _ | exact List.sublist_append_right _ _ | apply List.Sublist.cons_cons | apply List.Sublist.cons)) ⟨by rw [hfin]; rfl, rfl⟩
              · intro hc42
                refine rg_q (.inl rfl) rfl rfl (by exact QW.qr (qw_pick_f rfl rfl)) ?_
                refine rg_nil ?_
                refine qg_then ?_
                refine cg_false rfl ?_
                refine cg_skip ?_
                refine qg_then ?_
                refine cg_seq ?_
                refine cg_region ?_
                refine rg_q (.inl rfl) rfl rfl (by exact QW.qr (qw_assign rfl)) ?_
                refine rg_nil ?_
                refine qg_then ?_
                refine cg_ret ?_
                have hfin : rightF n es from_ to a = 0 := by rw [rightF, if_neg hc, if_neg (by omega)]
                exact qg_end (.inl rfl) _ (.cons (.tmp rfl) (.nil)) L (by repeat (first | exact List.Sublist.refl _ | exact List.nil_sublist _ | exact List.sublist_append_right _ _ | apply List.Sublist.cons_cons | apply List.Sublist.cons)) ⟨by rw [hfin]; rfl, rfl⟩

theorem all_ca (n : Nat) (es : List Edge) (from_ to a : Int) (p : Option Addr) (cap : Nat) (ev : Value) (O : Out) (L : List Blk) (he : RdL L encE 8 ev es) (hg : ∀ e ∈ es, goodEdge e) (ha : isU64 a) (hn : n ≤ 1000) (hes : es.length ≤ 1000) :
    CA Try.prog 8 [.agg #[.slice p n cap, ev], I from_, I to, U a] O L fun v L' => ∃ ov ts B, v = .tuple #[ov, I (allF n es from_ to a).2] ∧ L' = B ++ L ∧ RdL B encRV 3 ov ts ∧ RtsAt B ts (allF n es from_ to a).1 := by
  obtain ⟨p2, cap2, rfl, hl2, hcap2, hsp2, hR2⟩ := id he
  refine ca_enter Try.func8 rfl rfl ?_
  rw [Try.ntmps8]
  simp only [envOf]
  refine cg_seq ?_
  refine cg_region ?_
  refine rg_e (.inl rfl) rfl rfl (by exact ev_box rfl (by first | exact CellsOf.agg | exact CellsOf.one rfl)) ?_
  rintro _ _ ⟨b4, rfl, rfl⟩
  refine rg_e (.inl rfl) rfl rfl (by exact ev_box rfl (by first | exact CellsOf.agg | exact CellsOf.one rfl)) ?_
  rintro _ _ ⟨b7, rfl, rfl⟩
  refine rg_q (.inl rfl) rfl rfl (by exact QW.qr (qw_assign rfl)) ?_
  refine rg_q (.inl rfl) rfl rfl (by exact QW.qr (qw_assign rfl)) ?_
  refine rg_nil ?_
  refine qg_then ?_
  refine cg_seq ?_
  refine cg_seq ?_
  refine cg_region ?_
  refine rg_q (.inl rfl) rfl rfl (by exact qr_loadN rfl (by repeat (first | exact List.Mem.head _ | apply List.Mem.tail | apply List.mem_append_right | assumption)) (by repeat (first | exact SegL.done | apply SegL.take | apply SegL.skip))) ?_
  refine rg_q (.inl rfl) rfl rfl (by exact QW.qr (qw_move rfl)) ?_
  refine rg_q (.inl rfl) rfl rfl (by exact QW.qr (qw_move rfl)) ?_
  refine rg_q (.inl rfl) rfl rfl (by exact qr_load1 rfl (by repeat (first | exact List.Mem.head _ | apply List.Mem.tail | apply List.mem_append_right | assumption)) rfl) ?_
  refine rg_e (.inl rfl) rfl rfl (by exact ev_call0 rfl (.cons rfl (.cons rfl (.cons rfl (.cons rfl (.nil))))) (right_ca n es from_ to a p cap _ O _ (he.mono (fun q hq => List.mem_cons_of_mem _ (List.mem_cons_of_mem _ hq))) (by omega) (by omega))) ?_
  rintro _ _ ⟨rfl, rfl⟩
  refine rg_q (.inl rfl) rfl rfl (by exact QW.qr (qw_assign rfl)) ?_
  refine rg_nil ?_
  refine qg_then ?_
  refine cg_seq ?_
  refine cg_region ?_
  refine rg_q (.inl rfl) rfl rfl (by exact QW.qr (qw_move rfl)) ?_
  refine rg_split (.inl rfl) rfl rfl (by exact qc_neq rfl rfl) ?_ ?_
  · intro hc
    refine rg_nil ?_
    refine qg_then ?_
    refine cg_true rfl ?_
    refine cg_seq ?_
    refine cg_region ?_
    refine rg_q (.inl rfl) rfl rfl (by exact QW.qr (qw_move rfl)) ?_
    refine rg_q (.inl rfl) rfl rfl (by exact QW.qr (qw_assign rfl)) ?_
    refine rg_q (.inl rfl) rfl rfl (by exact QW.qr (qw_assign rfl)) ?_
    refine rg_nil ?_
    refine qg_then ?_
    refine cg_ret ?_
    refine qg_then_ret ?_
    have hfin : allF n es from_ to a = ([], rightF n es from_ to a) := by rw [allF, if_pos hc]
    exact qg_end (.inl rfl) _ (.cons (.tmp rfl) (.cons (.tmp rfl) (.nil))) L (by repeat (first | exact List.Sublist.refl _ | exact List.nil_sublist _ | exact List.sublist_append_right _ _ | apply List.Sublist.cons_cons | apply List.Sublist.cons)) ⟨.slice none 0 0, [], [], by rw [hfin]; rfl, rfl, OwnL.nil (e := 0) |>.rd (fun _ => rfl) (by decide), by rw [hfin]; exact ⟨rfl, fun i h => by simp at h⟩⟩
  · intro hc
    refine rg_nil ?_
    refine qg_then ?_
    refine cg_false rfl ?_
    refine cg_skip ?_
    refine qg_then ?_
    refine cg_seq ?_
    refine cg_region ?_
    refine rg_e (.inl rfl) rfl rfl (by exact ev_alloc (by first | exact CellsOf.agg | exact CellsOf.one rfl)) ?_
    rintro _ _ ⟨b11, rfl, rfl⟩
    refine rg_nil ?_
    refine qg_then ?_
    refine cg_seq ?_
    refine cg_region ?_
    refine rg_q (.inl rfl) rfl rfl (by exact qr_loadN rfl (by repeat (first | exact List.Mem.head _ | apply List.Mem.tail | apply List.mem_append_right | assumption)) (by repeat (first | exact SegL.done | apply SegL.take | apply SegL.skip))) ?_
    refine rg_q (.inl rfl) rfl rfl (by exact QW.qr (qw_move rfl)) ?_
    refine rg_q (.inl rfl) rfl rfl (by exact QW.qr (qw_move rfl)) ?_
    refine rg_e (.inl rfl) rfl rfl (by exact ev_buildSlice (.cons rfl (.nil)) rfl (by first | exact CellsOf.agg | exact CellsOf.one rfl) (by rfl) (.cons rfl (by first | exact CellsOf.agg | exact CellsOf.one rfl) (by repeat (first | exact SetSeg.done | apply SetSeg.take | apply SetSeg.skip)) (by rfl) (by rfl) (.nil))) ?_
    rintro _ _ ⟨b24, rfl, rfl⟩
    refine rg_q (.inl rfl) rfl rfl (by exact QW.qr (qw_build (.cons rfl (.cons rfl (.cons rfl (.nil)))) rfl (.cons rfl (by first | exact CellsOf.agg | exact CellsOf.one rfl) (by repeat (first | exact SetSeg.done | apply SetSeg.take | apply SetSeg.skip)) (by rfl) (by rfl) (.cons rfl (by first | exact CellsOf.agg | exact CellsOf.one rfl) (by repeat (first | exact SetSeg.done | apply SetSeg.take | apply SetSeg.skip)) (by rfl) (by rfl) (.cons rfl (by first | exact CellsOf.agg | exact CellsOf.one rfl) (by repeat (first | exact SetSeg.done | apply SetSeg.take | apply SetSeg.skip)) (by rfl) (by rfl) (.nil)))))) ?_
    refine rg_e (.inl rfl) rfl rfl (by exact ev_box rfl (by first | exact CellsOf.agg | exact CellsOf.one rfl)) ?_
    rintro _ _ ⟨b26, rfl, rfl⟩
    refine rg_q (.inl rfl) rfl rfl (by exact QW.qr (qw_assign rfl)) ?_
    refine rg_nil ?_
    refine qg_then ?_
    refine cg_seq ?_
    refine cg_region ?_
    refine rg_q (.inl rfl) rfl rfl (by exact QW.qr (qw_move rfl)) ?_
    refine rg_q (.inl rfl) rfl rfl (by exact QW.qr (qw_makeFunc (.nil) (.cons rfl (.cons rfl (.cons rfl (.nil)))))) ?_
    refine rg_q (.inl rfl) rfl rfl (by exact QW.qr (qw_nilCheck rfl)) ?_
    refine rg_q (.inl rfl) rfl rfl (by exact QW.qr (qw_fieldAddr rfl)) ?_
    refine rg_e0 (.inl rfl) rfl (by exact ev_store rfl rfl (by first | exact CellsOf.agg | exact CellsOf.one rfl) (by repeat (first | exact List.Mem.head _ | apply List.Mem.tail | apply List.mem_append_right | assumption)) (by repeat (first | exact SetSeg.done | apply SetSeg.take | apply SetSeg.skip)) rfl rfl (by repeat (first | exact Upd.here | apply Upd.there | apply Upd.app)) (by first | exact Or.inl ⟨inferInstance, rfl⟩ | exact Or.inr inferInstance)) ?_
    rintro _ _ ⟨rfl, rfl⟩
    refine rg_nil ?_
    refine qg_then ?_
    refine cg_seq ?_
    refine cg_region ?_
    refine rg_q (.inl rfl) rfl rfl (by exact QW.qr (qw_move rfl)) ?_
    refine rg_e (.inl rfl) rfl rfl (by exact ev_call0 rfl (.cons rfl (.nil)) ((seek_ca es n to a p cap (.slice p2 es.length cap2) b26 b4 b7 b11 O hg ha hn hes 7 ((b7, Obj.cells [U a].toArray 26 (0, 0)) :: (b4, Obj.cells [Value.slice p n cap, Value.slice p2 es.length cap2].toArray 32 (0, 0)) :: L) (he.mono (fun q hq => List.mem_cons_of_mem _ (List.mem_cons_of_mem _ hq))) (List.Mem.tail _ (List.Mem.head _)) (List.Mem.head _) [from_] [] [] (.slice (some ⟨b24, 0, none⟩) 1 1) (.slice none 0 0) (.slice none 0 0) [] [(b24, Obj.cells [I from_].toArray 3 (0, 0))] [] [] [] ⟨rfl, fun h hh => by simp at hh⟩ rfl (by simp) (own_one b24 3 from_) OwnL.nil OwnL.nil ⟨rfl, fun i h => by simp at h⟩).pre (fun w h => h))) ?_
    rintro _ _ ⟨nv', xv', ov', ts', Bn', Bx', Bo', Br', rfl, rfl, hn', hx', ho', hr'⟩
    obtain ⟨po, co, rfl, hpo⟩ := id (ho'.rd (fun _ => rfl) (by decide))
    refine rg_nil ?_
    refine qg_then ?_
    refine cg_seq ?_
    refine cg_region ?_
    refine rg_q (.inl rfl) rfl rfl (by exact qr_load1 rfl (mem_cat (s := [(b11, _)]) (by repeat (first | exact List.Mem.head _ | apply List.Mem.tail)) (List.Mem.head _)) rfl) ?_
    refine rg_q (.inl rfl) rfl rfl (by exact QW.qr (qw_assign rfl)) ?_
    refine rg_q (.inl rfl) rfl rfl (by exact QW.qr (qw_assign rfl)) ?_
    refine rg_nil ?_
    refine qg_then ?_
    refine cg_ret ?_
    have hfin : allF n es from_ to a = ((seekF es n to a 7 [from_] [] []).1, 0) := by rw [allF, if_neg hc]
    exact qg_end_sp (.inl rfl) _ (.cons (.tmp rfl) (.cons (.tmp rfl) (.nil))) _ (cat_sub (ls' := [Bo', Br']) (ls := [[(b26, _)], Bn', Bx', [(b11, _)], Bo', Br', [(b7, _)], [(b4, _)]]) (by repeat (first | exact SubM.nil | refine SubM.cons (by repeat (first | exact Ins.here | apply Ins.there)) ?_))) ⟨_, _, Bo' ++ Br', by rw [hfin]; rfl, by rw [List.append_assoc]; rfl, (ho'.rd (fun _ => rfl) (by decide)).mono (fun q hq => List.mem_append_left _ hq), by rw [hfin]; exact hr'.mono (fun q hq => List.mem_append_right _ hq)⟩

end Go.Proofs.Ytjimpciiaceleaa