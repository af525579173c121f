/-
  THE WALK of NodeNil. Conditions: the secret's bytes.
-/
import Derived.Test.YthmicniimofagaaGreatC2
namespace Go.Proofs.YthmicniimofagaaGreat
open Fw
open Go.Proofs (encStr)
set_option linter.unusedVariables false
set_option linter.unusedSimpArgs false
set_option maxRecDepth 100000
set_option maxHeartbeats 1000000

theorem nodeNil_ca (iv bv : Value) (sl : List Value) (hs : sl.length = 32) (O : Out) (L : List Blk) :
    CA Tryz.prog 4 [iv, .agg sl.toArray, bv] O L fun v L' => v = .bool true ∧ L' = L := by
  refine ca_enter Tryz.func4 rfl rfl ?_
  rw [Tryz.ntmps4]
  simp only [envOf]
  refine cg_seq ?_
  refine cg_region ?_
  refine rg_e (.inl rfl) rfl rfl (by exact ev_box rfl (by first | exact CellsOf.agg | exact CellsOf.one rfl)) ?_
  rintro _ _ ⟨b4, rfl, rfl⟩
  refine rg_q (.inl rfl) rfl rfl (by exact QW.qr (qw_assign rfl)) ?_
  refine rg_nil ?_
  refine qg_then ?_
  refine cg_seq ?_
  refine cg_region ?_
  refine rg_q (.inl rfl) rfl rfl (by exact QW.qr (qw_assign rfl)) ?_
  refine rg_nil ?_
  refine qg_then ?_
  refine cg_seq ?_
  refine cg_region ?_
  refine rg_q (.inl rfl) rfl rfl (by exact QW.qr (qw_move rfl)) ?_
  refine rg_e (.inl rfl) rfl rfl (by exact ev_call0 rfl (.cons rfl (.cons rfl (.nil))) (tick_nil O _)) ?_
  rintro _ _ ⟨rfl, rfl⟩
  refine rg_q (.inl rfl) rfl rfl (by exact QW.qr (qw_move rfl)) ?_
  refine rg_q (.inl rfl) rfl rfl (by exact QW.qr (qw_extract rfl rfl)) ?_
  refine rg_q (.inl rfl) rfl rfl (by exact QW.qr (qw_extract rfl rfl)) ?_
  refine rg_q (.inl rfl) rfl rfl (by exact QW.qr (qw_extract rfl rfl)) ?_
  refine rg_q (.inl rfl) rfl rfl (by exact QW.qr (qw_assign rfl)) ?_
  refine rg_q (.inl rfl) rfl rfl (by exact QW.qr (qw_assign rfl)) ?_
  refine rg_q (.inl rfl) rfl rfl (by exact QW.qr (qw_assign rfl)) ?_
  refine rg_nil ?_
  refine qg_then ?_
  refine cg_seq ?_
  refine cg_region ?_
  refine rg_q (.inl rfl) rfl rfl (by exact QW.qr (qw_move rfl)) ?_
  refine rg_q (.inl rfl) rfl rfl (by exact QW.qr (qw_move rfl)) ?_
  refine rg_e (.inl rfl) rfl rfl (by exact ev_call0 rfl (.cons rfl (.cons rfl (.cons rfl (.cons rfl (.nil))))) (hear_nil bv O _)) ?_
  rintro _ _ ⟨rfl, rfl⟩
  refine rg_q (.inl rfl) rfl rfl (by exact QW.qr (qw_move rfl)) ?_
  refine rg_q (.inl rfl) rfl rfl (by exact QW.qr (qw_extract rfl rfl)) ?_
  refine rg_q (.inl rfl) rfl rfl (by exact QW.qr (qw_extract rfl rfl)) ?_
  refine rg_q (.inl rfl) rfl rfl (by exact QW.qr (qw_assign rfl)) ?_
  refine rg_q (.inl rfl) rfl rfl (by exact QW.qr (qw_assign rfl)) ?_
  refine rg_nil ?_
  refine qg_then ?_
  refine cg_seq ?_
  refine cg_region ?_
  refine rg_q (.inl rfl) rfl rfl (by exact QW.qr (qw_move rfl)) ?_
  refine rg_q (.inl rfl) rfl rfl (by exact QW.qr (qw_move rfl)) ?_
  refine rg_e (.inl rfl) rfl rfl (by exact ev_call0 rfl (.cons rfl (.cons rfl (.nil))) (look_nil iv O _)) ?_
  rintro _ _ ⟨rfl, rfl⟩
  refine rg_q (.inl rfl) rfl rfl (by exact QW.qr (qw_move rfl)) ?_
  refine rg_q (.inl rfl) rfl rfl (by exact QW.qr (qw_extract rfl rfl)) ?_
  refine rg_q (.inl rfl) rfl rfl (by exact QW.qr (qw_extract rfl rfl)) ?_
  refine rg_q (.inl rfl) rfl rfl (by exact QW.qr (qw_extract rfl rfl)) ?_
  refine rg_q (.inl rfl) rfl rfl (by exact QW.qr (qw_extract rfl rfl)) ?_
  refine rg_e (.inl rfl) rfl rfl (by exact ev_alloc (by first | exact CellsOf.agg | exact CellsOf.one rfl)) ?_
  rintro _ _ ⟨b13, rfl, rfl⟩
  refine rg_e0 (.inl rfl) rfl (by exact ev_store rfl rfl .agg (by repeat (first | exact List.Mem.head _ | apply List.Mem.tail | apply List.mem_append_right | assumption)) (SetSeg.all rfl) deedZ_ne deedZ_one (by repeat (first | exact Upd.here | apply Upd.there | apply Upd.app)) (.inr deedZ_agg)) ?_
  rintro _ _ ⟨rfl, rfl⟩
  refine rg_q (.inl rfl) rfl rfl (by exact QW.qr (qw_assign rfl)) ?_
  refine rg_q (.inl rfl) rfl rfl (by exact QW.qr (qw_assign rfl)) ?_
  refine rg_q (.inl rfl) rfl rfl (by exact QW.qr (qw_assign rfl)) ?_
  refine rg_nil ?_
  refine qg_then ?_
  refine cg_seq ?_
  refine cg_region ?_
  refine rg_e (.inl rfl) rfl rfl (by exact ev_call0 rfl (.nil) (nodeAwake_ca O _)) ?_
  rintro _ _ ⟨rfl, rfl⟩
  · skip
    refine rg_q (.inl rfl) rfl rfl (by exact QW.qr (qw_move rfl)) ?_
    refine rg_q (.inr (guard_mk rfl rfl rfl rfl)) rfl rfl (by exact QW.qr (qw_move rfl)) ?_
    refine rg_q (.inr (guard_mk rfl rfl rfl rfl)) rfl rfl (by exact QW.qr (qw_eql_t rfl rfl (by decide))) ?_
    refine rg_q (.inl rfl) rfl rfl (by exact QW.qr (qw_pick_t rfl rfl)) ?_
    refine rg_q (.inl rfl) rfl rfl (by exact QW.qr (qw_move rfl)) ?_
    refine rg_q (.inr (guard_mk rfl rfl rfl rfl)) rfl rfl (by exact QW.qr (qw_move rfl)) ?_
    refine rg_q (.inr (guard_mk rfl rfl rfl rfl)) rfl rfl (by exact QW.qr (qw_eql_t rfl rfl (by decide))) ?_
    refine rg_q (.inl rfl) rfl rfl (by exact QW.qr (qw_pick_t rfl rfl)) ?_
    refine rg_q (.inl rfl) rfl rfl (by exact QW.qr (qw_move rfl)) ?_
    refine rg_q (.inr (guard_mk rfl rfl rfl rfl)) rfl rfl (by exact QW.qr (qw_move rfl)) ?_
    refine rg_q (.inr (guard_mk rfl rfl rfl rfl)) rfl rfl (by exact QW.qr (qw_not rfl)) ?_
    refine rg_q (.inl rfl) rfl rfl (by exact QW.qr (qw_pick_t rfl rfl)) ?_
    refine rg_q (.inl rfl) rfl rfl (by exact QW.qr (qw_move rfl)) ?_
    refine rg_q (.inr (guard_mk rfl rfl rfl rfl)) rfl rfl (by exact QW.qr (qw_move rfl)) ?_
    refine rg_q (.inr (guard_mk rfl rfl rfl rfl)) rfl rfl (by exact qr_loadS rfl (by repeat (first | exact List.Mem.head _ | apply List.Mem.tail | apply List.mem_append_right | assumption)) (Seg.all _) hs) ?_
    refine rg_e (.inr (guard_mk rfl rfl rfl rfl)) rfl rfl (by exact ev_call0 rfl (.cons rfl (.cons rfl (.nil))) (learn_nil sl O _)) ?_
    rintro _ _ ⟨rfl, rfl⟩
    refine rg_q (.inr (guard_mk rfl rfl rfl rfl)) rfl rfl (by exact QW.qr (qw_eql_t rfl rfl (by decide))) ?_
    refine rg_q (.inl rfl) rfl rfl (by exact QW.qr (qw_pick_t rfl rfl)) ?_
    refine rg_q (.inl rfl) rfl rfl (by exact QW.qr (qw_move rfl)) ?_
    refine rg_q (.inr (guard_mk rfl rfl rfl rfl)) rfl rfl (by exact QW.qr (qw_move rfl)) ?_
    refine rg_q (.inr (guard_mk rfl rfl rfl rfl)) rfl rfl (by exact QW.qr (qw_move rfl)) ?_
    refine rg_q (.inr (guard_mk rfl rfl rfl rfl)) rfl rfl (by exact QW.qr (qw_build (.nil) rfl (.nil))) ?_
    refine rg_e (.inr (guard_mk rfl rfl rfl rfl)) rfl rfl (by exact ev_call0 rfl (.cons rfl (.cons rfl (.cons rfl (.nil)))) (want_nil iv _ O _)) ?_
    rintro _ _ ⟨rfl, rfl⟩
    refine rg_q (.inr (guard_mk rfl rfl rfl rfl)) rfl rfl (by exact QW.qr (qw_eql_t rfl rfl (by decide))) ?_
    refine rg_q (.inl rfl) rfl rfl (by exact QW.qr (qw_pick_t rfl rfl)) ?_
    refine rg_q (.inl rfl) rfl rfl (by exact QW.qr (qw_move rfl)) ?_
    refine rg_q (.inr (guard_mk rfl rfl rfl rfl)) rfl rfl (by exact QW.qr (qw_move rfl)) ?_
    refine rg_e (.inr (guard_mk rfl rfl rfl rfl)) rfl rfl (by exact ev_call0 rfl (.cons rfl (.nil)) (channels_nil O _)) ?_
    rintro _ _ ⟨rfl, rfl⟩
    refine rg_q (.inr (guard_mk rfl rfl rfl rfl)) rfl rfl (by exact QW.qr (qw_len_slice (t := 76) (.cons rfl (.nil)) rfl)) ?_
    refine rg_q (.inr (guard_mk rfl rfl rfl rfl)) rfl rfl (by exact QW.qr (qw_eql_t rfl rfl (by decide))) ?_
    refine rg_q (.inl rfl) rfl rfl (by exact QW.qr (qw_pick_t rfl rfl)) ?_
    refine rg_q (.inl rfl) rfl rfl (by exact QW.qr (qw_move rfl)) ?_
    refine rg_q (.inr (guard_mk rfl rfl rfl rfl)) rfl rfl (by exact QW.qr (qw_move rfl)) ?_
    refine rg_e (.inr (guard_mk rfl rfl rfl rfl)) rfl rfl (by exact ev_call0 rfl (.cons rfl (.nil)) (secrets_nil O _)) ?_
    rintro _ _ ⟨rfl, rfl⟩
    refine rg_q (.inr (guard_mk rfl rfl rfl rfl)) rfl rfl (by exact QW.qr (qw_eql_t rfl rfl (by decide))) ?_
    refine rg_q (.inl rfl) rfl rfl (by exact QW.qr (qw_pick_t rfl rfl)) ?_
    refine rg_q (.inl rfl) rfl rfl (by exact QW.qr (qw_move rfl)) ?_
    refine rg_q (.inr (guard_mk rfl rfl rfl rfl)) rfl rfl (by exact QW.qr (qw_move rfl)) ?_
    refine rg_e (.inr (guard_mk rfl rfl rfl rfl)) rfl rfl (by exact ev_call0 rfl (.cons rfl (.nil)) (nDead_nil O _)) ?_
    rintro _ _ ⟨rfl, rfl⟩
    refine rg_q (.inr (guard_mk rfl rfl rfl rfl)) rfl rfl (by exact QW.qr (qw_eql_t rfl rfl (by decide))) ?_
    refine rg_q (.inl rfl) rfl rfl (by exact QW.qr (qw_pick_t rfl rfl)) ?_
    refine rg_q (.inl rfl) rfl rfl (by exact QW.qr (qw_assign rfl)) ?_
    refine rg_nil ?_
    refine qg_then ?_
    refine cg_ret ?_
    exact qg_end (.inl rfl) _ (.cons (.tmp rfl) (.nil)) _ (by repeat (first | exact List.Sublist.refl _ | exact List.nil_sublist _ | exact List.sublist_append_right _ _ | apply List.Sublist.cons_cons | apply List.Sublist.cons | refine List.Sublist.trans ?_ (List.sublist_append_right _ _))) ⟨rfl, rfl⟩

end Go.Proofs.YthmicniimofagaaGreat