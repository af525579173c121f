/-
  THE WALK of the law LogbookNil. Condition: none.
-/
import Derived.Test.YtcbbogaanebefaaB13
namespace Go.Proofs.Ytcbbogaanebefaa
open Fw
open Go.Proofs (encStr)
set_option linter.unusedVariables false
set_option linter.unusedSimpArgs false
set_option maxRecDepth 100000
set_option maxHeartbeats 1000000

theorem stepS_err (s : Slab) : (stepS s).2 = 0 ∨ (stepS s).2 = 5 := by
  unfold stepS; split
  · exact .inr rfl
  · exact .inl rfl
theorem appendS_err (s : Slab) (p : Bytes) : (appendS s p).2 = 0 ∨ (appendS s p).2 = 4 ∨ (appendS s p).2 = 5 := by
  unfold appendS
  split
  · exact .inr (.inr rfl)
  · split
    · exact .inr (.inl rfl)
    · split
      · rcases stepS_err s with h | h
        · exact .inl h
        · exact .inr (.inr h)
      · exact .inl rfl
theorem put_limit (l : Lb) (sa : Slab) (name val : Bytes) (hd : l.dead = 0) : (putL l sa name val).2.2 = 8 ↔ ((name.length : Int) > 255 ∨ (val.length : Int) > 4096) := by
  have he := appendS_err sa (recF 2 name val)
  unfold putL
  rw [if_neg (fun h => h hd)]
  split
  · rename_i h; exact ⟨fun _ => h, fun _ => rfl⟩
  · rename_i h
    refine ⟨fun h2 => absurd h2 ?_, fun h2 => absurd h2 h⟩
    split
    · show ¬ (appendS sa (recF 2 name val)).2 = 8
      omega
    · show ¬ (0 : Int) = 8
      decide

theorem logbookNil_ca (name value : Bytes) (vv : Value) (O : Out) (L : List Blk) (hv : RdL L encB 1 vv value) :
    CA Try.prog 4 [encStr name, vv] O L fun v L' => v = .bool true ∧ L' = L := by
  obtain ⟨pp, cp, rfl, _⟩ := id hv
  refine ca_enter Try.func4 rfl rfl ?_
  rw [Try.ntmps4]
  simp only [envOf]
  refine cg_seq ?_
  refine cg_region ?_
  refine rg_q (.inl rfl) rfl rfl (by exact QW.qr (qw_assign rfl)) ?_
  refine rg_nil ?_
  refine qg_then ?_
  refine cg_seq ?_
  refine cg_region ?_
  refine rg_q (.inl rfl) rfl rfl (by exact QW.qr (qw_assign rfl)) ?_
  refine rg_nil ?_
  refine qg_then ?_
  refine cg_seq ?_
  refine cg_region ?_
  refine rg_e (.inl rfl) rfl rfl (by exact ev_call0 rfl (.nil) (new_ca O _)) ?_
  rintro _ _ ⟨b0, K0, rfl, rfl, h0⟩
  refine rg_e (.inl rfl) rfl rfl (by exact ev_call0 rfl (.cons rfl (.cons rfl (.nil))) (open_nil0 b0 O _)) ?_
  rintro _ _ ⟨rfl, rfl⟩
  refine rg_q (.inl rfl) rfl rfl (by exact QW.qr (qw_move rfl)) ?_
  refine rg_q (.inl rfl) rfl rfl (by exact QW.qr (qw_extract rfl rfl)) ?_
  refine rg_q (.inl rfl) rfl rfl (by exact QW.qr (qw_extract rfl rfl)) ?_
  refine rg_q (.inl rfl) rfl rfl (by exact QW.qr (qw_assign rfl)) ?_
  refine rg_q (.inl rfl) rfl rfl (by exact QW.qr (qw_assign rfl)) ?_
  refine rg_nil ?_
  refine qg_then ?_
  refine cg_seq ?_
  refine cg_region ?_
  refine rg_e (.inl rfl) rfl rfl (by exact ev_call0 rfl (.nil) (new_ca O _)) ?_
  rintro _ _ ⟨b1, K1, rfl, rfl, h1⟩
  refine rg_e (.inl rfl) rfl rfl (by exact ev_call0 rfl (.cons rfl (.cons rfl (.nil))) (open_nil1 b1 K1 h1 O _)) ?_
  rintro _ _ ⟨rfl, rfl⟩
  refine rg_q (.inl rfl) rfl rfl (by exact QW.qr (qw_move rfl)) ?_
  refine rg_q (.inl rfl) rfl rfl (by exact QW.qr (qw_extract rfl rfl)) ?_
  refine rg_q (.inl rfl) rfl rfl (by exact QW.qr (qw_extract rfl rfl)) ?_
  refine rg_q (.inl rfl) rfl rfl (by exact QW.qr (qw_assign rfl)) ?_
  refine rg_q (.inl rfl) rfl rfl (by exact QW.qr (qw_assign rfl)) ?_
  refine rg_nil ?_
  refine qg_then ?_
  refine cg_seq ?_
  refine cg_region ?_
  refine rg_q (.inl rfl) rfl rfl (by exact QW.qr (qw_move rfl)) ?_
  refine rg_q (.inl rfl) rfl rfl (by exact QW.qr (qw_move rfl)) ?_
  refine rg_e (.inl rfl) rfl rfl (by exact ev_call0 rfl (.cons rfl (.cons rfl (.nil))) (get_nil _ O _)) ?_
  rintro _ _ ⟨rfl, rfl⟩
  refine rg_q (.inl rfl) rfl rfl (by exact QW.qr (qw_move rfl)) ?_
  refine rg_q (.inl rfl) rfl rfl (by exact QW.qr (qw_extract rfl rfl)) ?_
  refine rg_q (.inl rfl) rfl rfl (by exact QW.qr (qw_extract rfl rfl)) ?_
  refine rg_q (.inl rfl) rfl rfl (by exact QW.qr (qw_assign rfl)) ?_
  refine rg_q (.inl rfl) rfl rfl (by exact QW.qr (qw_assign rfl)) ?_
  refine rg_nil ?_
  refine qg_then ?_
  refine cg_seq ?_
  refine cg_region ?_
  refine rg_e (.inl rfl) rfl rfl (by exact ev_call0 rfl (.nil) (new_ca O _)) ?_
  rintro _ _ ⟨b2, K2, rfl, rfl, h2⟩
  refine rg_e (.inl rfl) rfl rfl (by exact ev_call0 rfl (.nil) (new_ca O _)) ?_
  rintro _ _ ⟨b3, K3, rfl, rfl, h3⟩
  refine rg_e (.inl rfl) rfl rfl (by exact ev_call0 rfl (.cons rfl (.cons rfl (.nil))) ((open_ca b2 b3 newS newS K2 K3 h2 h3 (by decide) (by decide) O (cat [K1, K0] L)).pre (fun w h => h.perm (cat_perm (ls' := [K2, K3, K1, K0]) (ls := [K3, K2, K1, K0]) (by repeat (first | exact PermM.nil | refine PermM.cons (by repeat (first | exact Ins.here | apply Ins.there)) ?_)))))) ?_
  rintro _ _ h
  rw [aw_open] at h
  rcases h with ⟨he, _⟩ | ⟨_, bl, K4, K02, K12, rfl, rfl, hl2, h02, h12⟩
  · exact absurd rfl he
  replace hl2 : LbIn bl b2 b3 ⟨0, 1, [], 0⟩ K4 := hl2
  replace h02 : SlabAt b2 sA1 K02 := h02
  replace h12 : SlabAt b3 newS K12 := h12
  refine rg_q (.inl rfl) rfl rfl (by exact QW.qr (qw_move rfl)) ?_
  refine rg_q (.inl rfl) rfl rfl (by exact QW.qr (qw_extract rfl rfl)) ?_
  refine rg_q (.inl rfl) rfl rfl (by exact QW.qr (qw_extract rfl rfl)) ?_
  refine rg_q (.inl rfl) rfl rfl (by exact QW.qr (qw_assign rfl)) ?_
  refine rg_q (.inl rfl) rfl rfl (by exact QW.qr (qw_assign rfl)) ?_
  refine rg_nil ?_
  refine qg_then ?_
  refine cg_seq ?_
  refine cg_region ?_
  refine rg_q (.inl rfl) rfl rfl (by exact QW.qr (qw_move rfl)) ?_
  refine rg_q (.inl rfl) rfl rfl (by exact QW.qr (qw_move rfl)) ?_
  refine rg_q (.inl rfl) rfl rfl (by exact QW.qr (qw_move rfl)) ?_
  refine rg_e (.inl rfl) rfl rfl (by exact ev_call0 rfl (.cons rfl (.cons rfl (.cons rfl (.nil)))) ((put_ca bl b2 b3 ⟨0, 1, [], 0⟩ sA1 K4 K02 name value _ O (cat [K12, K1, K0] L) ((LbIn.zero rfl).1 hl2) h02 (by decide) (hv.mono (fun q hq => mem_catF hq))))) ?_
  rintro _ _ ⟨rfl, K5, K05, rfl, _, _⟩
  have hk := put_limit ⟨0, 1, [], 0⟩ sA1 name value rfl
  generalize (putL ⟨0, 1, [], 0⟩ sA1 name value).2.2 = g at hk ⊢
  refine rg_q (.inl rfl) rfl rfl (by exact QW.qr (qw_assign rfl)) ?_
  refine rg_nil ?_
  refine qg_then ?_
  refine cg_seq ?_
  refine cg_region ?_
  refine rg_e (.inl rfl) rfl rfl (by exact ev_call0 rfl (.nil) (awake_ca O _)) ?_
  rintro _ _ ⟨rfl, rfl⟩
  · skip
    refine rg_q (.inl rfl) rfl rfl (by exact QW.qr (qw_move rfl)) ?_
    refine rg_q (.inr (guard_mk rfl rfl rfl rfl)) rfl rfl (by exact QW.qr (qw_move rfl)) ?_
    refine rg_q (.inr (guard_mk rfl rfl rfl rfl)) rfl rfl (by exact QW.qr (qw_eql_t rfl rfl rfl)) ?_
    refine rg_q (.inl rfl) rfl rfl (by exact QW.qr (qw_pick_t rfl rfl)) ?_
    refine rg_q (.inl rfl) rfl rfl (by exact QW.qr (qw_move rfl)) ?_
    refine rg_q (.inr (guard_mk rfl rfl rfl rfl)) rfl rfl (by exact QW.qr (qw_move rfl)) ?_
    refine rg_q (.inr (guard_mk rfl rfl rfl rfl)) rfl rfl (by exact QW.qr (qw_eql_t rfl rfl rfl)) ?_
    refine rg_q (.inl rfl) rfl rfl (by exact QW.qr (qw_pick_t rfl rfl)) ?_
    refine rg_q (.inl rfl) rfl rfl (by exact QW.qr (qw_move rfl)) ?_
    refine rg_q (.inr (guard_mk rfl rfl rfl rfl)) rfl rfl (by exact QW.qr (qw_move rfl)) ?_
    refine rg_q (.inr (guard_mk rfl rfl rfl rfl)) rfl rfl (by exact QW.qr (qw_not rfl)) ?_
    refine rg_q (.inl rfl) rfl rfl (by exact QW.qr (qw_pick_t rfl rfl)) ?_
    refine rg_q (.inl rfl) rfl rfl (by exact QW.qr (qw_move rfl)) ?_
    refine rg_q (.inr (guard_mk rfl rfl rfl rfl)) rfl rfl (by exact QW.qr (qw_move rfl)) ?_
    refine rg_q (.inr (guard_mk rfl rfl rfl rfl)) rfl rfl (by exact QW.qr (qw_move rfl)) ?_
    refine rg_q (.inr (guard_mk rfl rfl rfl rfl)) rfl rfl (by exact QW.qr (qw_move rfl)) ?_
    refine rg_e (.inr (guard_mk rfl rfl rfl rfl)) rfl rfl (by exact ev_call0 rfl (.cons rfl (.cons rfl (.cons rfl (.nil)))) (put_nil _ _ O _)) ?_
    rintro _ _ ⟨rfl, rfl⟩
    refine rg_q (.inr (guard_mk rfl rfl rfl rfl)) rfl rfl (by exact QW.qr (qw_eql_t rfl rfl rfl)) ?_
    refine rg_q (.inl rfl) rfl rfl (by exact QW.qr (qw_pick_t rfl rfl)) ?_
    refine rg_q (.inl rfl) rfl rfl (by exact QW.qr (qw_move rfl)) ?_
    refine rg_q (.inr (guard_mk rfl rfl rfl rfl)) rfl rfl (by exact QW.qr (qw_move rfl)) ?_
    refine rg_q (.inr (guard_mk rfl rfl rfl rfl)) rfl rfl (by exact QW.qr (qw_move rfl)) ?_
    refine rg_e (.inr (guard_mk rfl rfl rfl rfl)) rfl rfl (by exact ev_call0 rfl (.cons rfl (.cons rfl (.nil))) (drop_nil _ O _)) ?_
    rintro _ _ ⟨rfl, rfl⟩
    refine rg_q (.inr (guard_mk rfl rfl rfl rfl)) rfl rfl (by exact QW.qr (qw_eql_t rfl rfl rfl)) ?_
    refine rg_q (.inl rfl) rfl rfl (by exact QW.qr (qw_pick_t rfl rfl)) ?_
    refine rg_q (.inl rfl) rfl rfl (by exact QW.qr (qw_move rfl)) ?_
    refine rg_q (.inr (guard_mk rfl rfl rfl rfl)) rfl rfl (by exact QW.qr (qw_move rfl)) ?_
    refine rg_e (.inr (guard_mk rfl rfl rfl rfl)) rfl rfl (by exact ev_call0 rfl (.cons rfl (.nil)) (lbSync_nil O _)) ?_
    rintro _ _ ⟨rfl, rfl⟩
    refine rg_q (.inr (guard_mk rfl rfl rfl rfl)) rfl rfl (by exact QW.qr (qw_eql_t rfl rfl rfl)) ?_
    refine rg_q (.inl rfl) rfl rfl (by exact QW.qr (qw_pick_t rfl rfl)) ?_
    refine rg_q (.inl rfl) rfl rfl (by exact QW.qr (qw_move rfl)) ?_
    refine rg_q (.inr (guard_mk rfl rfl rfl rfl)) rfl rfl (by exact QW.qr (qw_move rfl)) ?_
    refine rg_e (.inr (guard_mk rfl rfl rfl rfl)) rfl rfl (by exact ev_call0 rfl (.cons rfl (.nil)) (compact_nil O _)) ?_
    rintro _ _ ⟨rfl, rfl⟩
    refine rg_q (.inr (guard_mk rfl rfl rfl rfl)) rfl rfl (by exact QW.qr (qw_eql_t rfl rfl rfl)) ?_
    refine rg_q (.inl rfl) rfl rfl (by exact QW.qr (qw_pick_t rfl rfl)) ?_
    refine rg_q (.inl rfl) rfl rfl (by exact QW.qr (qw_move rfl)) ?_
    refine rg_q (.inr (guard_mk rfl rfl rfl rfl)) rfl rfl (by exact QW.qr (qw_move rfl)) ?_
    refine rg_e (.inr (guard_mk rfl rfl rfl rfl)) rfl rfl (by exact ev_call0 rfl (.cons rfl (.nil)) (names_nil O _)) ?_
    rintro _ _ ⟨rfl, rfl⟩
    refine rg_q (.inr (guard_mk rfl rfl rfl rfl)) rfl rfl (by exact QW.qr (qw_len_slice (t := 41) (.cons rfl (.nil)) rfl)) ?_
    refine rg_q (.inr (guard_mk rfl rfl rfl rfl)) rfl rfl (by exact QW.qr (qw_eql_t rfl rfl rfl)) ?_
    refine rg_q (.inl rfl) rfl rfl (by exact QW.qr (qw_pick_t rfl rfl)) ?_
    refine rg_q (.inl rfl) rfl rfl (by exact QW.qr (qw_move rfl)) ?_
    refine rg_q (.inr (guard_mk rfl rfl rfl rfl)) rfl rfl (by exact QW.qr (qw_move rfl)) ?_
    refine rg_e (.inr (guard_mk rfl rfl rfl rfl)) rfl rfl (by exact ev_call0 rfl (.cons rfl (.nil)) (life_nil O _)) ?_
    rintro _ _ ⟨rfl, rfl⟩
    refine rg_q (.inr (guard_mk rfl rfl rfl rfl)) rfl rfl (by exact QW.qr (qw_eql_t rfl rfl rfl)) ?_
    refine rg_q (.inl rfl) rfl rfl (by exact QW.qr (qw_pick_t rfl rfl)) ?_
    refine rg_q (.inl rfl) rfl rfl (by exact QW.qr (qw_move rfl)) ?_
    refine rg_q (.inr (guard_mk rfl rfl rfl rfl)) rfl rfl (by exact QW.qr (qw_move rfl)) ?_
    refine rg_e (.inr (guard_mk rfl rfl rfl rfl)) rfl rfl (by exact ev_call0 rfl (.cons rfl (.nil)) (dead_nil O _)) ?_
    rintro _ _ ⟨rfl, rfl⟩
    refine rg_q (.inr (guard_mk rfl rfl rfl rfl)) rfl rfl (by exact QW.qr (qw_eql_t rfl rfl rfl)) ?_
    refine rg_q (.inl rfl) rfl rfl (by exact QW.qr (qw_pick_t rfl rfl)) ?_
    refine rg_q (.inl rfl) rfl rfl (by exact QW.qr (qw_move rfl)) ?_
    refine rg_q (.inr (guard_mk rfl rfl rfl rfl)) rfl rfl (by exact QW.qr (qw_move rfl)) ?_
    refine rg_split (.inr (guard_mk rfl rfl rfl rfl)) rfl rfl (by exact qc_eql rfl rfl) ?_ ?_
    · intro h8
      refine rg_q (.inr (guard_mk rfl rfl rfl rfl)) rfl rfl (by exact QW.qr (qw_move rfl)) ?_
      refine rg_q (.inr (guard_mk rfl rfl rfl rfl)) rfl rfl (by exact QW.qr (qw_len_enc (t := 9) (.cons rfl .nil) rfl)) ?_
      refine rg_split (.inr (guard_mk rfl rfl rfl rfl)) rfl rfl (by exact qc_gtr rfl rfl) ?_ ?_
      · intro h1
        refine rg_q (.inr (guard_mk rfl rfl rfl rfl)) rfl rfl (by exact QW.qr (qw_move rfl)) ?_
        refine rg_s (guard_mk rfl rfl rfl rfl) rfl rfl ?_
        refine rg_s (guard_mk rfl rfl rfl rfl) rfl rfl ?_
        refine rg_s (guard_mk rfl rfl rfl rfl) rfl rfl ?_
        refine rg_q (.inr (guard_mk rfl rfl rfl rfl)) rfl rfl (by exact QW.qr (qw_pick_t rfl rfl)) ?_
        refine rg_q (.inr (guard_mk rfl rfl rfl rfl)) rfl rfl (by exact QW.qr (qw_eql_bool rfl rfl)) ?_
        refine rg_q (.inl rfl) rfl rfl (by exact QW.qr (qw_pick_t rfl rfl)) ?_
        refine rg_q (.inl rfl) rfl rfl (by exact QW.qr (qw_assign rfl)) ?_
        refine rg_nil ?_
        refine qg_then ?_
        refine cg_ret ?_
        exact qg_end_sp (.inl rfl) _ (.cons (.tmp rfl) (.nil)) _ (cat_sub (ls' := []) (ls := [K5, K05, K12, K1, K0]) (by repeat (first | exact SubM.nil | refine SubM.cons (by repeat (first | exact Ins.here | apply Ins.there)) ?_))) ⟨rfl, rfl⟩
      · intro h1
        refine rg_q (.inr (guard_mk rfl rfl rfl rfl)) rfl rfl (by exact QW.qr (qw_move rfl)) ?_
        refine rg_q (.inr (guard_mk rfl rfl rfl rfl)) rfl rfl (by exact QW.qr (qw_move rfl)) ?_
        refine rg_q (.inr (guard_mk rfl rfl rfl rfl)) rfl rfl (by exact QW.qr (qw_len_slice (t := 36) (.cons rfl (.nil)) rfl)) ?_
        refine rg_split (.inr (guard_mk rfl rfl rfl rfl)) rfl rfl (by exact qc_gtr rfl rfl) ?_ ?_
        · intro h2
          refine rg_q (.inr (guard_mk rfl rfl rfl rfl)) rfl rfl (by exact QW.qr (qw_pick_f rfl rfl)) ?_
          refine rg_q (.inr (guard_mk rfl rfl rfl rfl)) rfl rfl (by exact QW.qr (qw_eql_bool rfl rfl)) ?_
          refine rg_q (.inl rfl) rfl rfl (by exact QW.qr (qw_pick_t rfl rfl)) ?_
          refine rg_q (.inl rfl) rfl rfl (by exact QW.qr (qw_assign rfl)) ?_
          refine rg_nil ?_
          refine qg_then ?_
          refine cg_ret ?_
          exact qg_end_sp (.inl rfl) _ (.cons (.tmp rfl) (.nil)) _ (cat_sub (ls' := []) (ls := [K5, K05, K12, K1, K0]) (by repeat (first | exact SubM.nil | refine SubM.cons (by repeat (first | exact Ins.here | apply Ins.there)) ?_))) ⟨rfl, rfl⟩
        · intro h2
          exact absurd (hk.1 h8) (fun h => h.elim h1 h2)
    · intro h8
      refine rg_q (.inr (guard_mk rfl rfl rfl rfl)) rfl rfl (by exact QW.qr (qw_move rfl)) ?_
      refine rg_q (.inr (guard_mk rfl rfl rfl rfl)) rfl rfl (by exact QW.qr (qw_len_enc (t := 9) (.cons rfl .nil) rfl)) ?_
      refine rg_split (.inr (guard_mk rfl rfl rfl rfl)) rfl rfl (by exact qc_gtr rfl rfl) ?_ ?_
      · intro h1
        exact absurd (hk.2 (.inl h1)) h8
      · intro h1
        refine rg_q (.inr (guard_mk rfl rfl rfl rfl)) rfl rfl (by exact QW.qr (qw_move rfl)) ?_
        refine rg_q (.inr (guard_mk rfl rfl rfl rfl)) rfl rfl (by exact QW.qr (qw_move rfl)) ?_
        refine rg_q (.inr (guard_mk rfl rfl rfl rfl)) rfl rfl (by exact QW.qr (qw_len_slice (t := 36) (.cons rfl (.nil)) rfl)) ?_
        refine rg_split (.inr (guard_mk rfl rfl rfl rfl)) rfl rfl (by exact qc_gtr rfl rfl) ?_ ?_
        · intro h2
          exact absurd (hk.2 (.inr h2)) h8
        · intro h2
          refine rg_q (.inr (guard_mk rfl rfl rfl rfl)) rfl rfl (by exact QW.qr (qw_pick_f rfl rfl)) ?_
          refine rg_q (.inr (guard_mk rfl rfl rfl rfl)) rfl rfl (by exact QW.qr (qw_eql_bool rfl rfl)) ?_
          refine rg_q (.inl rfl) rfl rfl (by exact QW.qr (qw_pick_t rfl rfl)) ?_
          refine rg_q (.inl rfl) rfl rfl (by exact QW.qr (qw_assign rfl)) ?_
          refine rg_nil ?_
          refine qg_then ?_
          refine cg_ret ?_
          exact qg_end_sp (.inl rfl) _ (.cons (.tmp rfl) (.nil)) _ (cat_sub (ls' := []) (ls := [K5, K05, K12, K1, K0]) (by repeat (first | exact SubM.nil | refine SubM.cons (by repeat (first | exact Ins.here | apply Ins.there)) ?_))) ⟨rfl, rfl⟩

end Go.Proofs.Ytcbbogaanebefaa