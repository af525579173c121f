/-
  THE WALKS of the document's slab: New, step, Append, Sync, Erase, Read; of slab's Loose, Steps, Down. Conditions: sizes.
-/
import Derived.Test.YtcbbogaanebefaaB23
namespace Go.Proofs.Ytcbbogaanebefaa
open Fw
open Go.Proofs (encStr)
set_option linter.unusedVariables false
set_option linter.unusedSimpArgs false
set_option maxRecDepth 100000
set_option maxHeartbeats 1000000

def rslabBlk (b : Nat) (sv lv : Value) (s : Slab) : Blk := (b, .cells [sv, lv, I s.fuse, I s.steps, .bool s.down].toArray 88 (0, 0))
/-- The document's slab in memory. -/
def RSlabAt (b : Nat) (s : Slab) (Bk : List Blk) : Prop := ∃ sv lv Bs Bl, OwnL 5 encB 1 sv s.sure Bs ∧ OwnL 5 encB 1 lv s.loose Bl ∧ Bk = rslabBlk b sv lv s :: (Bs ++ Bl)
theorem ne_false_of {e : Int} (h : e ≠ 0) : decide (e = 0) = false := decide_eq_false h
theorem stepS_01 (s : Slab) : (stepS s).2 = 0 ∨ (stepS s).2 = 5 := by unfold stepS; split; exact .inr rfl; exact .inl rfl

theorem rnew_ca (O : Out) (L : List Blk) : CA Try.prog 22 [] O L fun v L' => ∃ b Bk, v = PT b ∧ L' = Bk ++ L ∧ RSlabAt b newS Bk := by
  refine ca_enter Try.func22 rfl rfl ?_
  rw [Try.ntmps22]
  simp only [envOf]
  refine cg_seq ?_
  refine cg_region ?_
  refine rg_q (.inl rfl) rfl rfl (by exact QW.qr (qw_assign rfl)) ?_
  refine rg_nil ?_
  refine qg_then ?_
  refine cg_seq ?_
  refine cg_region ?_
  refine rg_q (.inl rfl) rfl rfl (by exact QW.qr (qw_build (.cons rfl (.nil)) rfl (.cons rfl (by first | exact CellsOf.agg | exact CellsOf.one rfl) (by repeat (first | exact SetSeg.done | apply SetSeg.take | apply SetSeg.skip)) (by rfl) (by rfl) (.nil)))) ?_
  refine rg_e (.inl rfl) rfl rfl (by exact ev_box rfl (by first | exact CellsOf.agg | exact CellsOf.one rfl)) ?_
  rintro _ _ ⟨b2, rfl, rfl⟩
  refine rg_q (.inl rfl) rfl rfl (by exact QW.qr (qw_assign rfl)) ?_
  refine rg_nil ?_
  refine qg_then ?_
  refine cg_ret ?_
  exact qg_end (.inl rfl) _ (.cons (.tmp rfl) (.nil)) _ (List.Sublist.refl _) ⟨b2, [_], rfl, rfl, _, _, [], [], OwnL.nil, OwnL.nil, rfl⟩

theorem rstep_ca (b : Nat) (sv lv : Value) (s : Slab) (O : Out) (L : List Blk) :
    CA Try.prog 69 [PT b] O (rslabBlk b sv lv s :: L) fun v L' => v = .bool (decide ((stepS s).2 = 0)) ∧ L' = rslabBlk b sv lv (stepS s).1 :: L := by
  unfold PT rslabBlk
  refine ca_enter Try.func69 rfl rfl ?_
  rw [Try.ntmps69]
  simp only [envOf]
  refine cg_seq ?_
  refine cg_region ?_
  refine rg_q (.inl rfl) rfl rfl (by exact QW.qr (qw_assign rfl)) ?_
  refine rg_nil ?_
  refine qg_then ?_
  refine cg_seq ?_
  refine cg_seq ?_
  refine cg_region ?_
  refine rg_q (.inl rfl) rfl rfl (by exact QW.qr (qw_move rfl)) ?_
  refine rg_q (.inl rfl) rfl rfl (by exact QW.qr (qw_nilCheck rfl)) ?_
  refine rg_q (.inl rfl) rfl rfl (by exact QW.qr (qw_fieldAddr rfl)) ?_
  refine rg_q (.inl rfl) rfl rfl (by exact qr_load1 rfl (by repeat (first | exact List.Mem.head _ | apply List.Mem.tail | apply List.mem_append_right | assumption)) rfl) ?_
  refine rg_split (.inl rfl) rfl rfl (by exact qc_eql rfl rfl) ?_ ?_
  · intro h0
    have hfin : stepS s = (⟨s.sure, s.loose, s.steps, s.fuse, true⟩, 5) := by rw [stepS, if_pos h0]
    refine rg_nil ?_
    refine qg_then ?_
    refine cg_true rfl ?_
    refine cg_seq ?_
    refine cg_region ?_
    refine rg_q (.inl rfl) rfl rfl (by exact QW.qr (qw_move rfl)) ?_
    refine rg_q (.inl rfl) rfl rfl (by exact QW.qr (qw_nilCheck rfl)) ?_
    refine rg_q (.inl rfl) rfl rfl (by exact QW.qr (qw_fieldAddr rfl)) ?_
    refine rg_e0 (.inl rfl) rfl (by exact ev_store rfl rfl (by first | exact CellsOf.agg | exact CellsOf.one rfl) (by repeat (first | exact List.Mem.head _ | apply List.Mem.tail | apply List.mem_append_right | assumption)) (by repeat (first | exact SetSeg.done | apply SetSeg.take | apply SetSeg.skip)) rfl rfl (by repeat (first | exact Upd.here | apply Upd.there | apply Upd.app)) (by first | exact Or.inl ⟨inferInstance, rfl⟩ | exact Or.inr inferInstance)) ?_
    rintro _ _ ⟨rfl, rfl⟩
    refine rg_nil ?_
    refine qg_then ?_
    refine cg_seq ?_
    refine cg_region ?_
    refine rg_q (.inl rfl) rfl rfl (by exact QW.qr (qw_assign rfl)) ?_
    refine rg_nil ?_
    refine qg_then ?_
    refine cg_ret ?_
    refine qg_then_ret ?_
    exact qg_end (.inl rfl) _ (.cons (.tmp rfl) (.nil)) _ (List.Sublist.refl _) ⟨by rw [hfin] <;> rfl, by rw [hfin] <;> rfl⟩
  · intro h0
    refine rg_nil ?_
    refine qg_then ?_
    refine cg_false rfl ?_
    refine cg_skip ?_
    refine qg_then ?_
    refine cg_seq ?_
    refine cg_seq ?_
    refine cg_region ?_
    refine rg_q (.inl rfl) rfl rfl (by exact QW.qr (qw_move rfl)) ?_
    refine rg_q (.inl rfl) rfl rfl (by exact QW.qr (qw_nilCheck rfl)) ?_
    refine rg_q (.inl rfl) rfl rfl (by exact QW.qr (qw_fieldAddr rfl)) ?_
    refine rg_q (.inl rfl) rfl rfl (by exact qr_load1 rfl (by repeat (first | exact List.Mem.head _ | apply List.Mem.tail | apply List.mem_append_right | assumption)) rfl) ?_
    refine rg_split (.inl rfl) rfl rfl (by exact qc_gtr rfl rfl) ?_ ?_
    · intro h1
      have hfin : stepS s = (⟨s.sure, s.loose, IntKind.wrap .i64 (s.steps + 1), IntKind.wrap .i64 (s.fuse - 1), s.down⟩, 0) := by rw [stepS, if_neg h0, if_pos h1]
      refine rg_nil ?_
      refine qg_then ?_
      refine cg_true rfl ?_
      refine cg_region ?_
      refine rg_q (.inl rfl) rfl rfl (by exact QW.qr (qw_move rfl)) ?_
      refine rg_q (.inl rfl) rfl rfl (by exact QW.qr (qw_move rfl)) ?_
      refine rg_q (.inl rfl) rfl rfl (by exact QW.qr (qw_nilCheck rfl)) ?_
      refine rg_q (.inl rfl) rfl rfl (by exact QW.qr (qw_fieldAddr rfl)) ?_
      refine rg_q (.inl rfl) rfl rfl (by exact qr_load1 rfl (by repeat (first | exact List.Mem.head _ | apply List.Mem.tail | apply List.mem_append_right | assumption)) rfl) ?_
      refine rg_q (.inl rfl) rfl rfl (by exact QW.qr (qw_sub rfl rfl)) ?_
      refine rg_q (.inl rfl) rfl rfl (by exact QW.qr (qw_nilCheck rfl)) ?_
      refine rg_q (.inl rfl) rfl rfl (by exact QW.qr (qw_fieldAddr rfl)) ?_
      refine rg_e0 (.inl rfl) rfl (by exact ev_store rfl rfl (by first | exact CellsOf.agg | exact CellsOf.one rfl) (by repeat (first | exact List.Mem.head _ | apply List.Mem.tail | apply List.mem_append_right | assumption)) (by repeat (first | exact SetSeg.done | apply SetSeg.take | apply SetSeg.skip)) rfl rfl (by repeat (first | exact Upd.here | apply Upd.there | apply Upd.app)) (by first | exact Or.inl ⟨inferInstance, rfl⟩ | exact Or.inr inferInstance)) ?_
      rintro _ _ ⟨rfl, rfl⟩
      refine rg_nil ?_
      refine qg_then ?_
      refine cg_seq ?_
      refine cg_region ?_
      refine rg_q (.inl rfl) rfl rfl (by exact QW.qr (qw_move rfl)) ?_
      refine rg_q (.inl rfl) rfl rfl (by exact QW.qr (qw_move rfl)) ?_
      refine rg_q (.inl rfl) rfl rfl (by exact QW.qr (qw_nilCheck rfl)) ?_
      refine rg_q (.inl rfl) rfl rfl (by exact QW.qr (qw_fieldAddr rfl)) ?_
      refine rg_q (.inl rfl) rfl rfl (by exact qr_load1 rfl (by repeat (first | exact List.Mem.head _ | apply List.Mem.tail | apply List.mem_append_right | assumption)) rfl) ?_
      refine rg_q (.inl rfl) rfl rfl (by exact QW.qr (qw_add rfl rfl)) ?_
      refine rg_q (.inl rfl) rfl rfl (by exact QW.qr (qw_nilCheck rfl)) ?_
      refine rg_q (.inl rfl) rfl rfl (by exact QW.qr (qw_fieldAddr rfl)) ?_
      refine rg_e0 (.inl rfl) rfl (by exact ev_store rfl rfl (by first | exact CellsOf.agg | exact CellsOf.one rfl) (by repeat (first | exact List.Mem.head _ | apply List.Mem.tail | apply List.mem_append_right | assumption)) (by repeat (first | exact SetSeg.done | apply SetSeg.take | apply SetSeg.skip)) rfl rfl (by repeat (first | exact Upd.here | apply Upd.there | apply Upd.app)) (by first | exact Or.inl ⟨inferInstance, rfl⟩ | exact Or.inr inferInstance)) ?_
      rintro _ _ ⟨rfl, rfl⟩
      refine rg_nil ?_
      refine qg_then ?_
      refine cg_seq ?_
      refine cg_region ?_
      refine rg_q (.inl rfl) rfl rfl (by exact QW.qr (qw_assign rfl)) ?_
      refine rg_nil ?_
      refine qg_then ?_
      refine cg_ret ?_
      exact qg_end (.inl rfl) _ (.cons (.tmp rfl) (.nil)) _ (List.Sublist.refl _) ⟨by rw [hfin] <;> rfl, by rw [hfin] <;> rfl⟩
    · intro h1
      have hfin : stepS s = (⟨s.sure, s.loose, IntKind.wrap .i64 (s.steps + 1), s.fuse, s.down⟩, 0) := by rw [stepS, if_neg h0, if_neg h1]
      refine rg_nil ?_
      refine qg_then ?_
      refine cg_false rfl ?_
      refine cg_skip ?_
      refine qg_then ?_
      refine cg_seq ?_
      refine cg_region ?_
      refine rg_q (.inl rfl) rfl rfl (by exact QW.qr (qw_move rfl)) ?_
      refine rg_q (.inl rfl) rfl rfl (by exact QW.qr (qw_move rfl)) ?_
      refine rg_q (.inl rfl) rfl rfl (by exact QW.qr (qw_nilCheck rfl)) ?_
      refine rg_q (.inl rfl) rfl rfl (by exact QW.qr (qw_fieldAddr rfl)) ?_
      refine rg_q (.inl rfl) rfl rfl (by exact qr_load1 rfl (by repeat (first | exact List.Mem.head _ | apply List.Mem.tail | apply List.mem_append_right | assumption)) rfl) ?_
      refine rg_q (.inl rfl) rfl rfl (by exact QW.qr (qw_add rfl rfl)) ?_
      refine rg_q (.inl rfl) rfl rfl (by exact QW.qr (qw_nilCheck rfl)) ?_
      refine rg_q (.inl rfl) rfl rfl (by exact QW.qr (qw_fieldAddr rfl)) ?_
      refine rg_e0 (.inl rfl) rfl (by exact ev_store rfl rfl (by first | exact CellsOf.agg | exact CellsOf.one rfl) (by repeat (first | exact List.Mem.head _ | apply List.Mem.tail | apply List.mem_append_right | assumption)) (by repeat (first | exact SetSeg.done | apply SetSeg.take | apply SetSeg.skip)) rfl rfl (by repeat (first | exact Upd.here | apply Upd.there | apply Upd.app)) (by first | exact Or.inl ⟨inferInstance, rfl⟩ | exact Or.inr inferInstance)) ?_
      rintro _ _ ⟨rfl, rfl⟩
      refine rg_nil ?_
      refine qg_then ?_
      refine cg_seq ?_
      refine cg_region ?_
      refine rg_q (.inl rfl) rfl rfl (by exact QW.qr (qw_assign rfl)) ?_
      refine rg_nil ?_
      refine qg_then ?_
      refine cg_ret ?_
      exact qg_end (.inl rfl) _ (.cons (.tmp rfl) (.nil)) _ (List.Sublist.refl _) ⟨by rw [hfin] <;> rfl, by rw [hfin] <;> rfl⟩

theorem rappend_down (b : Nat) (s : Slab) (Bk : List Blk) (p : Bytes) (pv : Value) (O : Out) (L : List Blk) (hs : RSlabAt b s Bk) (hdn : s.down = true) :
    CA Try.prog 47 [PT b, pv] O (Bk ++ L) fun v L' => v = I (appendS s p).2 ∧ ∃ Bk2, L' = Bk2 ++ L ∧ RSlabAt b (appendS s p).1 Bk2 := by
  obtain ⟨sv, lv, Bs, Bl, hos, hol, rfl⟩ := hs
  show CA _ _ _ O (cat [_] L) _
  rw [slab_open]
  obtain ⟨ps, cs, rfl, hqs⟩ := id (hos.rd (fun _ => rfl) (by decide))
  obtain ⟨pl, cl, rfl, hql⟩ := id (hol.rd (fun _ => rfl) (by decide))
  unfold rslabBlk PT
  have hfin : appendS s p = (s, 5) := by rw [appendS, if_pos hdn]
  refine ca_enter Try.func47 rfl rfl ?_
  rw [Try.ntmps47]
  simp only [envOf]
  refine cg_seq ?_
  refine cg_region ?_
  refine rg_q (.inl rfl) rfl rfl (by exact QW.qr (qw_assign rfl)) ?_
  refine rg_nil ?_
  refine qg_then ?_
  refine cg_seq ?_
  refine cg_seq ?_
  refine cg_region ?_
  refine rg_q (.inl rfl) rfl rfl (by exact QW.qr (qw_move rfl)) ?_
  refine rg_q (.inl rfl) rfl rfl (by exact QW.qr (qw_nilCheck rfl)) ?_
  refine rg_q (.inl rfl) rfl rfl (by exact QW.qr (qw_fieldAddr rfl)) ?_
  refine rg_q (.inl rfl) rfl rfl (by exact qr_val (qr_load1 rfl (by repeat (first | exact List.Mem.head _ | apply List.Mem.tail | apply List.mem_append_right | assumption)) rfl) (v2 := .bool true) (by rw [hdn])) ?_
  refine rg_nil ?_
  refine qg_then ?_
  refine cg_true rfl ?_
  refine cg_seq ?_
  refine cg_region ?_
  refine rg_q (.inl rfl) rfl rfl (by exact QW.qr (qw_assign rfl)) ?_
  refine rg_nil ?_
  refine qg_then ?_
  refine cg_ret ?_
  refine qg_then_ret ?_
  exact qg_end (.inl rfl) _ (.cons (.tmp rfl) (.nil)) _ (List.Sublist.refl _) ⟨by rw [hfin] <;> rfl, _, slab_close, by rw [hfin]; exact ⟨_, _, Bs, Bl, hos, hol, rfl⟩⟩

theorem rappend_up (b : Nat) (s : Slab) (Bk : List Blk) (p : Bytes) (pv : Value) (O : Out) (L : List Blk) (hs : RSlabAt b s Bk) (hdn : ¬ s.down = true) (hp : RdL L encB 1 pv p) (hsz : s.sure.length + s.loose.length ≤ 300000) (hpl : p.length ≤ 600000) :
    CA Try.prog 47 [PT b, pv] O (Bk ++ L) fun v L' => v = I (appendS s p).2 ∧ ∃ Bk2, L' = Bk2 ++ L ∧ RSlabAt b (appendS s p).1 Bk2 := by
  obtain ⟨sv, lv, Bs, Bl, hos, hol, rfl⟩ := hs
  show CA _ _ _ O (cat [_] L) _
  rw [slab_open]
  obtain ⟨ps, cs, rfl, hqs⟩ := id (hos.rd (fun _ => rfl) (by decide))
  obtain ⟨pl, cl, rfl, hql⟩ := id (hol.rd (fun _ => rfl) (by decide))
  obtain ⟨pp, cp, rfl, hqp⟩ := id hp
  have hdf : s.down = false := by simpa using hdn
  unfold rslabBlk PT
  refine ca_enter Try.func47 rfl rfl ?_
  rw [Try.ntmps47]
  simp only [envOf]
  refine cg_seq ?_
  refine cg_region ?_
  refine rg_q (.inl rfl) rfl rfl (by exact QW.qr (qw_assign rfl)) ?_
  refine rg_nil ?_
  refine qg_then ?_
  refine cg_seq ?_
  refine cg_seq ?_
  refine cg_region ?_
  refine rg_q (.inl rfl) rfl rfl (by exact QW.qr (qw_move rfl)) ?_
  refine rg_q (.inl rfl) rfl rfl (by exact QW.qr (qw_nilCheck rfl)) ?_
  refine rg_q (.inl rfl) rfl rfl (by exact QW.qr (qw_fieldAddr rfl)) ?_
  refine rg_q (.inl rfl) rfl rfl (by exact qr_val (qr_load1 rfl (by repeat (first | exact List.Mem.head _ | apply List.Mem.tail | apply List.mem_append_right | assumption)) rfl) (v2 := .bool false) (by rw [hdf])) ?_
  refine rg_nil ?_
  refine qg_then ?_
  refine cg_false rfl ?_
  refine cg_skip ?_
  refine qg_then ?_
  refine cg_seq ?_
  refine cg_seq ?_
  refine cg_draw follows (.op 0 false (.op 1 false (.op 2 false (.op 3 false (.op 4 false (.op 5 false (.op 6 false (.op 7 false (.op 8 false (.op 9 false (.op 10 false (.op 11 false (.op 12 false (.op 13 false (.op 14 false .done))))))))))))))) _ (by kernel_rfl) (SubP.of (List.Sublist.refl _)) ?_
  refine dg_w rfl rfl (.inl rfl) rfl rfl (by exact qw_move rfl) ?_
  refine dg_w rfl rfl (.inl rfl) rfl rfl (by exact qw_nilCheck rfl) ?_
  refine dg_w rfl rfl (.inl rfl) rfl rfl (by exact qw_fieldAddr rfl) ?_
  refine dg_r rfl rfl rfl (.inl rfl) rfl rfl (by exact qr_load1 rfl (by repeat (first | exact List.Mem.head _ | apply List.Mem.tail | apply List.mem_append_right | assumption)) rfl) ?_
  refine dg_w rfl rfl (.inl rfl) rfl rfl (by exact qw_len_slice (t := 36) (.cons rfl (.nil)) rfl) ?_
  refine dg_w rfl rfl (.inl rfl) rfl rfl (by exact qw_move rfl) ?_
  refine dg_w rfl rfl (.inl rfl) rfl rfl (by exact qw_nilCheck rfl) ?_
  refine dg_w rfl rfl (.inl rfl) rfl rfl (by exact qw_fieldAddr rfl) ?_
  refine dg_r rfl rfl rfl (.inl rfl) rfl rfl (by exact qr_load1 rfl (by repeat (first | exact List.Mem.head _ | apply List.Mem.tail | apply List.mem_append_right | assumption)) rfl) ?_
  refine dg_w rfl rfl (.inl rfl) rfl rfl (by exact qw_len_slice (t := 36) (.cons rfl (.nil)) rfl) ?_
  refine dg_w rfl rfl (.inl rfl) rfl rfl (by exact qw_add_in rfl rfl (by unfold inK; omega)) ?_
  refine dg_w rfl rfl (.inl rfl) rfl rfl (by exact qw_move rfl) ?_
  refine dg_w rfl rfl (.inl rfl) rfl rfl (by exact qw_len_slice (t := 36) (.cons rfl (.nil)) rfl) ?_
  refine dg_w rfl rfl (.inl rfl) rfl rfl (by exact qw_add_in rfl rfl (by unfold inK; omega)) ?_
  refine dg_split rfl rfl (.inl rfl) rfl rfl (by exact qc_gtr rfl rfl) ?_ ?_
  · intro hf0
    have hfull : (p.length : Int) > 262144 - s.sure.length - s.loose.length := by omega
    have hfin : appendS s p = (s, 4) := by rw [appendS, if_neg hdn, if_pos hfull]
    refine dg_nil ?_
    refine qg_then ?_
    refine cg_true rfl ?_
    refine cg_seq ?_
    refine cg_region ?_
    refine rg_q (.inl rfl) rfl rfl (by exact QW.qr (qw_assign rfl)) ?_
    refine rg_nil ?_
    refine qg_then ?_
    refine cg_ret ?_
    refine qg_then_ret ?_
    exact qg_end (.inl rfl) _ (.cons (.tmp rfl) (.nil)) _ (List.Sublist.refl _) ⟨by rw [hfin] <;> rfl, _, slab_close, by rw [hfin]; exact ⟨_, _, Bs, Bl, hos, hol, rfl⟩⟩
  · intro hf0
    have hfull : ¬ (p.length : Int) > 262144 - s.sure.length - s.loose.length := by omega
    refine dg_nil ?_
    refine qg_then ?_
    refine cg_false rfl ?_
    refine cg_skip ?_
    refine qg_then ?_
    refine cg_seq ?_
    refine cg_seq ?_
    refine cg_region ?_
    refine rg_q (.inl rfl) rfl rfl (by exact QW.qr (qw_move rfl)) ?_
    refine rg_e (.inl rfl) rfl rfl (by exact ev_call0 rfl (.cons rfl (.nil)) (rstep_ca b _ _ s O _)) ?_
    rintro _ _ ⟨rfl, rfl⟩
    generalize hst : stepS s = st
    have hsame := stepS_same s
    have h05 := stepS_01 s
    rw [hst] at hsame h05
    obtain ⟨s1, e1⟩ := st
    obtain ⟨hsu, hlo⟩ := hsame
    replace hsu : s1.sure = s.sure := hsu
    replace hlo : s1.loose = s.loose := hlo
    replace h05 : e1 = 0 ∨ e1 = 5 := h05
    rcases h05 with he | he
    rotate_left
    · skip
      subst he
      have hfin : appendS s p = (s1, 5) := by rw [appendS, if_neg hdn, if_neg hfull, hst]; rfl
      simp only [show decide ((5 : Int) = 0) = false from rfl]
      refine rg_q (.inl rfl) rfl rfl (by exact QW.qr (qw_not rfl)) ?_
      refine rg_nil ?_
      refine qg_then ?_
      refine cg_true rfl ?_
      refine cg_seq ?_
      refine cg_region ?_
      refine rg_q (.inl rfl) rfl rfl (by exact QW.qr (qw_assign rfl)) ?_
      refine rg_nil ?_
      refine qg_then ?_
      refine cg_ret ?_
      refine qg_then_ret ?_
      exact qg_end (.inl rfl) _ (.cons (.tmp rfl) (.nil)) _ (List.Sublist.refl _) ⟨by rw [hfin] <;> rfl, _, slab_close, by rw [hfin]; exact ⟨_, _, Bs, Bl, by rw [hsu]; exact hos, by rw [hlo]; exact hol, rfl⟩⟩
    · skip
      subst he
      have hfin : appendS s p = (⟨s1.sure, s.loose ++ p, s1.steps, s1.fuse, s1.down⟩, 0) := by rw [appendS, if_neg hdn, if_neg hfull, hst, if_neg (fun h => h rfl)] <;> simp [hsu, hlo]
      simp only [show decide ((0 : Int) = 0) = true from rfl]
      refine rg_q (.inl rfl) rfl rfl (by exact QW.qr (qw_not rfl)) ?_
      refine rg_nil ?_
      refine qg_then ?_
      refine cg_false rfl ?_
      refine cg_skip ?_
      refine qg_then ?_
      refine cg_seq ?_
      unfold rslabBlk
      refine cg_region ?_
      refine rg_q (.inl rfl) rfl rfl (by exact QW.qr (qw_move rfl)) ?_
      refine rg_e (.inl rfl) rfl rfl (by exact ev_buildSlice (.nil) rfl (by first | exact CellsOf.agg | exact CellsOf.one rfl) (by rfl) (.nil)) ?_
      rintro _ _ ⟨b28, rfl, rfl⟩
      refine rg_q (.inl rfl) rfl rfl (by exact QW.qr (qw_move rfl)) ?_
      refine rg_q (.inl rfl) rfl rfl (by exact QW.qr (qw_nilCheck rfl)) ?_
      refine rg_q (.inl rfl) rfl rfl (by exact QW.qr (qw_fieldAddr rfl)) ?_
      rw [rep8]
      refine rg_q (.inl rfl) rfl rfl (by exact qr_load1 rfl (by repeat (first | exact List.Mem.head _ | apply List.Mem.tail | apply List.mem_append_right | assumption)) rfl) ?_
      refine rg_e (.inl rfl) rfl rfl (by exact ev_appendL (xs := []) (ys := s.loose) (T := 36) (T2 := 36) (B := [(b28, _)]) (.cons rfl (.cons rfl .nil)) rfl rfl (own0B b28) (R := cat [[(b, _)], Bs, Bl] L) (List.Perm.refl _) ((hol.rd (fun _ => rfl) (by decide)).mono (fun q hq => mem_cat (s := Bl) (by repeat (first | exact List.Mem.head _ | apply List.Mem.tail)) hq)).src (fun _ => rfl) encB_one (by simp only [List.length_nil]; omega) rfl rfl rfl rfl) ?_
      rintro lv2 _ ⟨Bl2, hol2, rfl⟩
      refine rg_q (.inl rfl) rfl rfl (by exact QW.qr (qw_move rfl)) ?_
      refine rg_e (.inl rfl) rfl rfl (by exact ev_appendL (xs := s.loose) (ys := p) (T := 36) (T2 := 36) (.cons rfl (.cons rfl .nil)) rfl rfl hol2 (R := cat [[(b, _)], Bs, Bl] L) (List.Perm.refl _) (hp.mono (fun q hq => mem_catF hq)).src (fun _ => rfl) encB_one (by omega) rfl rfl rfl rfl) ?_
      rintro lv3 _ ⟨Bl3, hol3, rfl⟩
      obtain ⟨pl3, cl3, rfl, hql3⟩ := id (hol3.rd (fun _ => rfl) (by decide))
      refine rg_q (.inl rfl) rfl rfl (by exact QW.qr (qw_nilCheck rfl)) ?_
      refine rg_q (.inl rfl) rfl rfl (by exact QW.qr (qw_fieldAddr rfl)) ?_
      refine rg_e0 (.inl rfl) rfl (by exact ev_store rfl rfl (by first | exact CellsOf.agg | exact CellsOf.one rfl) (by repeat (first | exact List.Mem.head _ | apply List.Mem.tail | apply List.mem_append_right | assumption)) (by repeat (first | exact SetSeg.done | apply SetSeg.take | apply SetSeg.skip)) rfl rfl (by repeat (first | exact Upd.here | apply Upd.there | apply Upd.app)) (by first | exact Or.inl ⟨inferInstance, rfl⟩ | exact Or.inr inferInstance)) ?_
      rintro _ _ ⟨rfl, rfl⟩
      refine rg_nil ?_
      refine qg_then ?_
      refine cg_seq ?_
      refine cg_region ?_
      refine rg_q (.inl rfl) rfl rfl (by exact QW.qr (qw_assign rfl)) ?_
      refine rg_nil ?_
      refine qg_then ?_
      refine cg_ret ?_
      exact qg_end_sp (.inl rfl) _ (.cons (.tmp rfl) (.nil)) _ (cat_sub (ls' := [[(b, _)], Bs, Bl3]) (ls := [Bl3, [(b, _)], Bs, Bl]) (by repeat (first | exact SubM.nil | refine SubM.cons (by repeat (first | exact Ins.here | apply Ins.there)) ?_))) ⟨by rw [hfin] <;> rfl, _, slab_close, by rw [hfin]; exact ⟨_, _, Bs, Bl3, by rw [hsu]; exact hos, hol3, rfl⟩⟩

theorem rappend_ca (b : Nat) (s : Slab) (Bk : List Blk) (p : Bytes) (pv : Value) (O : Out) (L : List Blk) (hs : RSlabAt b s Bk) (hp : RdL L encB 1 pv p) (hsz : s.sure.length + s.loose.length ≤ 300000) (hpl : p.length ≤ 600000) :
    CA Try.prog 47 [PT b, pv] O (Bk ++ L) fun v L' => v = I (appendS s p).2 ∧ ∃ Bk2, L' = Bk2 ++ L ∧ RSlabAt b (appendS s p).1 Bk2 := by
  by_cases hdn : s.down = true
  · exact rappend_down b s Bk p pv O L hs hdn
  · exact rappend_up b s Bk p pv O L hs hdn hp hsz hpl

theorem rsync_down (b : Nat) (s : Slab) (Bk : List Blk) (O : Out) (L : List Blk) (hs : RSlabAt b s Bk) (hdn : s.down = true) :
    CA Try.prog 53 [PT b] O (Bk ++ L) fun v L' => v = I (syncS s).2 ∧ ∃ Bk2, L' = Bk2 ++ L ∧ RSlabAt b (syncS s).1 Bk2 := by
  obtain ⟨sv, lv, Bs, Bl, hos, hol, rfl⟩ := hs
  show CA _ _ _ O (cat [_] L) _
  rw [slab_open]
  obtain ⟨ps, cs, rfl, hqs⟩ := id (hos.rd (fun _ => rfl) (by decide))
  obtain ⟨pl, cl, rfl, hql⟩ := id (hol.rd (fun _ => rfl) (by decide))
  unfold rslabBlk PT
  have hfin : syncS s = (s, 5) := by rw [syncS, if_pos hdn]
  refine ca_enter Try.func53 rfl rfl ?_
  rw [Try.ntmps53]
  simp only [envOf]
  refine cg_seq ?_
  refine cg_region ?_
  refine rg_q (.inl rfl) rfl rfl (by exact QW.qr (qw_assign rfl)) ?_
  refine rg_nil ?_
  refine qg_then ?_
  refine cg_seq ?_
  refine cg_seq ?_
  refine cg_region ?_
  refine rg_q (.inl rfl) rfl rfl (by exact QW.qr (qw_move rfl)) ?_
  refine rg_q (.inl rfl) rfl rfl (by exact QW.qr (qw_nilCheck rfl)) ?_
  refine rg_q (.inl rfl) rfl rfl (by exact QW.qr (qw_fieldAddr rfl)) ?_
  refine rg_q (.inl rfl) rfl rfl (by exact qr_val (qr_load1 rfl (by repeat (first | exact List.Mem.head _ | apply List.Mem.tail | apply List.mem_append_right | assumption)) rfl) (v2 := .bool true) (by rw [hdn])) ?_
  refine rg_q (.inl rfl) rfl rfl (by exact QW.qr (qw_move rfl)) ?_
  refine rg_s (guard_mk rfl rfl rfl rfl) rfl rfl ?_
  refine rg_s (guard_mk rfl rfl rfl rfl) rfl rfl ?_
  refine rg_s (guard_mk rfl rfl rfl rfl) rfl rfl ?_
  refine rg_q (.inl rfl) rfl rfl (by exact QW.qr (qw_pick_t rfl rfl)) ?_
  refine rg_nil ?_
  refine qg_then ?_
  refine cg_true rfl ?_
  refine cg_seq ?_
  refine cg_region ?_
  refine rg_q (.inl rfl) rfl rfl (by exact QW.qr (qw_assign rfl)) ?_
  refine rg_nil ?_
  refine qg_then ?_
  refine cg_ret ?_
  refine qg_then_ret ?_
  exact qg_end (.inl rfl) _ (.cons (.tmp rfl) (.nil)) _ (List.Sublist.refl _) ⟨by rw [hfin] <;> rfl, _, slab_close, by rw [hfin]; exact ⟨_, _, Bs, Bl, hos, hol, rfl⟩⟩

theorem rsync_up (b : Nat) (s : Slab) (Bk : List Blk) (O : Out) (L : List Blk) (hs : RSlabAt b s Bk) (hdn : ¬ s.down = true) (hsz : s.sure.length + s.loose.length ≤ 1000000) :
    CA Try.prog 53 [PT b] O (Bk ++ L) fun v L' => v = I (syncS s).2 ∧ ∃ Bk2, L' = Bk2 ++ L ∧ RSlabAt b (syncS s).1 Bk2 := by
  obtain ⟨sv, lv, Bs, Bl, hos, hol, rfl⟩ := hs
  show CA _ _ _ O (cat [_] L) _
  rw [slab_open]
  obtain ⟨ps, cs, rfl, hqs⟩ := id (hos.rd (fun _ => rfl) (by decide))
  obtain ⟨pl, cl, rfl, hql⟩ := id (hol.rd (fun _ => rfl) (by decide))
  have hdf : s.down = false := by simpa using hdn
  unfold rslabBlk PT
  refine ca_enter Try.func53 rfl rfl ?_
  rw [Try.ntmps53]
  simp only [envOf]
  refine cg_seq ?_
  refine cg_region ?_
  refine rg_q (.inl rfl) rfl rfl (by exact QW.qr (qw_assign rfl)) ?_
  refine rg_nil ?_
  refine qg_then ?_
  refine cg_seq ?_
  refine cg_seq ?_
  refine cg_region ?_
  refine rg_q (.inl rfl) rfl rfl (by exact QW.qr (qw_move rfl)) ?_
  refine rg_q (.inl rfl) rfl rfl (by exact QW.qr (qw_nilCheck rfl)) ?_
  refine rg_q (.inl rfl) rfl rfl (by exact QW.qr (qw_fieldAddr rfl)) ?_
  refine rg_q (.inl rfl) rfl rfl (by exact qr_val (qr_load1 rfl (by repeat (first | exact List.Mem.head _ | apply List.Mem.tail | apply List.mem_append_right | assumption)) rfl) (v2 := .bool false) (by rw [hdf])) ?_
  refine rg_q (.inl rfl) rfl rfl (by exact QW.qr (qw_move rfl)) ?_
  refine rg_q (.inr (guard_mk rfl rfl rfl rfl)) rfl rfl (by exact QW.qr (qw_move rfl)) ?_
  refine rg_e (.inr (guard_mk rfl rfl rfl rfl)) rfl rfl (by exact ev_call0 rfl (.cons rfl (.nil)) (rstep_ca b _ _ s O _)) ?_
  rintro _ _ ⟨rfl, rfl⟩
  generalize hst : stepS s = st
  have hsame := stepS_same s
  have h05 := stepS_01 s
  rw [hst] at hsame h05
  obtain ⟨s1, e1⟩ := st
  obtain ⟨hsu, hlo⟩ := hsame
  replace hsu : s1.sure = s.sure := hsu
  replace hlo : s1.loose = s.loose := hlo
  replace h05 : e1 = 0 ∨ e1 = 5 := h05
  rcases h05 with he | he
  rotate_left
  · skip
    subst he
    have hfin : syncS s = (s1, 5) := by rw [syncS, if_neg hdn, hst]; rfl
    simp only [show decide ((5 : Int) = 0) = false from rfl]
    refine rg_q (.inr (guard_mk rfl rfl rfl rfl)) rfl rfl (by exact QW.qr (qw_not rfl)) ?_
    refine rg_q (.inl rfl) rfl rfl (by exact QW.qr (qw_pick_f rfl rfl)) ?_
    refine rg_nil ?_
    refine qg_then ?_
    refine cg_true rfl ?_
    refine cg_seq ?_
    refine cg_region ?_
    refine rg_q (.inl rfl) rfl rfl (by exact QW.qr (qw_assign rfl)) ?_
    refine rg_nil ?_
    refine qg_then ?_
    refine cg_ret ?_
    refine qg_then_ret ?_
    exact qg_end (.inl rfl) _ (.cons (.tmp rfl) (.nil)) _ (List.Sublist.refl _) ⟨by rw [hfin] <;> rfl, _, slab_close, by rw [hfin]; exact ⟨_, _, Bs, Bl, by rw [hsu]; exact hos, by rw [hlo]; exact hol, rfl⟩⟩
  · skip
    subst he
    have hfin : syncS s = (⟨s.sure ++ s.loose, [], s1.steps, s1.fuse, s1.down⟩, 0) := by rw [syncS, if_neg hdn, hst, if_neg (fun h => h rfl)] <;> simp [hsu, hlo]
    simp only [show decide ((0 : Int) = 0) = true from rfl]
    refine rg_q (.inr (guard_mk rfl rfl rfl rfl)) rfl rfl (by exact QW.qr (qw_not rfl)) ?_
    refine rg_q (.inl rfl) rfl rfl (by exact QW.qr (qw_pick_f rfl rfl)) ?_
    refine rg_nil ?_
    refine qg_then ?_
    refine cg_false rfl ?_
    refine cg_skip ?_
    refine qg_then ?_
    refine cg_seq ?_
    unfold rslabBlk
    refine cg_draw follows (.op 0 false (.op 2 false (.op 3 false (.op 4 false (.op 5 false (.op 7 false (.op 8 false (.op 9 false (.op 10 false (.op 1 true (.op 6 true (.op 11 false (.op 12 false (.op 13 false (.op 14 false .done))))))))))))))) _ (by kernel_rfl) (SubP.of (List.Sublist.refl _)) ?_
    refine dg_w rfl rfl (.inl rfl) rfl rfl (by exact qw_move rfl) ?_
    refine dg_w rfl rfl (.inl rfl) rfl rfl (by exact qw_move rfl) ?_
    refine dg_w rfl rfl (.inl rfl) rfl rfl (by exact qw_nilCheck rfl) ?_
    refine dg_w rfl rfl (.inl rfl) rfl rfl (by exact qw_fieldAddr rfl) ?_
    refine dg_r rfl rfl rfl (.inl rfl) rfl rfl (by exact qr_load1 rfl (by repeat (first | exact List.Mem.head _ | apply List.Mem.tail | apply List.mem_append_right | assumption)) rfl) ?_
    refine dg_w rfl rfl (.inl rfl) rfl rfl (by exact qw_move rfl) ?_
    refine dg_w rfl rfl (.inl rfl) rfl rfl (by exact qw_nilCheck rfl) ?_
    refine dg_w rfl rfl (.inl rfl) rfl rfl (by exact qw_fieldAddr rfl) ?_
    refine dg_r rfl rfl rfl (.inl rfl) rfl rfl (by exact qr_load1 rfl (by repeat (first | exact List.Mem.head _ | apply List.Mem.tail | apply List.mem_append_right | assumption)) rfl) ?_
    refine dg_e rfl rfl (.inl rfl) rfl rfl (by exact ev_buildSlice (.nil) rfl (by first | exact CellsOf.agg | exact CellsOf.one rfl) (by rfl) (.nil)) ?_
    rintro _ _ ⟨b13, rfl, rfl⟩
    refine ⟨(SubP.of (List.sublist_cons_self _ _)), ?_⟩
    rw [rep8]
    refine dg_e rfl rfl (.inl rfl) rfl rfl (by exact ev_appendL (xs := []) (ys := s.sure) (T := 36) (T2 := 36) (B := [(b13, _)]) (.cons rfl (.cons rfl .nil)) rfl rfl (own0B b13) (R := cat [[(b, _)], Bs, Bl] L) (List.Perm.refl _) ((hos.rd (fun _ => rfl) (by decide)).mono (fun q hq => mem_cat (s := Bs) (by repeat (first | exact List.Mem.head _ | apply List.Mem.tail)) hq)).src (fun _ => rfl) encB_one (by simp only [List.length_nil]; omega) rfl rfl rfl rfl) ?_
    rintro sv2 _ ⟨Bs2, hos2, rfl⟩
    refine ⟨(SubP.of (by repeat (first | exact List.Sublist.refl _ | exact List.nil_sublist _ | exact List.sublist_append_right _ _ | apply List.Sublist.cons_cons | apply List.Sublist.cons | refine List.Sublist.trans ?_ (List.sublist_append_right _ _)))), ?_⟩
    refine dg_g rfl rfl (.inl rfl) rfl rfl (by exact ev_appendL (xs := s.sure) (ys := s.loose) (T := 36) (T2 := 36) (.cons rfl (.cons rfl .nil)) rfl rfl hos2 (R := cat [[(b, _)], Bs, Bl] L) (List.Perm.refl _) ((hol.rd (fun _ => rfl) (by decide)).mono (fun q hq => mem_cat (s := Bl) (by repeat (first | exact List.Mem.head _ | apply List.Mem.tail)) hq)).src (fun _ => rfl) encB_one (by omega) rfl rfl rfl rfl) ?_
    rintro sv3 _ ⟨Bs3, hos3, rfl⟩
    obtain ⟨ps3, cs3, rfl, hqs3⟩ := id (hos3.rd (fun _ => rfl) (by decide))
    refine dg_w rfl rfl (.inl rfl) rfl rfl (by exact qw_nilCheck rfl) ?_
    refine dg_w rfl rfl (.inl rfl) rfl rfl (by exact qw_fieldAddr rfl) ?_
    refine dg_g0 rfl rfl (.inl rfl) rfl (by exact ev_store rfl rfl (by first | exact CellsOf.agg | exact CellsOf.one rfl) (by repeat (first | exact List.Mem.head _ | apply List.Mem.tail | apply List.mem_append_right | assumption)) (by repeat (first | exact SetSeg.done | apply SetSeg.take | apply SetSeg.skip)) rfl rfl (by repeat (first | exact Upd.here | apply Upd.there | apply Upd.app)) (by first | exact Or.inl ⟨inferInstance, rfl⟩ | exact Or.inr inferInstance)) ?_
    rintro _ _ ⟨rfl, rfl⟩
    refine dg_nil ?_
    refine qg_then ?_
    refine cg_seq ?_
    refine cg_region ?_
    refine rg_q (.inl rfl) rfl rfl (by exact QW.qr (qw_move rfl)) ?_
    refine rg_q (.inl rfl) rfl rfl (by exact QW.qr (qw_nilCheck rfl)) ?_
    refine rg_q (.inl rfl) rfl rfl (by exact QW.qr (qw_fieldAddr rfl)) ?_
    refine rg_e0 (.inl rfl) rfl (by exact ev_store rfl rfl (by first | exact CellsOf.agg | exact CellsOf.one rfl) (by repeat (first | exact List.Mem.head _ | apply List.Mem.tail | apply List.mem_append_right | assumption)) (by repeat (first | exact SetSeg.done | apply SetSeg.take | apply SetSeg.skip)) rfl rfl (by repeat (first | exact Upd.here | apply Upd.there | apply Upd.app)) (by first | exact Or.inl ⟨inferInstance, rfl⟩ | exact Or.inr inferInstance)) ?_
    rintro _ _ ⟨rfl, rfl⟩
    refine rg_nil ?_
    refine qg_then ?_
    refine cg_seq ?_
    refine cg_region ?_
    refine rg_q (.inl rfl) rfl rfl (by exact QW.qr (qw_assign rfl)) ?_
    refine rg_nil ?_
    refine qg_then ?_
    refine cg_ret ?_
    exact qg_end_sp (.inl rfl) _ (.cons (.tmp rfl) (.nil)) _ (cat_sub (ls' := [[(b, _)], Bs3]) (ls := [Bs3, [(b, _)], Bs, Bl]) (by repeat (first | exact SubM.nil | refine SubM.cons (by repeat (first | exact Ins.here | apply Ins.there)) ?_))) ⟨by rw [hfin] <;> rfl, _ :: (Bs3 ++ []), by rw [List.append_nil]; rfl, by rw [hfin]; exact ⟨_, _, Bs3, [], hos3, OwnL.nil, rfl⟩⟩

theorem rsync_ca (b : Nat) (s : Slab) (Bk : List Blk) (O : Out) (L : List Blk) (hs : RSlabAt b s Bk) (hsz : s.sure.length + s.loose.length ≤ 1000000) :
    CA Try.prog 53 [PT b] O (Bk ++ L) fun v L' => v = I (syncS s).2 ∧ ∃ Bk2, L' = Bk2 ++ L ∧ RSlabAt b (syncS s).1 Bk2 := by
  by_cases hdn : s.down = true
  · exact rsync_down b s Bk O L hs hdn
  · exact rsync_up b s Bk O L hs hdn hsz

theorem rerase_down (b : Nat) (s : Slab) (Bk : List Blk) (O : Out) (L : List Blk) (hs : RSlabAt b s Bk) (hdn : s.down = true) :
    CA Try.prog 55 [PT b] O (Bk ++ L) fun v L' => v = I (eraseS s).2 ∧ ∃ Bk2, L' = Bk2 ++ L ∧ RSlabAt b (eraseS s).1 Bk2 := by
  obtain ⟨sv, lv, Bs, Bl, hos, hol, rfl⟩ := hs
  show CA _ _ _ O (cat [_] L) _
  rw [slab_open]
  obtain ⟨ps, cs, rfl, hqs⟩ := id (hos.rd (fun _ => rfl) (by decide))
  obtain ⟨pl, cl, rfl, hql⟩ := id (hol.rd (fun _ => rfl) (by decide))
  unfold rslabBlk PT
  have hfin : eraseS s = (s, 5) := by rw [eraseS, if_pos hdn]
  refine ca_enter Try.func55 rfl rfl ?_
  rw [Try.ntmps55]
  simp only [envOf]
  refine cg_seq ?_
  refine cg_region ?_
  refine rg_q (.inl rfl) rfl rfl (by exact QW.qr (qw_assign rfl)) ?_
  refine rg_nil ?_
  refine qg_then ?_
  refine cg_seq ?_
  refine cg_seq ?_
  refine cg_region ?_
  refine rg_q (.inl rfl) rfl rfl (by exact QW.qr (qw_move rfl)) ?_
  refine rg_q (.inl rfl) rfl rfl (by exact QW.qr (qw_nilCheck rfl)) ?_
  refine rg_q (.inl rfl) rfl rfl (by exact QW.qr (qw_fieldAddr rfl)) ?_
  refine rg_q (.inl rfl) rfl rfl (by exact qr_val (qr_load1 rfl (by repeat (first | exact List.Mem.head _ | apply List.Mem.tail | apply List.mem_append_right | assumption)) rfl) (v2 := .bool true) (by rw [hdn])) ?_
  refine rg_q (.inl rfl) rfl rfl (by exact QW.qr (qw_move rfl)) ?_
  refine rg_s (guard_mk rfl rfl rfl rfl) rfl rfl ?_
  refine rg_s (guard_mk rfl rfl rfl rfl) rfl rfl ?_
  refine rg_s (guard_mk rfl rfl rfl rfl) rfl rfl ?_
  refine rg_q (.inl rfl) rfl rfl (by exact QW.qr (qw_pick_t rfl rfl)) ?_
  refine rg_nil ?_
  refine qg_then ?_
  refine cg_true rfl ?_
  refine cg_seq ?_
  refine cg_region ?_
  refine rg_q (.inl rfl) rfl rfl (by exact QW.qr (qw_assign rfl)) ?_
  refine rg_nil ?_
  refine qg_then ?_
  refine cg_ret ?_
  refine qg_then_ret ?_
  exact qg_end (.inl rfl) _ (.cons (.tmp rfl) (.nil)) _ (List.Sublist.refl _) ⟨by rw [hfin] <;> rfl, _, slab_close, by rw [hfin]; exact ⟨_, _, Bs, Bl, hos, hol, rfl⟩⟩

theorem rerase_up (b : Nat) (s : Slab) (Bk : List Blk) (O : Out) (L : List Blk) (hs : RSlabAt b s Bk) (hdn : ¬ s.down = true) (hsz : s.sure.length + s.loose.length ≤ 1000000) :
    CA Try.prog 55 [PT b] O (Bk ++ L) fun v L' => v = I (eraseS s).2 ∧ ∃ Bk2, L' = Bk2 ++ L ∧ RSlabAt b (eraseS s).1 Bk2 := by
  obtain ⟨sv, lv, Bs, Bl, hos, hol, rfl⟩ := hs
  show CA _ _ _ O (cat [_] L) _
  rw [slab_open]
  obtain ⟨ps, cs, rfl, hqs⟩ := id (hos.rd (fun _ => rfl) (by decide))
  obtain ⟨pl, cl, rfl, hql⟩ := id (hol.rd (fun _ => rfl) (by decide))
  have hdf : s.down = false := by simpa using hdn
  unfold rslabBlk PT
  refine ca_enter Try.func55 rfl rfl ?_
  rw [Try.ntmps55]
  simp only [envOf]
  refine cg_seq ?_
  refine cg_region ?_
  refine rg_q (.inl rfl) rfl rfl (by exact QW.qr (qw_assign rfl)) ?_
  refine rg_nil ?_
  refine qg_then ?_
  refine cg_seq ?_
  refine cg_seq ?_
  refine cg_region ?_
  refine rg_q (.inl rfl) rfl rfl (by exact QW.qr (qw_move rfl)) ?_
  refine rg_q (.inl rfl) rfl rfl (by exact QW.qr (qw_nilCheck rfl)) ?_
  refine rg_q (.inl rfl) rfl rfl (by exact QW.qr (qw_fieldAddr rfl)) ?_
  refine rg_q (.inl rfl) rfl rfl (by exact qr_val (qr_load1 rfl (by repeat (first | exact List.Mem.head _ | apply List.Mem.tail | apply List.mem_append_right | assumption)) rfl) (v2 := .bool false) (by rw [hdf])) ?_
  refine rg_q (.inl rfl) rfl rfl (by exact QW.qr (qw_move rfl)) ?_
  refine rg_q (.inr (guard_mk rfl rfl rfl rfl)) rfl rfl (by exact QW.qr (qw_move rfl)) ?_
  refine rg_e (.inr (guard_mk rfl rfl rfl rfl)) rfl rfl (by exact ev_call0 rfl (.cons rfl (.nil)) (rstep_ca b _ _ s O _)) ?_
  rintro _ _ ⟨rfl, rfl⟩
  generalize hst : stepS s = st
  have hsame := stepS_same s
  have h05 := stepS_01 s
  rw [hst] at hsame h05
  obtain ⟨s1, e1⟩ := st
  obtain ⟨hsu, hlo⟩ := hsame
  replace hsu : s1.sure = s.sure := hsu
  replace hlo : s1.loose = s.loose := hlo
  replace h05 : e1 = 0 ∨ e1 = 5 := h05
  rcases h05 with he | he
  rotate_left
  · skip
    subst he
    have hfin : eraseS s = (s1, 5) := by rw [eraseS, if_neg hdn, hst]; rfl
    simp only [show decide ((5 : Int) = 0) = false from rfl]
    refine rg_q (.inr (guard_mk rfl rfl rfl rfl)) rfl rfl (by exact QW.qr (qw_not rfl)) ?_
    refine rg_q (.inl rfl) rfl rfl (by exact QW.qr (qw_pick_f rfl rfl)) ?_
    refine rg_nil ?_
    refine qg_then ?_
    refine cg_true rfl ?_
    refine cg_seq ?_
    refine cg_region ?_
    refine rg_q (.inl rfl) rfl rfl (by exact QW.qr (qw_assign rfl)) ?_
    refine rg_nil ?_
    refine qg_then ?_
    refine cg_ret ?_
    refine qg_then_ret ?_
    exact qg_end (.inl rfl) _ (.cons (.tmp rfl) (.nil)) _ (List.Sublist.refl _) ⟨by rw [hfin] <;> rfl, _, slab_close, by rw [hfin]; exact ⟨_, _, Bs, Bl, by rw [hsu]; exact hos, by rw [hlo]; exact hol, rfl⟩⟩
  · skip
    subst he
    have hfin : eraseS s = (⟨[], [], s1.steps, s1.fuse, s1.down⟩, 0) := by rw [eraseS, if_neg hdn, hst, if_neg (fun h => h rfl)] <;> simp [hsu, hlo]
    simp only [show decide ((0 : Int) = 0) = true from rfl]
    refine rg_q (.inr (guard_mk rfl rfl rfl rfl)) rfl rfl (by exact QW.qr (qw_not rfl)) ?_
    refine rg_q (.inl rfl) rfl rfl (by exact QW.qr (qw_pick_f rfl rfl)) ?_
    refine rg_nil ?_
    refine qg_then ?_
    refine cg_false rfl ?_
    refine cg_skip ?_
    refine qg_then ?_
    refine cg_seq ?_
    unfold rslabBlk
    refine cg_region ?_
    refine rg_q (.inl rfl) rfl rfl (by exact QW.qr (qw_move rfl)) ?_
    refine rg_q (.inl rfl) rfl rfl (by exact QW.qr (qw_nilCheck rfl)) ?_
    refine rg_q (.inl rfl) rfl rfl (by exact QW.qr (qw_fieldAddr rfl)) ?_
    refine rg_e0 (.inl rfl) rfl (by exact ev_store rfl rfl (by first | exact CellsOf.agg | exact CellsOf.one rfl) (by repeat (first | exact List.Mem.head _ | apply List.Mem.tail | apply List.mem_append_right | assumption)) (by repeat (first | exact SetSeg.done | apply SetSeg.take | apply SetSeg.skip)) rfl rfl (by repeat (first | exact Upd.here | apply Upd.there | apply Upd.app)) (by first | exact Or.inl ⟨inferInstance, rfl⟩ | exact Or.inr inferInstance)) ?_
    rintro _ _ ⟨rfl, rfl⟩
    refine rg_nil ?_
    refine qg_then ?_
    refine cg_seq ?_
    refine cg_region ?_
    refine rg_q (.inl rfl) rfl rfl (by exact QW.qr (qw_move rfl)) ?_
    refine rg_q (.inl rfl) rfl rfl (by exact QW.qr (qw_nilCheck rfl)) ?_
    refine rg_q (.inl rfl) rfl rfl (by exact QW.qr (qw_fieldAddr rfl)) ?_
    refine rg_e0 (.inl rfl) rfl (by exact ev_store rfl rfl (by first | exact CellsOf.agg | exact CellsOf.one rfl) (by repeat (first | exact List.Mem.head _ | apply List.Mem.tail | apply List.mem_append_right | assumption)) (by repeat (first | exact SetSeg.done | apply SetSeg.take | apply SetSeg.skip)) rfl rfl (by repeat (first | exact Upd.here | apply Upd.there | apply Upd.app)) (by first | exact Or.inl ⟨inferInstance, rfl⟩ | exact Or.inr inferInstance)) ?_
    rintro _ _ ⟨rfl, rfl⟩
    refine rg_nil ?_
    refine qg_then ?_
    refine cg_seq ?_
    refine cg_region ?_
    refine rg_q (.inl rfl) rfl rfl (by exact QW.qr (qw_assign rfl)) ?_
    refine rg_nil ?_
    refine qg_then ?_
    refine cg_ret ?_
    exact qg_end_sp (.inl rfl) _ (.cons (.tmp rfl) (.nil)) _ (cat_sub (ls' := [[(b, _)]]) (ls := [[(b, _)], Bs, Bl]) (by repeat (first | exact SubM.nil | refine SubM.cons (by repeat (first | exact Ins.here | apply Ins.there)) ?_))) ⟨by rw [hfin] <;> rfl, [_], rfl, by rw [hfin]; exact ⟨_, _, [], [], OwnL.nil, OwnL.nil, rfl⟩⟩

theorem rerase_ca (b : Nat) (s : Slab) (Bk : List Blk) (O : Out) (L : List Blk) (hs : RSlabAt b s Bk) (hsz : s.sure.length + s.loose.length ≤ 1000000) :
    CA Try.prog 55 [PT b] O (Bk ++ L) fun v L' => v = I (eraseS s).2 ∧ ∃ Bk2, L' = Bk2 ++ L ∧ RSlabAt b (eraseS s).1 Bk2 := by
  by_cases hdn : s.down = true
  · exact rerase_down b s Bk O L hs hdn
  · exact rerase_up b s Bk O L hs hdn hsz

theorem rread_down (b : Nat) (s : Slab) (Bk : List Blk) (O : Out) (L : List Blk) (hs : RSlabAt b s Bk) (hdn : s.down = true) :
    CA Try.prog 45 [PT b] O (Bk ++ L) fun v L' => v = .tuple #[.slice none 0 0, I 5] ∧ L' = Bk ++ L := by
  obtain ⟨sv, lv, Bs, Bl, hos, hol, rfl⟩ := hs
  show CA _ _ _ O (cat [_] L) _
  rw [slab_open]
  obtain ⟨ps, cs, rfl, hqs⟩ := id (hos.rd (fun _ => rfl) (by decide))
  obtain ⟨pl, cl, rfl, hql⟩ := id (hol.rd (fun _ => rfl) (by decide))
  unfold rslabBlk PT
  refine ca_enter Try.func45 rfl rfl ?_
  rw [Try.ntmps45]
  simp only [envOf]
  refine cg_seq ?_
  refine cg_region ?_
  refine rg_q (.inl rfl) rfl rfl (by exact QW.qr (qw_assign rfl)) ?_
  refine rg_q (.inl rfl) rfl rfl (by exact QW.qr (qw_assign rfl)) ?_
  refine rg_nil ?_
  refine qg_then ?_
  refine cg_seq ?_
  refine cg_seq ?_
  refine cg_region ?_
  refine rg_q (.inl rfl) rfl rfl (by exact QW.qr (qw_move rfl)) ?_
  refine rg_q (.inl rfl) rfl rfl (by exact QW.qr (qw_nilCheck rfl)) ?_
  refine rg_q (.inl rfl) rfl rfl (by exact QW.qr (qw_fieldAddr rfl)) ?_
  refine rg_q (.inl rfl) rfl rfl (by exact qr_val (qr_load1 rfl (by repeat (first | exact List.Mem.head _ | apply List.Mem.tail | apply List.mem_append_right | assumption)) rfl) (v2 := .bool true) (by rw [hdn])) ?_
  refine rg_nil ?_
  refine qg_then ?_
  refine cg_true rfl ?_
  refine cg_seq ?_
  refine cg_region ?_
  refine rg_q (.inl rfl) rfl rfl (by exact QW.qr (qw_assign rfl)) ?_
  refine rg_q (.inl rfl) rfl rfl (by exact QW.qr (qw_assign rfl)) ?_
  refine rg_nil ?_
  refine qg_then ?_
  refine cg_ret ?_
  refine qg_then_ret ?_
  exact qg_end (.inl rfl) _ (.cons (.tmp rfl) (.cons (.tmp rfl) (.nil))) _ (List.Sublist.refl _) ⟨rfl, slab_close⟩

theorem rread_up (b : Nat) (s : Slab) (Bk : List Blk) (O : Out) (L : List Blk) (hs : RSlabAt b s Bk) (hdn : ¬ s.down = true) (hsz : s.sure.length + s.loose.length ≤ 1000000) :
    CA Try.prog 45 [PT b] O (Bk ++ L) fun v L' => ∃ rv B, v = .tuple #[rv, I 0] ∧ L' = B ++ (Bk ++ L) ∧ OwnL 5 encB 1 rv (s.sure ++ s.loose) B := by
  obtain ⟨sv, lv, Bs, Bl, hos, hol, rfl⟩ := hs
  show CA _ _ _ O (cat [_] L) _
  rw [slab_open]
  obtain ⟨ps, cs, rfl, hqs⟩ := id (hos.rd (fun _ => rfl) (by decide))
  obtain ⟨pl, cl, rfl, hql⟩ := id (hol.rd (fun _ => rfl) (by decide))
  have hdf : s.down = false := by simpa using hdn
  unfold rslabBlk PT
  refine ca_enter Try.func45 rfl rfl ?_
  rw [Try.ntmps45]
  simp only [envOf]
  refine cg_seq ?_
  refine cg_region ?_
  refine rg_q (.inl rfl) rfl rfl (by exact QW.qr (qw_assign rfl)) ?_
  refine rg_q (.inl rfl) rfl rfl (by exact QW.qr (qw_assign rfl)) ?_
  refine rg_nil ?_
  refine qg_then ?_
  refine cg_seq ?_
  refine cg_seq ?_
  refine cg_region ?_
  refine rg_q (.inl rfl) rfl rfl (by exact QW.qr (qw_move rfl)) ?_
  refine rg_q (.inl rfl) rfl rfl (by exact QW.qr (qw_nilCheck rfl)) ?_
  refine rg_q (.inl rfl) rfl rfl (by exact QW.qr (qw_fieldAddr rfl)) ?_
  refine rg_q (.inl rfl) rfl rfl (by exact qr_val (qr_load1 rfl (by repeat (first | exact List.Mem.head _ | apply List.Mem.tail | apply List.mem_append_right | assumption)) rfl) (v2 := .bool false) (by rw [hdf])) ?_
  refine rg_nil ?_
  refine qg_then ?_
  refine cg_false rfl ?_
  refine cg_skip ?_
  refine qg_then ?_
  refine cg_seq ?_
  refine cg_draw follows (.op 1 false (.op 2 false (.op 3 false (.op 4 false (.op 6 false (.op 7 false (.op 8 false (.op 9 false (.op 0 true (.op 5 true (.op 10 false (.op 11 false (.op 12 false .done))))))))))))) _ (by kernel_rfl) (SubP.of (List.Sublist.refl _)) ?_
  refine dg_w rfl rfl (.inl rfl) rfl rfl (by exact qw_move rfl) ?_
  refine dg_w rfl rfl (.inl rfl) rfl rfl (by exact qw_nilCheck rfl) ?_
  refine dg_w rfl rfl (.inl rfl) rfl rfl (by exact qw_fieldAddr rfl) ?_
  refine dg_r rfl rfl rfl (.inl rfl) rfl rfl (by exact qr_load1 rfl (by repeat (first | exact List.Mem.head _ | apply List.Mem.tail | apply List.mem_append_right | assumption)) rfl) ?_
  refine dg_w rfl rfl (.inl rfl) rfl rfl (by exact qw_move rfl) ?_
  refine dg_w rfl rfl (.inl rfl) rfl rfl (by exact qw_nilCheck rfl) ?_
  refine dg_w rfl rfl (.inl rfl) rfl rfl (by exact qw_fieldAddr rfl) ?_
  refine dg_r rfl rfl rfl (.inl rfl) rfl rfl (by exact qr_load1 rfl (by repeat (first | exact List.Mem.head _ | apply List.Mem.tail | apply List.mem_append_right | assumption)) rfl) ?_
  refine dg_e rfl rfl (.inl rfl) rfl rfl (by exact ev_buildSlice (.nil) rfl (by first | exact CellsOf.agg | exact CellsOf.one rfl) (by rfl) (.nil)) ?_
  rintro _ _ ⟨b8, rfl, rfl⟩
  refine ⟨(SubP.of (List.sublist_cons_self _ _)), ?_⟩
  rw [rep8]
  refine dg_e rfl rfl (.inl rfl) rfl rfl (by exact ev_appendL (xs := []) (ys := s.sure) (T := 36) (T2 := 36) (B := [(b8, _)]) (.cons rfl (.cons rfl .nil)) rfl rfl (own0B b8) (R := cat [[(b, _)], Bs, Bl] L) (List.Perm.refl _) ((hos.rd (fun _ => rfl) (by decide)).mono (fun q hq => mem_cat (s := Bs) (by repeat (first | exact List.Mem.head _ | apply List.Mem.tail)) hq)).src (fun _ => rfl) encB_one (by simp only [List.length_nil]; omega) rfl rfl rfl rfl) ?_
  rintro sv2 _ ⟨Bs2, hos2, rfl⟩
  refine ⟨(SubP.of (by repeat (first | exact List.Sublist.refl _ | exact List.nil_sublist _ | exact List.sublist_append_right _ _ | apply List.Sublist.cons_cons | apply List.Sublist.cons | refine List.Sublist.trans ?_ (List.sublist_append_right _ _)))), ?_⟩
  refine dg_g rfl rfl (.inl rfl) rfl rfl (by exact ev_appendL (xs := s.sure) (ys := s.loose) (T := 36) (T2 := 36) (.cons rfl (.cons rfl .nil)) rfl rfl hos2 (R := cat [[(b, _)], Bs, Bl] L) (List.Perm.refl _) ((hol.rd (fun _ => rfl) (by decide)).mono (fun q hq => mem_cat (s := Bl) (by repeat (first | exact List.Mem.head _ | apply List.Mem.tail)) hq)).src (fun _ => rfl) encB_one (by omega) rfl rfl rfl rfl) ?_
  rintro rv _ ⟨Br, hor, rfl⟩
  refine dg_w rfl rfl (.inl rfl) rfl rfl (by exact qw_assign rfl) ?_
  refine dg_w rfl rfl (.inl rfl) rfl rfl (by exact qw_assign rfl) ?_
  refine dg_nil ?_
  refine qg_then ?_
  refine cg_ret ?_
  exact qg_end (.inl rfl) _ (.cons (.tmp rfl) (.cons (.tmp rfl) (.nil))) _ (List.Sublist.refl _) ⟨rv, Br, rfl, congrArg (Br ++ ·) slab_close, hor⟩

end Go.Proofs.Ytcbbogaanebefaa