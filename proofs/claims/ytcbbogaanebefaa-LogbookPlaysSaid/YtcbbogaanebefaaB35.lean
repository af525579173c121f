/-
  THE WALKS of the document's slab's Crash; of slab's Loose, Steps, Down, logbook's Dead; of the laws' Does and Is. Conditions: sizes.
-/
import Derived.Test.YtcbbogaanebefaaB34
namespace Go.Proofs.Ytcbbogaanebefaa
open Fw
open Go.Proofs (encStr)
set_option linter.unusedVariables false
set_option linter.unusedSimpArgs false
set_option maxRecDepth 100000
set_option maxHeartbeats 2000000

/-! ### what power leaves, byte by byte -/
def crashI (s : Slab) (keep zeros : Int) (i : Nat) : Bytes :=
  s.sure ++ (s.loose.take (min i (keepN keep s.loose.length)) ++ List.replicate (min (i - keepN keep s.loose.length) (keepN zeros (s.loose.length - keepN keep s.loose.length))) 0)
theorem crashI_zero (s : Slab) (keep zeros : Int) : crashI s keep zeros 0 = s.sure := by simp [crashI]
theorem crashI_end (s : Slab) (keep zeros : Int) : crashI s keep zeros s.loose.length = (crashS s keep zeros).sure := by
  have h1 := keepN_le keep s.loose.length
  have h2 := keepN_le zeros (s.loose.length - keepN keep s.loose.length)
  unfold crashI crashS
  rw [Nat.min_eq_right h1, Nat.min_eq_right h2, List.append_assoc]
theorem crashI_keep {s : Slab} {keep zeros : Int} {i : Nat} (hi : i < s.loose.length) (hk : (i : Int) < keep) : crashI s keep zeros (i + 1) = crashI s keep zeros i ++ [s.loose[i]] := by
  have hK : i < keepN keep s.loose.length := by unfold keepN; omega
  unfold crashI
  generalize keepN zeros (s.loose.length - keepN keep s.loose.length) = Z
  generalize keepN keep s.loose.length = K at hK
  rw [show min (i + 1) K = i + 1 from by omega, show min i K = i from by omega, show i + 1 - K = 0 from by omega, show i - K = 0 from by omega, List.take_succ_eq_append_getElem hi]
  simp
theorem crashI_more {s : Slab} {keep zeros : Int} {i : Nat} (hi : i < s.loose.length) (hk : ¬ (i : Int) < keep) (hz : (keep < 0 ∧ (i : Int) < zeros) ∨ (0 ≤ keep ∧ (i : Int) - keep < zeros)) : crashI s keep zeros (i + 1) = crashI s keep zeros i ++ [0] := by
  have hK : keepN keep s.loose.length ≤ i := by unfold keepN; omega
  have hZ : i - keepN keep s.loose.length < keepN zeros (s.loose.length - keepN keep s.loose.length) := by unfold keepN at *; omega
  unfold crashI
  generalize keepN zeros (s.loose.length - keepN keep s.loose.length) = Z at hZ
  generalize keepN keep s.loose.length = K at hK hZ
  rw [show min (i + 1) K = K from by omega, show min i K = K from by omega, show i + 1 - K = (i - K) + 1 from by omega, show min (i - K + 1) Z = (i - K) + 1 from by omega, show min (i - K) Z = i - K from by omega, List.replicate_succ']
  simp
theorem crashI_less {s : Slab} {keep zeros : Int} {i : Nat} (hi : i < s.loose.length) (hk : ¬ (i : Int) < keep) (hz : ¬ ((keep < 0 ∧ (i : Int) < zeros) ∨ (0 ≤ keep ∧ (i : Int) - keep < zeros))) : crashI s keep zeros (i + 1) = crashI s keep zeros i := by
  have hK : keepN keep s.loose.length ≤ i := by unfold keepN; omega
  have hZ : keepN zeros (s.loose.length - keepN keep s.loose.length) ≤ i - keepN keep s.loose.length := by unfold keepN at *; omega
  unfold crashI
  generalize keepN zeros (s.loose.length - keepN keep s.loose.length) = Z at hZ
  generalize keepN keep s.loose.length = K at hK hZ
  rw [show min (i + 1) K = K from by omega, show min i K = K from by omega, show min (i + 1 - K) Z = Z from by omega, show min (i - K) Z = Z from by omega]
theorem crashI_len (s : Slab) (keep zeros : Int) (i : Nat) : (crashI s keep zeros i).length ≤ s.sure.length + s.loose.length := by
  have h1 := keepN_le keep s.loose.length
  have h2 := keepN_le zeros (s.loose.length - keepN keep s.loose.length)
  unfold crashI
  rw [List.length_append, List.length_append, List.length_take, List.length_replicate]
  omega

theorem rcrash_ca (b : Nat) (s : Slab) (Bk : List Blk) (keep zeros : Int) (O : Out) (L : List Blk) (hs : RSlabAt b s Bk) (hsz : s.sure.length + s.loose.length ≤ 900000) :
    CA Try.prog 56 [PT b, I keep, I zeros] O (Bk ++ L) fun v L' => v = .tuple #[] ∧ ∃ Bk2, L' = Bk2 ++ L ∧ RSlabAt b (crashS s keep zeros) Bk2 := by
  obtain ⟨sv, lv, Bs, Bl, hos, hol, rfl⟩ := hs
  show CA _ _ _ O (cat [_] L) _
  rw [slab_open]
  obtain ⟨ps, cs, rfl, hqs⟩ := id (hos.rd (fun _ => rfl) (by decide))
  obtain ⟨pl, cl, rfl, _, _, _, hRl⟩ := id (hol.rd (fun _ => rfl) (by decide))
  unfold rslabBlk PT
  refine ca_enter Try.func56 rfl rfl ?_
  rw [Try.ntmps56]
  simp only [envOf]
  refine cg_seq ?_
  refine cg_region ?_
  refine rg_e (.inl rfl) rfl rfl (by exact ev_buildSlice (.nil) rfl (by first | exact CellsOf.agg | exact CellsOf.one rfl) (by rfl) (.nil)) ?_
  rintro _ _ ⟨b8, rfl, rfl⟩
  refine rg_q (.inl rfl) rfl rfl (by exact QW.qr (qw_move rfl)) ?_
  refine rg_q (.inl rfl) rfl rfl (by exact QW.qr (qw_nilCheck rfl)) ?_
  refine rg_q (.inl rfl) rfl rfl (by exact QW.qr (qw_fieldAddr rfl)) ?_
  refine rg_q (.inl rfl) rfl rfl (by exact qr_load1 rfl (by repeat (first | exact List.Mem.head _ | apply List.Mem.tail | apply List.mem_append_right | assumption)) rfl) ?_
  rw [rep8]
  refine rg_e (.inl rfl) rfl rfl (by exact ev_appendL (xs := []) (ys := s.sure) (T := 36) (T2 := 36) (B := [(b8, _)]) (.cons rfl (.cons rfl .nil)) rfl rfl (own0B b8) (R := cat [[(b, _)], Bs, Bl] L) (List.Perm.refl _) ((hos.rd (fun _ => rfl) (by decide)).mono (fun q hq => mem_cat (s := Bs) (by repeat (first | exact List.Mem.head _ | apply List.Mem.tail)) hq)).src (fun _ => rfl) encB_one (by simp only [List.length_nil]; omega) rfl rfl rfl rfl) ?_
  rintro ov0 _ ⟨B0, hown0, rfl⟩
  refine rg_q (.inl rfl) rfl rfl (by exact QW.qr (qw_assign rfl)) ?_
  refine rg_nil ?_
  refine qg_then ?_
  refine cg_seq ?_
  refine cg_seq ?_
  refine cg_region ?_
  refine rg_q (.inl rfl) rfl rfl (by exact QW.qr (qw_assign rfl)) ?_
  refine rg_nil ?_
  refine qg_then ?_
  refine cg_block ?_
  refine cg_loop (fun E' L' m => ∃ (i : Nat) (ov : Value) (B : List Blk), i ≤ s.loose.length ∧ OwnL 5 encB 1 ov (crashI s keep zeros i) B ∧ E' = [(0, PT b), (1, I keep), (2, I zeros), (6, ov), (7, I i)] ∧ L' = cat [B, [rslabBlk b (.slice ps s.sure.length cs) (.slice pl s.loose.length cl) s], Bs, Bl] L ∧ m = s.loose.length - i)
    _ _ _ ⟨0, _, B0, by omega, by rw [crashI_zero]; exact hown0, rfl, rfl, rfl⟩ (by repeat (first | exact Sub.nil | refine Sub.cons rfl ?_ | refine Sub.cons (congrArg (fun z => some (Value.int IntKind.i64 z)) (by omega)) ?_)) (List.Perm.refl _) ?_
  rintro _ _ _ ⟨i, ov, B, hi, hown, rfl, rfl, rfl⟩
  obtain ⟨po, co, rfl, _⟩ := id (hown.rd (fun _ => rfl) (by decide))
  have hlen := crashI_len s keep zeros i
  unfold rslabBlk PT
  refine cg_seq ?_
  refine cg_seq ?_
  refine cg_region ?_
  refine rg_q (.inl rfl) rfl rfl (by exact QW.qr (qw_move rfl)) ?_
  refine rg_q (.inl rfl) rfl rfl (by exact QW.qr (qw_move rfl)) ?_
  refine rg_q (.inl rfl) rfl rfl (by exact QW.qr (qw_nilCheck rfl)) ?_
  refine rg_q (.inl rfl) rfl rfl (by exact QW.qr (qw_fieldAddr rfl)) ?_
  refine rg_q (.inl rfl) rfl rfl (by exact qr_load1 rfl (by repeat (first | exact List.Mem.head _ | apply List.Mem.tail | apply List.mem_append_right | assumption)) rfl) ?_
  refine rg_q (.inl rfl) rfl rfl (by exact QW.qr (qw_len_slice (t := 36) (.cons rfl (.nil)) rfl)) ?_
  refine rg_split (.inl rfl) rfl rfl (by exact qc_lss rfl rfl) ?_ ?_
  · intro hlt
    have hil : i < s.loose.length := by omega
    obtain ⟨bN, oN, AN, tN, fN, rfl, hmN, hsN⟩ := hRl (by omega)
    have hg0 : AN[oN + (i : Int).toNat * 1]? = some (.int .u8 (s.loose[i].toNat : Int)) := by
      rw [show oN + (i : Int).toNat * 1 = oN + i from by omega]
      exact seg_b hsN (List.getElem?_eq_getElem hil) rfl
    refine rg_nil ?_
    refine qg_then ?_
    refine cg_true rfl ?_
    refine cg_skip ?_
    refine qg_then ?_
    refine cg_seq ?_
    refine cg_block ?_
    refine cg_seq ?_
    refine cg_seq ?_
    refine cg_region ?_
    refine rg_q (.inl rfl) rfl rfl (by exact QW.qr (qw_move rfl)) ?_
    refine rg_q (.inl rfl) rfl rfl (by exact QW.qr (qw_move rfl)) ?_
    refine rg_split (.inl rfl) rfl rfl (by exact qc_lss rfl rfl) ?_ ?_
    · intro hik
      refine rg_nil ?_
      refine qg_then ?_
      refine cg_true rfl ?_
      refine cg_seq ?_
      refine cg_region ?_
      refine rg_q (.inl rfl) rfl rfl (by exact QW.qr (qw_move rfl)) ?_
      refine rg_q (.inl rfl) rfl rfl (by exact QW.qr (qw_move rfl)) ?_
      refine rg_q (.inl rfl) rfl rfl (by exact QW.qr (qw_nilCheck rfl)) ?_
      refine rg_q (.inl rfl) rfl rfl (by exact QW.qr (qw_fieldAddr rfl)) ?_
      refine rg_q (.inl rfl) rfl rfl (by exact qr_load1 rfl (by repeat (first | exact List.Mem.head _ | apply List.Mem.tail | apply List.mem_append_right | assumption)) rfl) ?_
      refine rg_q (.inl rfl) rfl rfl (by exact QW.qr (qw_move rfl)) ?_
      refine rg_q (.inl rfl) rfl rfl (by exact QW.qr (qw_indexAddr rfl rfl (by omega) (by omega))) ?_
      refine rg_q (.inl rfl) rfl rfl (by exact qr_load1' rfl (mem_cat (ls := [B, [(b, _)], Bs, Bl]) (s := Bl) (by repeat (first | exact List.Mem.head _ | apply List.Mem.tail)) hmN) hg0) ?_
      refine rg_e (.inl rfl) rfl rfl (by exact ev_buildSlice (.cons rfl (.nil)) rfl (by first | exact CellsOf.agg | exact CellsOf.one rfl) (by rfl) (.cons rfl (by first | exact CellsOf.agg | exact CellsOf.one rfl) (by repeat (first | exact SetSeg.done | apply SetSeg.take | apply SetSeg.skip)) (by rfl) (by rfl) (.nil))) ?_
      rintro _ _ ⟨b34, rfl, rfl⟩
      refine rg_e (.inl rfl) rfl rfl (by exact ev_appendL (ys := [s.loose[i]]) (T := 36) (T2 := 36) (.cons rfl (.cons rfl .nil)) rfl rfl hown (R := cat [[(b34, _)], [(b, _)], Bs, Bl] L) (cat_perm (ls' := [B, [(b34, _)], [(b, _)], Bs, Bl]) (ls := [[(b34, _)], B, [(b, _)], Bs, Bl]) (by repeat (first | exact PermM.nil | refine PermM.cons (by repeat (first | exact Ins.here | apply Ins.there)) ?_))) (.row (List.Mem.head _) (SegL.seg (m := 1) (by repeat (first | exact SegL.done | apply SegL.take | apply SegL.skip))).1 rfl) (fun _ => rfl) encB_one (by simp only [List.length_cons, List.length_nil]; omega) rfl rfl rfl rfl) ?_
      rintro ov2 _ ⟨B2, hown2, rfl⟩
      obtain ⟨po2, co2, rfl, _⟩ := id (hown2.rd (fun _ => rfl) (by decide))
      refine rg_q (.inl rfl) rfl rfl (by exact QW.qr (qw_assign rfl)) ?_
      refine rg_nil ?_
      refine qg_then ?_
      refine cg_exit ?_
      refine qg_then_exit ?_
      refine qg_block_here ?_
      refine qg_then ?_
      refine cg_region ?_
      refine rg_q (.inl rfl) rfl rfl (by exact QW.qr (qw_move rfl)) ?_
      refine rg_q (.inl rfl) rfl rfl (by exact QW.qr (qw_add_in rfl rfl (by unfold inK; omega))) ?_
      refine rg_q (.inl rfl) rfl rfl (by exact QW.qr (qw_assign rfl)) ?_
      refine rg_nil ?_
      exact qg_round_sp _ _ _ ⟨i + 1, _, B2, by omega, by rw [crashI_keep hil hik]; exact hown2, rfl, rfl, rfl⟩ (by repeat (first | exact Sub.nil | refine Sub.cons rfl ?_ | refine Sub.cons (congrArg (fun z => some (Value.int IntKind.i64 z)) (by omega)) ?_)) (cat_sub (ls' := [B2, [(b, _)], Bs, Bl]) (ls := [B2, [(b34, _)], [(b, _)], Bs, Bl]) (by repeat (first | exact SubM.nil | refine SubM.cons (by repeat (first | exact Ins.here | apply Ins.there)) ?_))) (by omega)
    · intro hik
      refine rg_nil ?_
      refine qg_then ?_
      refine cg_false rfl ?_
      refine cg_skip ?_
      refine qg_then ?_
      refine cg_seq ?_
      refine cg_region ?_
      refine rg_q (.inl rfl) rfl rfl (by exact QW.qr (qw_move rfl)) ?_
      refine rg_split (.inl rfl) rfl rfl (by exact qc_lss rfl rfl) ?_ ?_
      · intro hk
        refine rg_q (.inl rfl) rfl rfl (by exact QW.qr (qw_move rfl)) ?_
        refine rg_q (.inr (guard_mk rfl rfl rfl rfl)) rfl rfl (by exact QW.qr (qw_move rfl)) ?_
        refine rg_q (.inr (guard_mk rfl rfl rfl rfl)) rfl rfl (by exact QW.qr (qw_move rfl)) ?_
        refine rg_split (.inr (guard_mk rfl rfl rfl rfl)) rfl rfl (by exact qc_lss rfl rfl) ?_ ?_
        · intro hz
          have hz2 : (keep < 0 ∧ (i : Int) < zeros) ∨ (0 ≤ keep ∧ (i : Int) - keep < zeros) := .inl ⟨hk, hz⟩
          refine rg_q (.inl rfl) rfl rfl (by exact QW.qr (qw_pick_t rfl rfl)) ?_
          refine rg_q (.inl rfl) rfl rfl (by exact QW.qr (qw_move rfl)) ?_
          refine rg_s (guard_mk rfl rfl rfl rfl) rfl rfl ?_
          refine rg_s (guard_mk rfl rfl rfl rfl) rfl rfl ?_
          refine rg_s (guard_mk rfl rfl rfl rfl) rfl rfl ?_
          refine rg_s (guard_un rfl rfl rfl) rfl rfl ?_
          refine rg_s (guard_un rfl rfl rfl) rfl rfl ?_
          refine rg_s (guard_un rfl rfl rfl) rfl rfl ?_
          refine rg_s (guard_un rfl rfl rfl) rfl rfl ?_
          refine rg_s (guard_un rfl rfl rfl) rfl rfl ?_
          refine rg_s (guard_mk rfl rfl rfl rfl) rfl rfl ?_
          refine rg_q (.inl rfl) rfl rfl (by exact QW.qr (qw_pick_t rfl rfl)) ?_
          refine rg_nil ?_
          refine qg_then ?_
          refine cg_true rfl ?_
          refine cg_region ?_
          refine rg_q (.inl rfl) rfl rfl (by exact QW.qr (qw_move rfl)) ?_
          refine rg_e (.inl rfl) rfl rfl (by exact ev_buildSlice (.cons rfl (.nil)) rfl (by first | exact CellsOf.agg | exact CellsOf.one rfl) (by rfl) (.cons rfl (by first | exact CellsOf.agg | exact CellsOf.one rfl) (by repeat (first | exact SetSeg.done | apply SetSeg.take | apply SetSeg.skip)) (by rfl) (by rfl) (.nil))) ?_
          rintro _ _ ⟨b55, rfl, rfl⟩
          refine rg_e (.inl rfl) rfl rfl (by exact ev_appendL (ys := [0]) (T := 36) (T2 := 36) (.cons rfl (.cons rfl .nil)) rfl rfl hown (R := cat [[(b55, _)], [(b, _)], Bs, Bl] L) (cat_perm (ls' := [B, [(b55, _)], [(b, _)], Bs, Bl]) (ls := [[(b55, _)], B, [(b, _)], Bs, Bl]) (by repeat (first | exact PermM.nil | refine PermM.cons (by repeat (first | exact Ins.here | apply Ins.there)) ?_))) (.row (List.Mem.head _) (SegL.seg (m := 1) (by repeat (first | exact SegL.done | apply SegL.take | apply SegL.skip))).1 rfl) (fun _ => rfl) encB_one (by simp only [List.length_cons, List.length_nil]; omega) rfl rfl rfl rfl) ?_
          rintro ov2 _ ⟨B2, hown2, rfl⟩
          obtain ⟨po2, co2, rfl, _⟩ := id (hown2.rd (fun _ => rfl) (by decide))
          refine rg_q (.inl rfl) rfl rfl (by exact QW.qr (qw_assign rfl)) ?_
          refine rg_nil ?_
          refine qg_block ?_
          refine qg_then ?_
          refine cg_region ?_
          refine rg_q (.inl rfl) rfl rfl (by exact QW.qr (qw_move rfl)) ?_
          refine rg_q (.inl rfl) rfl rfl (by exact QW.qr (qw_add_in rfl rfl (by unfold inK; omega))) ?_
          refine rg_q (.inl rfl) rfl rfl (by exact QW.qr (qw_assign rfl)) ?_
          refine rg_nil ?_
          exact qg_round_sp _ _ _ ⟨i + 1, _, B2, by omega, by rw [crashI_more hil hik hz2]; exact hown2, rfl, rfl, rfl⟩ (by repeat (first | exact Sub.nil | refine Sub.cons rfl ?_ | refine Sub.cons (congrArg (fun z => some (Value.int IntKind.i64 z)) (by omega)) ?_)) (cat_sub (ls' := [B2, [(b, _)], Bs, Bl]) (ls := [B2, [(b55, _)], [(b, _)], Bs, Bl]) (by repeat (first | exact SubM.nil | refine SubM.cons (by repeat (first | exact Ins.here | apply Ins.there)) ?_))) (by omega)
        · intro hz
          have hz2 : ¬ ((keep < 0 ∧ (i : Int) < zeros) ∨ (0 ≤ keep ∧ (i : Int) - keep < zeros)) := by omega
          refine rg_q (.inl rfl) rfl rfl (by exact QW.qr (qw_pick_t rfl rfl)) ?_
          refine rg_q (.inl rfl) rfl rfl (by exact QW.qr (qw_move rfl)) ?_
          refine rg_q (.inr (guard_mk rfl rfl rfl rfl)) rfl rfl (by exact QW.qr (qw_move rfl)) ?_
          refine rg_q (.inr (guard_mk rfl rfl rfl rfl)) rfl rfl (by exact QW.qr (qw_geq_f rfl rfl (by omega))) ?_
          refine rg_q (.inr (guard_mk rfl rfl rfl rfl)) rfl rfl (by exact QW.qr (qw_move rfl)) ?_
          refine rg_s (guard_mk rfl rfl rfl rfl) rfl rfl ?_
          refine rg_s (guard_mk rfl rfl rfl rfl) rfl rfl ?_
          refine rg_s (guard_mk rfl rfl rfl rfl) rfl rfl ?_
          refine rg_s (guard_mk rfl rfl rfl rfl) rfl rfl ?_
          refine rg_s (guard_mk rfl rfl rfl rfl) rfl rfl ?_
          refine rg_q (.inr (guard_mk rfl rfl rfl rfl)) rfl rfl (by exact QW.qr (qw_pick_f rfl rfl)) ?_
          refine rg_q (.inl rfl) rfl rfl (by exact QW.qr (qw_pick_f rfl rfl)) ?_
          refine rg_nil ?_
          refine qg_then ?_
          refine cg_false rfl ?_
          refine cg_skip ?_
          refine qg_block ?_
          refine qg_then ?_
          refine cg_region ?_
          refine rg_q (.inl rfl) rfl rfl (by exact QW.qr (qw_move rfl)) ?_
          refine rg_q (.inl rfl) rfl rfl (by exact QW.qr (qw_add_in rfl rfl (by unfold inK; omega))) ?_
          refine rg_q (.inl rfl) rfl rfl (by exact QW.qr (qw_assign rfl)) ?_
          refine rg_nil ?_
          exact qg_round_sp _ _ _ ⟨i + 1, _, B, by omega, by rw [crashI_less hil hik hz2]; exact hown, rfl, rfl, rfl⟩ (by repeat (first | exact Sub.nil | refine Sub.cons rfl ?_ | refine Sub.cons (congrArg (fun z => some (Value.int IntKind.i64 z)) (by omega)) ?_)) (cat_sub (ls' := [B, [(b, _)], Bs, Bl]) (ls := [B, [(b, _)], Bs, Bl]) (by repeat (first | exact SubM.nil | refine SubM.cons (by repeat (first | exact Ins.here | apply Ins.there)) ?_))) (by omega)
      · intro hk
        refine rg_q (.inl rfl) rfl rfl (by exact QW.qr (qw_move rfl)) ?_
        refine rg_s (guard_mk rfl rfl rfl rfl) rfl rfl ?_
        refine rg_s (guard_mk rfl rfl rfl rfl) rfl rfl ?_
        refine rg_s (guard_mk rfl rfl rfl rfl) rfl rfl ?_
        refine rg_q (.inl rfl) rfl rfl (by exact QW.qr (qw_pick_f rfl rfl)) ?_
        refine rg_q (.inl rfl) rfl rfl (by exact QW.qr (qw_move rfl)) ?_
        refine rg_q (.inr (guard_mk rfl rfl rfl rfl)) rfl rfl (by exact QW.qr (qw_move rfl)) ?_
        refine rg_q (.inr (guard_mk rfl rfl rfl rfl)) rfl rfl (by exact QW.qr (qw_geq_t rfl rfl (by omega))) ?_
        refine rg_q (.inr (guard_mk rfl rfl rfl rfl)) rfl rfl (by exact QW.qr (qw_move rfl)) ?_
        refine rg_q (.inr (guard_mk rfl rfl rfl rfl)) rfl rfl (by exact QW.qr (qw_move rfl)) ?_
        refine rg_q (.inr (guard_mk rfl rfl rfl rfl)) rfl rfl (by exact QW.qr (qw_move rfl)) ?_
        refine rg_q (.inr (guard_mk rfl rfl rfl rfl)) rfl rfl (by exact QW.qr (qw_sub_in rfl rfl (by unfold inK; omega))) ?_
        refine rg_q (.inr (guard_mk rfl rfl rfl rfl)) rfl rfl (by exact QW.qr (qw_move rfl)) ?_
        refine rg_split (.inr (guard_mk rfl rfl rfl rfl)) rfl rfl (by exact qc_lss rfl rfl) ?_ ?_
        · intro hz
          have hz2 : (keep < 0 ∧ (i : Int) < zeros) ∨ (0 ≤ keep ∧ (i : Int) - keep < zeros) := by omega
          refine rg_q (.inr (guard_mk rfl rfl rfl rfl)) rfl rfl (by exact QW.qr (qw_pick_t rfl rfl)) ?_
          refine rg_q (.inl rfl) rfl rfl (by exact QW.qr (qw_pick_f rfl rfl)) ?_
          refine rg_nil ?_
          refine qg_then ?_
          refine cg_true rfl ?_
          refine cg_region ?_
          refine rg_q (.inl rfl) rfl rfl (by exact QW.qr (qw_move rfl)) ?_
          refine rg_e (.inl rfl) rfl rfl (by exact ev_buildSlice (.cons rfl (.nil)) rfl (by first | exact CellsOf.agg | exact CellsOf.one rfl) (by rfl) (.cons rfl (by first | exact CellsOf.agg | exact CellsOf.one rfl) (by repeat (first | exact SetSeg.done | apply SetSeg.take | apply SetSeg.skip)) (by rfl) (by rfl) (.nil))) ?_
          rintro _ _ ⟨b55, rfl, rfl⟩
          refine rg_e (.inl rfl) rfl rfl (by exact ev_appendL (ys := [0]) (T := 36) (T2 := 36) (.cons rfl (.cons rfl .nil)) rfl rfl hown (R := cat [[(b55, _)], [(b, _)], Bs, Bl] L) (cat_perm (ls' := [B, [(b55, _)], [(b, _)], Bs, Bl]) (ls := [[(b55, _)], B, [(b, _)], Bs, Bl]) (by repeat (first | exact PermM.nil | refine PermM.cons (by repeat (first | exact Ins.here | apply Ins.there)) ?_))) (.row (List.Mem.head _) (SegL.seg (m := 1) (by repeat (first | exact SegL.done | apply SegL.take | apply SegL.skip))).1 rfl) (fun _ => rfl) encB_one (by simp only [List.length_cons, List.length_nil]; omega) rfl rfl rfl rfl) ?_
          rintro ov2 _ ⟨B2, hown2, rfl⟩
          obtain ⟨po2, co2, rfl, _⟩ := id (hown2.rd (fun _ => rfl) (by decide))
          refine rg_q (.inl rfl) rfl rfl (by exact QW.qr (qw_assign rfl)) ?_
          refine rg_nil ?_
          refine qg_block ?_
          refine qg_then ?_
          refine cg_region ?_
          refine rg_q (.inl rfl) rfl rfl (by exact QW.qr (qw_move rfl)) ?_
          refine rg_q (.inl rfl) rfl rfl (by exact QW.qr (qw_add_in rfl rfl (by unfold inK; omega))) ?_
          refine rg_q (.inl rfl) rfl rfl (by exact QW.qr (qw_assign rfl)) ?_
          refine rg_nil ?_
          exact qg_round_sp _ _ _ ⟨i + 1, _, B2, by omega, by rw [crashI_more hil hik hz2]; exact hown2, rfl, rfl, rfl⟩ (by repeat (first | exact Sub.nil | refine Sub.cons rfl ?_ | refine Sub.cons (congrArg (fun z => some (Value.int IntKind.i64 z)) (by omega)) ?_)) (cat_sub (ls' := [B2, [(b, _)], Bs, Bl]) (ls := [B2, [(b55, _)], [(b, _)], Bs, Bl]) (by repeat (first | exact SubM.nil | refine SubM.cons (by repeat (first | exact Ins.here | apply Ins.there)) ?_))) (by omega)
        · intro hz
          have hz2 : ¬ ((keep < 0 ∧ (i : Int) < zeros) ∨ (0 ≤ keep ∧ (i : Int) - keep < zeros)) := by omega
          refine rg_q (.inr (guard_mk rfl rfl rfl rfl)) rfl rfl (by exact QW.qr (qw_pick_t rfl rfl)) ?_
          refine rg_q (.inl rfl) rfl rfl (by exact QW.qr (qw_pick_f rfl rfl)) ?_
          refine rg_nil ?_
          refine qg_then ?_
          refine cg_false rfl ?_
          refine cg_skip ?_
          refine qg_block ?_
          refine qg_then ?_
          refine cg_region ?_
          refine rg_q (.inl rfl) rfl rfl (by exact QW.qr (qw_move rfl)) ?_
          refine rg_q (.inl rfl) rfl rfl (by exact QW.qr (qw_add_in rfl rfl (by unfold inK; omega))) ?_
          refine rg_q (.inl rfl) rfl rfl (by exact QW.qr (qw_assign rfl)) ?_
          refine rg_nil ?_
          exact qg_round_sp _ _ _ ⟨i + 1, _, B, by omega, by rw [crashI_less hil hik hz2]; exact hown, rfl, rfl, rfl⟩ (by repeat (first | exact Sub.nil | refine Sub.cons rfl ?_ | refine Sub.cons (congrArg (fun z => some (Value.int IntKind.i64 z)) (by omega)) ?_)) (cat_sub (ls' := [B, [(b, _)], Bs, Bl]) (ls := [B, [(b, _)], Bs, Bl]) (by repeat (first | exact SubM.nil | refine SubM.cons (by repeat (first | exact Ins.here | apply Ins.there)) ?_))) (by omega)
  · intro hlt
    obtain rfl : i = s.loose.length := by omega
    rw [crashI_end] at hown ⊢
    refine rg_nil ?_
    refine qg_then ?_
    refine cg_false rfl ?_
    refine cg_exit ?_
    refine qg_then_exit ?_
    refine qg_then_exit ?_
    refine qg_block_here ?_
    refine qg_then ?_
    refine cg_seq ?_
    refine cg_region ?_
    refine rg_q (.inl rfl) rfl rfl (by exact QW.qr (qw_move rfl)) ?_
    refine rg_q (.inl rfl) rfl rfl (by exact QW.qr (qw_move rfl)) ?_
    refine rg_q (.inl rfl) rfl rfl (by exact QW.qr (qw_nilCheck rfl)) ?_
    refine rg_q (.inl rfl) rfl rfl (by exact QW.qr (qw_fieldAddr rfl)) ?_
    refine rg_e0 (.inl rfl) rfl (by exact ev_store rfl rfl (by first | exact CellsOf.agg | exact CellsOf.one rfl) (by repeat (first | exact List.Mem.head _ | apply List.Mem.tail | apply List.mem_append_right | assumption)) (by repeat (first | exact SetSeg.done | apply SetSeg.take | apply SetSeg.skip)) rfl rfl (by repeat (first | exact Upd.here | apply Upd.there | apply Upd.app)) (by first | exact Or.inl ⟨inferInstance, rfl⟩ | exact Or.inr inferInstance)) ?_
    rintro _ _ ⟨rfl, rfl⟩
    refine rg_nil ?_
    refine qg_then ?_
    refine cg_seq ?_
    refine cg_region ?_
    refine rg_q (.inl rfl) rfl rfl (by exact QW.qr (qw_move rfl)) ?_
    refine rg_q (.inl rfl) rfl rfl (by exact QW.qr (qw_nilCheck rfl)) ?_
    refine rg_q (.inl rfl) rfl rfl (by exact QW.qr (qw_fieldAddr rfl)) ?_
    refine rg_e0 (.inl rfl) rfl (by exact ev_store rfl rfl (by first | exact CellsOf.agg | exact CellsOf.one rfl) (by repeat (first | exact List.Mem.head _ | apply List.Mem.tail | apply List.mem_append_right | assumption)) (by repeat (first | exact SetSeg.done | apply SetSeg.take | apply SetSeg.skip)) rfl rfl (by repeat (first | exact Upd.here | apply Upd.there | apply Upd.app)) (by first | exact Or.inl ⟨inferInstance, rfl⟩ | exact Or.inr inferInstance)) ?_
    rintro _ _ ⟨rfl, rfl⟩
    refine rg_nil ?_
    refine qg_then ?_
    refine cg_seq ?_
    refine cg_region ?_
    refine rg_q (.inl rfl) rfl rfl (by exact QW.qr (qw_move rfl)) ?_
    refine rg_q (.inl rfl) rfl rfl (by exact QW.qr (qw_nilCheck rfl)) ?_
    refine rg_q (.inl rfl) rfl rfl (by exact QW.qr (qw_fieldAddr rfl)) ?_
    refine rg_e0 (.inl rfl) rfl (by exact ev_store rfl rfl (by first | exact CellsOf.agg | exact CellsOf.one rfl) (by repeat (first | exact List.Mem.head _ | apply List.Mem.tail | apply List.mem_append_right | assumption)) (by repeat (first | exact SetSeg.done | apply SetSeg.take | apply SetSeg.skip)) rfl rfl (by repeat (first | exact Upd.here | apply Upd.there | apply Upd.app)) (by first | exact Or.inl ⟨inferInstance, rfl⟩ | exact Or.inr inferInstance)) ?_
    rintro _ _ ⟨rfl, rfl⟩
    refine rg_nil ?_
    refine qg_then ?_
    refine cg_region ?_
    refine rg_q (.inl rfl) rfl rfl (by exact QW.qr (qw_move rfl)) ?_
    refine rg_q (.inl rfl) rfl rfl (by exact QW.qr (qw_nilCheck rfl)) ?_
    refine rg_q (.inl rfl) rfl rfl (by exact QW.qr (qw_fieldAddr rfl)) ?_
    refine rg_e0 (.inl rfl) rfl (by exact ev_store rfl rfl (by first | exact CellsOf.agg | exact CellsOf.one rfl) (by repeat (first | exact List.Mem.head _ | apply List.Mem.tail | apply List.mem_append_right | assumption)) (by repeat (first | exact SetSeg.done | apply SetSeg.take | apply SetSeg.skip)) rfl rfl (by repeat (first | exact Upd.here | apply Upd.there | apply Upd.app)) (by first | exact Or.inl ⟨inferInstance, rfl⟩ | exact Or.inr inferInstance)) ?_
    rintro _ _ ⟨rfl, rfl⟩
    refine rg_nil ?_
    exact qg_end_sp (.inr rfl) _ (.nil) _ (cat_sub (ls' := [[(b, _)], B]) (ls := [B, [(b, _)], Bs, Bl]) (by repeat (first | exact SubM.nil | refine SubM.cons (by repeat (first | exact Ins.here | apply Ins.there)) ?_))) ⟨rfl, _ :: (B ++ []), by rw [List.append_nil]; rfl, ⟨_, _, B, [], hown, OwnL.nil, rfl⟩⟩

theorem loose_ca (b : Nat) (s : Slab) (Bk : List Blk) (O : Out) (L : List Blk) (hs : SlabAt b s Bk) (hL : ∀ q, q ∈ Bk → q ∈ L) : CA Try.prog 58 [PT b] O L fun v L' => v = I s.loose.length ∧ L' = L := by
  obtain ⟨sv, lv, Bs, Bl, hos, hol, rfl⟩ := hs
  obtain ⟨ps, cs, rfl, hqs⟩ := id (hos.rd (fun _ => rfl) (by decide))
  obtain ⟨pl, cl, rfl, hql⟩ := id (hol.rd (fun _ => rfl) (by decide))
  have hm := hL _ (List.Mem.head _)
  unfold slabBlk at hm
  unfold PT
  refine ca_enter Try.func58 rfl rfl ?_
  rw [Try.ntmps58]
  simp only [envOf]
  refine cg_seq ?_
  refine cg_region ?_
  refine rg_q (.inl rfl) rfl rfl (by exact QW.qr (qw_assign rfl)) ?_
  refine rg_nil ?_
  refine qg_then ?_
  refine cg_seq ?_
  refine cg_seq ?_
  refine cg_region ?_
  refine rg_q (.inl rfl) rfl rfl (by exact QW.qr (qw_move rfl)) ?_
  refine rg_q (.inl rfl) rfl rfl (by exact QW.qr (qw_eql_ptr (e := 67) rfl rfl)) ?_
  refine rg_nil ?_
  refine qg_then ?_
  refine cg_false rfl ?_
  refine cg_skip ?_
  refine qg_then ?_
  refine cg_seq ?_
  refine cg_region ?_
  refine rg_q (.inl rfl) rfl rfl (by exact QW.qr (qw_move rfl)) ?_
  refine rg_q (.inl rfl) rfl rfl (by exact QW.qr (qw_nilCheck rfl)) ?_
  refine rg_q (.inl rfl) rfl rfl (by exact QW.qr (qw_fieldAddr rfl)) ?_
  refine rg_q (.inl rfl) rfl rfl (by exact qr_load1 rfl hm rfl) ?_
  refine rg_q (.inl rfl) rfl rfl (by exact QW.qr (qw_len_slice (t := 36) (.cons rfl (.nil)) rfl)) ?_
  refine rg_q (.inl rfl) rfl rfl (by exact QW.qr (qw_assign rfl)) ?_
  refine rg_nil ?_
  refine qg_then ?_
  refine cg_ret ?_
  exact qg_end (.inl rfl) _ (.cons (.tmp rfl) (.nil)) _ (by repeat (first | exact List.Sublist.refl _ | exact List.nil_sublist _ | exact List.sublist_append_right _ _ | apply List.Sublist.cons_cons | apply List.Sublist.cons | refine List.Sublist.trans ?_ (List.sublist_append_right _ _))) ⟨rfl, rfl⟩

theorem steps_ca (b : Nat) (s : Slab) (Bk : List Blk) (O : Out) (L : List Blk) (hs : SlabAt b s Bk) (hL : ∀ q, q ∈ Bk → q ∈ L) : CA Try.prog 59 [PT b] O L fun v L' => v = I s.steps ∧ L' = L := by
  obtain ⟨sv, lv, Bs, Bl, hos, hol, rfl⟩ := hs
  obtain ⟨ps, cs, rfl, hqs⟩ := id (hos.rd (fun _ => rfl) (by decide))
  obtain ⟨pl, cl, rfl, hql⟩ := id (hol.rd (fun _ => rfl) (by decide))
  have hm := hL _ (List.Mem.head _)
  unfold slabBlk at hm
  unfold PT
  refine ca_enter Try.func59 rfl rfl ?_
  rw [Try.ntmps59]
  simp only [envOf]
  refine cg_seq ?_
  refine cg_region ?_
  refine rg_q (.inl rfl) rfl rfl (by exact QW.qr (qw_assign rfl)) ?_
  refine rg_nil ?_
  refine qg_then ?_
  refine cg_seq ?_
  refine cg_seq ?_
  refine cg_region ?_
  refine rg_q (.inl rfl) rfl rfl (by exact QW.qr (qw_move rfl)) ?_
  refine rg_q (.inl rfl) rfl rfl (by exact QW.qr (qw_eql_ptr (e := 67) rfl rfl)) ?_
  refine rg_nil ?_
  refine qg_then ?_
  refine cg_false rfl ?_
  refine cg_skip ?_
  refine qg_then ?_
  refine cg_seq ?_
  refine cg_region ?_
  refine rg_q (.inl rfl) rfl rfl (by exact QW.qr (qw_move rfl)) ?_
  refine rg_q (.inl rfl) rfl rfl (by exact QW.qr (qw_nilCheck rfl)) ?_
  refine rg_q (.inl rfl) rfl rfl (by exact QW.qr (qw_fieldAddr rfl)) ?_
  refine rg_q (.inl rfl) rfl rfl (by exact qr_load1 rfl hm rfl) ?_
  refine rg_q (.inl rfl) rfl rfl (by exact QW.qr (qw_assign rfl)) ?_
  refine rg_nil ?_
  refine qg_then ?_
  refine cg_ret ?_
  exact qg_end (.inl rfl) _ (.cons (.tmp rfl) (.nil)) _ (by repeat (first | exact List.Sublist.refl _ | exact List.nil_sublist _ | exact List.sublist_append_right _ _ | apply List.Sublist.cons_cons | apply List.Sublist.cons | refine List.Sublist.trans ?_ (List.sublist_append_right _ _))) ⟨rfl, rfl⟩

theorem down_ca (b : Nat) (s : Slab) (Bk : List Blk) (O : Out) (L : List Blk) (hs : SlabAt b s Bk) (hL : ∀ q, q ∈ Bk → q ∈ L) : CA Try.prog 60 [PT b] O L fun v L' => v = .bool s.down ∧ L' = L := by
  obtain ⟨sv, lv, Bs, Bl, hos, hol, rfl⟩ := hs
  obtain ⟨ps, cs, rfl, hqs⟩ := id (hos.rd (fun _ => rfl) (by decide))
  obtain ⟨pl, cl, rfl, hql⟩ := id (hol.rd (fun _ => rfl) (by decide))
  have hm := hL _ (List.Mem.head _)
  unfold slabBlk at hm
  unfold PT
  refine ca_enter Try.func60 rfl rfl ?_
  rw [Try.ntmps60]
  simp only [envOf]
  refine cg_seq ?_
  refine cg_region ?_
  refine rg_q (.inl rfl) rfl rfl (by exact QW.qr (qw_assign rfl)) ?_
  refine rg_nil ?_
  refine qg_then ?_
  refine cg_seq ?_
  refine cg_region ?_
  refine rg_q (.inl rfl) rfl rfl (by exact QW.qr (qw_move rfl)) ?_
  refine rg_q (.inl rfl) rfl rfl (by exact QW.qr (qw_neq_ptr (e := 67) rfl rfl)) ?_
  refine rg_q (.inl rfl) rfl rfl (by exact QW.qr (qw_move rfl)) ?_
  refine rg_q (.inr (guard_mk rfl rfl rfl rfl)) rfl rfl (by exact QW.qr (qw_move rfl)) ?_
  refine rg_q (.inr (guard_mk rfl rfl rfl rfl)) rfl rfl (by exact QW.qr (qw_nilCheck rfl)) ?_
  refine rg_q (.inr (guard_mk rfl rfl rfl rfl)) rfl rfl (by exact QW.qr (qw_fieldAddr rfl)) ?_
  refine rg_q (.inr (guard_mk rfl rfl rfl rfl)) rfl rfl (by exact qr_load1 rfl hm rfl) ?_
  refine rg_q (.inl rfl) rfl rfl (by exact QW.qr (qw_pick_t rfl rfl)) ?_
  refine rg_q (.inl rfl) rfl rfl (by exact QW.qr (qw_assign rfl)) ?_
  refine rg_nil ?_
  refine qg_then ?_
  refine cg_ret ?_
  exact qg_end (.inl rfl) _ (.cons (.tmp rfl) (.nil)) _ (by repeat (first | exact List.Sublist.refl _ | exact List.nil_sublist _ | exact List.sublist_append_right _ _ | apply List.Sublist.cons_cons | apply List.Sublist.cons | refine List.Sublist.trans ?_ (List.sublist_append_right _ _))) ⟨rfl, rfl⟩

theorem dead_in (bl b0 b1 : Nat) (l : Lb) (K : List Blk) (O : Out) (L : List Blk) (hl : LbIn bl b0 b1 l K) (hL : ∀ q, q ∈ K → q ∈ L) : CA Try.prog 18 [PT bl] O L fun v L' => v = I l.dead ∧ L' = L := by
  obtain ⟨_, bm, es, c, ms, Bv, h1, h2, h3, rfl⟩ := hl
  refine ca_enter Try.func18 rfl rfl ?_
  rw [Try.ntmps18]
  simp only [envOf]
  refine cg_seq ?_
  refine cg_region ?_
  refine rg_q (.inl rfl) rfl rfl (by exact QW.qr (qw_assign rfl)) ?_
  refine rg_nil ?_
  refine qg_then ?_
  refine cg_seq ?_
  refine cg_region ?_
  refine rg_q (.inl rfl) rfl rfl (by exact QW.qr (qw_move rfl)) ?_
  refine rg_e (.inl rfl) rfl rfl (by exact ev_call0 rfl (.cons rfl (.nil)) (up_ca bl b0 b1 bm l O L (hL _ (List.Mem.head _)))) ?_
  rintro _ _ ⟨rfl, rfl⟩
  refine rg_q (.inl rfl) rfl rfl (by exact QW.qr (qw_assign rfl)) ?_
  refine rg_nil ?_
  refine qg_then ?_
  refine cg_ret ?_
  exact qg_end (.inl rfl) _ (.cons (.tmp rfl) (.nil)) _ (by repeat (first | exact List.Sublist.refl _ | exact List.nil_sublist _ | exact List.sublist_append_right _ _ | apply List.Sublist.cons_cons | apply List.Sublist.cons | refine List.Sublist.trans ?_ (List.sublist_append_right _ _))) ⟨rfl, rfl⟩

theorem does0_ca (b rb : Nat) (s : Slab) (K R : List Blk) (O : Out) (F : List Blk) (p : Bytes) (pv : Value) (hp : RdL F encB 1 pv p) (hpl : p.length ≤ 600000) (hs : SlabAt b s K) (hr : RSlabAt rb s R) (hsz : sizeS s ≤ 300000) :
    CA Try.prog 28 [PT b, PT rb, .agg #[I 0, I 0, I 0, pv]] O (cat [K, R] F) fun v L' => ∃ K2 R2, L' = cat [K2, R2] F ∧ SlabAt b ((appendS s p).1) K2 ∧ RSlabAt rb ((appendS s p).1) R2 := by
  unfold sizeS at hsz
  obtain ⟨pp, cp, rfl, _⟩ := id hp
  refine ca_enter Try.func28 rfl rfl ?_
  rw [Try.ntmps28]
  simp only [envOf]
  refine cg_seq ?_
  refine cg_region ?_
  refine rg_e (.inl rfl) rfl rfl (by exact ev_box rfl (by first | exact CellsOf.agg | exact CellsOf.one rfl)) ?_
  rintro _ _ ⟨b5, rfl, rfl⟩
  refine rg_q (.inl rfl) rfl rfl (by exact QW.qr (qw_assign rfl)) ?_
  refine rg_nil ?_
  refine qg_then ?_
  refine cg_seq ?_
  refine cg_seq ?_
  refine cg_region ?_
  refine rg_q (.inl rfl) rfl rfl (by exact QW.qr (qw_fieldAddr rfl)) ?_
  refine rg_q (.inl rfl) rfl rfl (by exact qr_load1 rfl (by repeat (first | exact List.Mem.head _ | apply List.Mem.tail | apply List.mem_append_right | assumption)) rfl) ?_
  refine rg_nil ?_
  refine qg_then ?_
  refine cg_block ?_
  refine cg_seq ?_
  refine cg_region ?_
  refine rg_q (.inl rfl) rfl rfl (by exact QW.qr (qw_eql_t rfl rfl rfl)) ?_
  refine rg_q (.inl rfl) rfl rfl (by exact QW.qr (qw_assign rfl)) ?_
  refine rg_nil ?_
  refine qg_then ?_
  refine cg_true rfl ?_
  refine cg_seq ?_
  refine cg_draw follows (.op 0 false (.op 1 false (.op 2 false (.op 4 false (.op 5 false (.op 6 false (.op 3 true (.op 7 false (.op 8 false (.op 9 false .done)))))))))) _ (by kernel_rfl) (SubP.of (List.singleton_sublist.2 (by repeat (first | exact List.Mem.head _ | apply List.Mem.tail | apply List.mem_append_right)))) ?_
  refine dg_w rfl rfl (.inl rfl) rfl rfl (by exact qw_move rfl) ?_
  refine dg_w rfl rfl (.inl rfl) rfl rfl (by exact qw_fieldAddr rfl) ?_
  refine dg_r rfl rfl rfl (.inl rfl) rfl rfl (by exact qr_load1 rfl (by repeat (first | exact List.Mem.head _ | apply List.Mem.tail | apply List.mem_append_right | assumption)) rfl) ?_
  refine dg_w rfl rfl (.inl rfl) rfl rfl (by exact qw_move rfl) ?_
  refine dg_w rfl rfl (.inl rfl) rfl rfl (by exact qw_fieldAddr rfl) ?_
  refine dg_r rfl rfl rfl (.inl rfl) rfl rfl (by exact qr_load1 rfl (by repeat (first | exact List.Mem.head _ | apply List.Mem.tail | apply List.mem_append_right | assumption)) rfl) ?_
  refine dg_e rfl rfl (.inl rfl) rfl rfl (by exact ev_call0 rfl (.cons rfl (.cons rfl (.nil))) ((append_ca b s K p _ O (cat [R, [(b5, _)]] F) hs (hp.mono (fun q hq => mem_catF hq)) (by omega) hpl).pre (fun w h => h.perm (cat_perm (ls' := [K, R, [(b5, _)]]) (ls := [[(b5, _)], K, R]) (by repeat (first | exact PermM.nil | refine PermM.cons (by repeat (first | exact Ins.here | apply Ins.there)) ?_)))))) ?_
  rintro _ _ ⟨rfl, K2, rfl, hs2⟩
  refine ⟨(SubP.of (List.singleton_sublist.2 (by repeat (first | exact List.Mem.head _ | apply List.Mem.tail | apply List.mem_append_right)))), ?_⟩
  refine dg_g rfl rfl (.inl rfl) rfl rfl (by exact ev_call0 rfl (.cons rfl (.cons rfl (.nil))) ((rappend_ca rb s R p _ O (cat [K2, [(b5, _)]] F) hr (hp.mono (fun q hq => mem_catF hq)) (by omega) hpl).pre (fun w h => h.perm (cat_perm (ls' := [R, K2, [(b5, _)]]) (ls := [K2, R, [(b5, _)]]) (by repeat (first | exact PermM.nil | refine PermM.cons (by repeat (first | exact Ins.here | apply Ins.there)) ?_)))))) ?_
  rintro _ _ ⟨rfl, R2, rfl, hr2⟩
  refine dg_w rfl rfl (.inl rfl) rfl rfl (by exact qw_eql_t rfl rfl rfl) ?_
  refine dg_w rfl rfl (.inl rfl) rfl rfl (by exact qw_assign rfl) ?_
  refine dg_nil ?_
  refine qg_then ?_
  refine cg_ret ?_
  refine qg_block_ret ?_
  refine qg_then_ret ?_
  exact qg_end_sp (.inl rfl) _ (.cons (.tmp rfl) (.nil)) _ (cat_sub (ls' := [K2, R2]) (ls := [R2, K2, [(b5, _)]]) (by repeat (first | exact SubM.nil | refine SubM.cons (by repeat (first | exact Ins.here | apply Ins.there)) ?_))) ⟨K2, R2, rfl, hs2, hr2⟩

theorem does3_down (b rb : Nat) (s : Slab) (K R : List Blk) (O : Out) (F : List Blk) (n : Int) (hdn : s.down = true) (hs : SlabAt b s K) (hr : RSlabAt rb s R) (hsz : sizeS s ≤ 300000) :
    CA Try.prog 28 [PT b, PT rb, .agg #[I 3, I n, I 0, .slice none 0 0]] O (cat [K, R] F) fun v L' => ∃ K2 R2, L' = cat [K2, R2] F ∧ SlabAt b (s) K2 ∧ RSlabAt rb (s) R2 := by
  have hfin : fuseS s n = s := by rw [fuseS, if_pos hdn]
  obtain ⟨sv, lv, Bs, Bl, hos, hol, rfl⟩ := hr
  refine ca_enter Try.func28 rfl rfl ?_
  rw [Try.ntmps28]
  simp only [envOf]
  refine cg_seq ?_
  refine cg_region ?_
  refine rg_e (.inl rfl) rfl rfl (by exact ev_box rfl (by first | exact CellsOf.agg | exact CellsOf.one rfl)) ?_
  rintro _ _ ⟨b5, rfl, rfl⟩
  refine rg_q (.inl rfl) rfl rfl (by exact QW.qr (qw_assign rfl)) ?_
  refine rg_nil ?_
  refine qg_then ?_
  refine cg_seq ?_
  refine cg_seq ?_
  refine cg_region ?_
  refine rg_q (.inl rfl) rfl rfl (by exact QW.qr (qw_fieldAddr rfl)) ?_
  refine rg_q (.inl rfl) rfl rfl (by exact qr_load1 rfl (by repeat (first | exact List.Mem.head _ | apply List.Mem.tail | apply List.mem_append_right | assumption)) rfl) ?_
  refine rg_nil ?_
  refine qg_then ?_
  refine cg_block ?_
  refine cg_seq ?_
  refine cg_region ?_
  refine rg_q (.inl rfl) rfl rfl (by exact QW.qr (qw_eql_f rfl rfl (by decide))) ?_
  refine rg_q (.inl rfl) rfl rfl (by exact QW.qr (qw_assign rfl)) ?_
  refine rg_nil ?_
  refine qg_then ?_
  refine cg_false rfl ?_
  refine cg_seq ?_
  refine cg_region ?_
  refine rg_q (.inl rfl) rfl rfl (by exact QW.qr (qw_eql_f rfl rfl (by decide))) ?_
  refine rg_q (.inl rfl) rfl rfl (by exact QW.qr (qw_assign rfl)) ?_
  refine rg_nil ?_
  refine qg_then ?_
  refine cg_false rfl ?_
  refine cg_seq ?_
  refine cg_region ?_
  refine rg_q (.inl rfl) rfl rfl (by exact QW.qr (qw_eql_f rfl rfl (by decide))) ?_
  refine rg_q (.inl rfl) rfl rfl (by exact QW.qr (qw_assign rfl)) ?_
  refine rg_nil ?_
  refine qg_then ?_
  refine cg_false rfl ?_
  refine cg_seq ?_
  refine cg_region ?_
  refine rg_q (.inl rfl) rfl rfl (by exact QW.qr (qw_eql_t rfl rfl rfl)) ?_
  refine rg_q (.inl rfl) rfl rfl (by exact QW.qr (qw_assign rfl)) ?_
  refine rg_nil ?_
  refine qg_then ?_
  refine cg_true rfl ?_
  refine cg_seq ?_
  refine cg_seq ?_
  unfold PT rslabBlk
  refine cg_region ?_
  refine rg_q (.inl rfl) rfl rfl (by exact QW.qr (qw_move rfl)) ?_
  refine rg_q (.inl rfl) rfl rfl (by exact QW.qr (qw_nilCheck rfl)) ?_
  refine rg_q (.inl rfl) rfl rfl (by exact QW.qr (qw_fieldAddr rfl)) ?_
  refine rg_q (.inl rfl) rfl rfl (by exact qr_val (qr_load1 rfl (by repeat (first | exact List.Mem.head _ | apply List.Mem.tail | apply List.mem_append_right | assumption)) rfl) (v2 := .bool true) (by rw [hdn])) ?_
  refine rg_nil ?_
  refine qg_then ?_
  refine cg_true rfl ?_
  refine cg_seq ?_
  refine cg_region ?_
  refine rg_q (.inl rfl) rfl rfl (by exact QW.qr (qw_move rfl)) ?_
  refine rg_q (.inl rfl) rfl rfl (by exact QW.qr (qw_fieldAddr rfl)) ?_
  refine rg_q (.inl rfl) rfl rfl (by exact qr_load1 rfl (by repeat (first | exact List.Mem.head _ | apply List.Mem.tail | apply List.mem_append_right | assumption)) rfl) ?_
  skip
  refine rg_e (.inl rfl) rfl rfl (by exact ev_call0 rfl (.cons rfl (.cons rfl (.nil))) ((fuse_ca b s K n O (cat [(rslabBlk rb sv lv s :: (Bs ++ Bl)), [(b5, _)]] F) hs).pre (fun w h => h.perm (cat_perm (ls' := [K, (rslabBlk rb sv lv s :: (Bs ++ Bl)), [(b5, _)]]) (ls := [[(b5, _)], K, (rslabBlk rb sv lv s :: (Bs ++ Bl))]) (by repeat (first | exact PermM.nil | refine PermM.cons (by repeat (first | exact Ins.here | apply Ins.there)) ?_)))))) ?_
  rintro _ _ ⟨e, K2, rfl, rfl, hs2⟩
  refine rg_q (.inl rfl) rfl rfl (by exact QW.qr (qw_eql rfl rfl)) ?_
  refine rg_q (.inl rfl) rfl rfl (by exact QW.qr (qw_assign rfl)) ?_
  refine rg_nil ?_
  refine qg_then ?_
  refine cg_ret ?_
  refine qg_then_ret ?_
  refine qg_block_ret ?_
  refine qg_then_ret ?_
  exact qg_end_sp (.inl rfl) _ (.cons (.tmp rfl) (.nil)) _ (cat_sub (ls' := [K2, (rslabBlk rb sv lv s :: (Bs ++ Bl))]) (ls := [K2, (rslabBlk rb sv lv s :: (Bs ++ Bl)), [(b5, _)]]) (by repeat (first | exact SubM.nil | refine SubM.cons (by repeat (first | exact Ins.here | apply Ins.there)) ?_))) ⟨K2, _, rfl, by rw [hfin] at hs2; exact hs2, ⟨sv, lv, Bs, Bl, hos, hol, rfl⟩⟩

theorem does3_up (b rb : Nat) (s : Slab) (K R : List Blk) (O : Out) (F : List Blk) (n : Int) (hdn : ¬ s.down = true) (hs : SlabAt b s K) (hr : RSlabAt rb s R) (hsz : sizeS s ≤ 300000) :
    CA Try.prog 28 [PT b, PT rb, .agg #[I 3, I n, I 0, .slice none 0 0]] O (cat [K, R] F) fun v L' => ∃ K2 R2, L' = cat [K2, R2] F ∧ SlabAt b (fuseS s n) K2 ∧ RSlabAt rb (fuseS s n) R2 := by
  have hfin : fuseS s n = ⟨s.sure, s.loose, s.steps, max n (-1), s.down⟩ := by rw [fuseS, if_neg hdn]
  have hdf : s.down = false := by simpa using hdn
  obtain ⟨sv, lv, Bs, Bl, hos, hol, rfl⟩ := hr
  refine ca_enter Try.func28 rfl rfl ?_
  rw [Try.ntmps28]
  simp only [envOf]
  refine cg_seq ?_
  refine cg_region ?_
  refine rg_e (.inl rfl) rfl rfl (by exact ev_box rfl (by first | exact CellsOf.agg | exact CellsOf.one rfl)) ?_
  rintro _ _ ⟨b5, rfl, rfl⟩
  refine rg_q (.inl rfl) rfl rfl (by exact QW.qr (qw_assign rfl)) ?_
  refine rg_nil ?_
  refine qg_then ?_
  refine cg_seq ?_
  refine cg_seq ?_
  refine cg_region ?_
  refine rg_q (.inl rfl) rfl rfl (by exact QW.qr (qw_fieldAddr rfl)) ?_
  refine rg_q (.inl rfl) rfl rfl (by exact qr_load1 rfl (by repeat (first | exact List.Mem.head _ | apply List.Mem.tail | apply List.mem_append_right | assumption)) rfl) ?_
  refine rg_nil ?_
  refine qg_then ?_
  refine cg_block ?_
  refine cg_seq ?_
  refine cg_region ?_
  refine rg_q (.inl rfl) rfl rfl (by exact QW.qr (qw_eql_f rfl rfl (by decide))) ?_
  refine rg_q (.inl rfl) rfl rfl (by exact QW.qr (qw_assign rfl)) ?_
  refine rg_nil ?_
  refine qg_then ?_
  refine cg_false rfl ?_
  refine cg_seq ?_
  refine cg_region ?_
  refine rg_q (.inl rfl) rfl rfl (by exact QW.qr (qw_eql_f rfl rfl (by decide))) ?_
  refine rg_q (.inl rfl) rfl rfl (by exact QW.qr (qw_assign rfl)) ?_
  refine rg_nil ?_
  refine qg_then ?_
  refine cg_false rfl ?_
  refine cg_seq ?_
  refine cg_region ?_
  refine rg_q (.inl rfl) rfl rfl (by exact QW.qr (qw_eql_f rfl rfl (by decide))) ?_
  refine rg_q (.inl rfl) rfl rfl (by exact QW.qr (qw_assign rfl)) ?_
  refine rg_nil ?_
  refine qg_then ?_
  refine cg_false rfl ?_
  refine cg_seq ?_
  refine cg_region ?_
  refine rg_q (.inl rfl) rfl rfl (by exact QW.qr (qw_eql_t rfl rfl rfl)) ?_
  refine rg_q (.inl rfl) rfl rfl (by exact QW.qr (qw_assign rfl)) ?_
  refine rg_nil ?_
  refine qg_then ?_
  refine cg_true rfl ?_
  refine cg_seq ?_
  refine cg_seq ?_
  unfold PT rslabBlk
  refine cg_region ?_
  refine rg_q (.inl rfl) rfl rfl (by exact QW.qr (qw_move rfl)) ?_
  refine rg_q (.inl rfl) rfl rfl (by exact QW.qr (qw_nilCheck rfl)) ?_
  refine rg_q (.inl rfl) rfl rfl (by exact QW.qr (qw_fieldAddr rfl)) ?_
  refine rg_q (.inl rfl) rfl rfl (by exact qr_val (qr_load1 rfl (by repeat (first | exact List.Mem.head _ | apply List.Mem.tail | apply List.mem_append_right | assumption)) rfl) (v2 := .bool false) (by rw [hdf])) ?_
  refine rg_nil ?_
  refine qg_then ?_
  refine cg_false rfl ?_
  refine cg_skip ?_
  refine qg_then ?_
  refine cg_seq ?_
  refine cg_region ?_
  refine rg_q (.inl rfl) rfl rfl (by exact QW.qr (qw_move rfl)) ?_
  refine rg_q (.inl rfl) rfl rfl (by exact QW.qr (qw_fieldAddr rfl)) ?_
  refine rg_q (.inl rfl) rfl rfl (by exact qr_load1 rfl (by repeat (first | exact List.Mem.head _ | apply List.Mem.tail | apply List.mem_append_right | assumption)) rfl) ?_
  refine rg_q (.inl rfl) rfl rfl (by exact QW.qr (qw_val (v' := I (max n (-1))) (qw_max (.cons rfl (.cons rfl .nil))) (by congr 1; omega))) ?_
  refine rg_q (.inl rfl) rfl rfl (by exact QW.qr (qw_nilCheck rfl)) ?_
  refine rg_q (.inl rfl) rfl rfl (by exact QW.qr (qw_fieldAddr rfl)) ?_
  refine rg_e0 (.inl rfl) rfl (by exact ev_store rfl rfl (by first | exact CellsOf.agg | exact CellsOf.one rfl) (by repeat (first | exact List.Mem.head _ | apply List.Mem.tail | apply List.mem_append_right | assumption)) (by repeat (first | exact SetSeg.done | apply SetSeg.take | apply SetSeg.skip)) rfl rfl (by repeat (first | exact Upd.here | apply Upd.there | apply Upd.app)) (by first | exact Or.inl ⟨inferInstance, rfl⟩ | exact Or.inr inferInstance)) ?_
  rintro _ _ ⟨rfl, rfl⟩
  refine rg_nil ?_
  refine qg_then ?_
  refine cg_seq ?_
  refine cg_region ?_
  refine rg_q (.inl rfl) rfl rfl (by exact QW.qr (qw_move rfl)) ?_
  refine rg_q (.inl rfl) rfl rfl (by exact QW.qr (qw_fieldAddr rfl)) ?_
  refine rg_q (.inl rfl) rfl rfl (by exact qr_load1 rfl (by repeat (first | exact List.Mem.head _ | apply List.Mem.tail | apply List.mem_append_right | assumption)) rfl) ?_
  refine rg_e (.inl rfl) rfl rfl (by exact ev_call0 rfl (.cons rfl (.cons rfl (.nil))) ((fuse_ca b s K n O (cat [(rslabBlk rb sv lv ⟨s.sure, s.loose, s.steps, max n (-1), s.down⟩ :: (Bs ++ Bl)), [(b5, _)]] F) hs).pre (fun w h => h.perm (cat_perm (ls' := [K, (rslabBlk rb sv lv ⟨s.sure, s.loose, s.steps, max n (-1), s.down⟩ :: (Bs ++ Bl)), [(b5, _)]]) (ls := [[(b5, _)], K, (rslabBlk rb sv lv ⟨s.sure, s.loose, s.steps, max n (-1), s.down⟩ :: (Bs ++ Bl))]) (by repeat (first | exact PermM.nil | refine PermM.cons (by repeat (first | exact Ins.here | apply Ins.there)) ?_)))))) ?_
  rintro _ _ ⟨e, K2, rfl, rfl, hs2⟩
  refine rg_q (.inl rfl) rfl rfl (by exact QW.qr (qw_eql rfl rfl)) ?_
  refine rg_q (.inl rfl) rfl rfl (by exact QW.qr (qw_assign rfl)) ?_
  refine rg_nil ?_
  refine qg_then ?_
  refine cg_ret ?_
  refine qg_block_ret ?_
  refine qg_then_ret ?_
  exact qg_end_sp (.inl rfl) _ (.cons (.tmp rfl) (.nil)) _ (cat_sub (ls' := [K2, (rslabBlk rb sv lv ⟨s.sure, s.loose, s.steps, max n (-1), s.down⟩ :: (Bs ++ Bl))]) (ls := [K2, (rslabBlk rb sv lv ⟨s.sure, s.loose, s.steps, max n (-1), s.down⟩ :: (Bs ++ Bl)), [(b5, _)]]) (by repeat (first | exact SubM.nil | refine SubM.cons (by repeat (first | exact Ins.here | apply Ins.there)) ?_))) ⟨K2, _, rfl, hs2, by rw [hfin]; exact ⟨sv, lv, Bs, Bl, hos, hol, rfl⟩⟩

theorem does3_ca (b rb : Nat) (s : Slab) (K R : List Blk) (O : Out) (F : List Blk) (n : Int) (hs : SlabAt b s K) (hr : RSlabAt rb s R) (hsz : sizeS s ≤ 300000) :
    CA Try.prog 28 [PT b, PT rb, .agg #[I 3, I n, I 0, .slice none 0 0]] O (cat [K, R] F) fun v L' => ∃ K2 R2, L' = cat [K2, R2] F ∧ SlabAt b (fuseS s n) K2 ∧ RSlabAt rb (fuseS s n) R2 := by
  by_cases hdn : s.down = true
  · have h := does3_down b rb s K R O F n hdn hs hr hsz
    rwa [show fuseS s n = s from by rw [fuseS, if_pos hdn]]
  · exact does3_up b rb s K R O F n hdn hs hr hsz

theorem does4_ca (b rb : Nat) (s : Slab) (K R : List Blk) (O : Out) (F : List Blk) (n m : Int) (hs : SlabAt b s K) (hr : RSlabAt rb s R) (hsz : sizeS s ≤ 300000) :
    CA Try.prog 28 [PT b, PT rb, .agg #[I 4, I n, I m, .slice none 0 0]] O (cat [K, R] F) fun v L' => ∃ K2 R2, L' = cat [K2, R2] F ∧ SlabAt b (crashS s n m) K2 ∧ RSlabAt rb (crashS s n m) R2 := by
  unfold sizeS at hsz
  refine ca_enter Try.func28 rfl rfl ?_
  rw [Try.ntmps28]
  simp only [envOf]
  refine cg_seq ?_
  refine cg_region ?_
  refine rg_e (.inl rfl) rfl rfl (by exact ev_box rfl (by first | exact CellsOf.agg | exact CellsOf.one rfl)) ?_
  rintro _ _ ⟨b5, rfl, rfl⟩
  refine rg_q (.inl rfl) rfl rfl (by exact QW.qr (qw_assign rfl)) ?_
  refine rg_nil ?_
  refine qg_then ?_
  refine cg_seq ?_
  refine cg_seq ?_
  refine cg_region ?_
  refine rg_q (.inl rfl) rfl rfl (by exact QW.qr (qw_fieldAddr rfl)) ?_
  refine rg_q (.inl rfl) rfl rfl (by exact qr_load1 rfl (by repeat (first | exact List.Mem.head _ | apply List.Mem.tail | apply List.mem_append_right | assumption)) rfl) ?_
  refine rg_nil ?_
  refine qg_then ?_
  refine cg_block ?_
  refine cg_seq ?_
  refine cg_region ?_
  refine rg_q (.inl rfl) rfl rfl (by exact QW.qr (qw_eql_f rfl rfl (by decide))) ?_
  refine rg_q (.inl rfl) rfl rfl (by exact QW.qr (qw_assign rfl)) ?_
  refine rg_nil ?_
  refine qg_then ?_
  refine cg_false rfl ?_
  refine cg_seq ?_
  refine cg_region ?_
  refine rg_q (.inl rfl) rfl rfl (by exact QW.qr (qw_eql_f rfl rfl (by decide))) ?_
  refine rg_q (.inl rfl) rfl rfl (by exact QW.qr (qw_assign rfl)) ?_
  refine rg_nil ?_
  refine qg_then ?_
  refine cg_false rfl ?_
  refine cg_seq ?_
  refine cg_region ?_
  refine rg_q (.inl rfl) rfl rfl (by exact QW.qr (qw_eql_f rfl rfl (by decide))) ?_
  refine rg_q (.inl rfl) rfl rfl (by exact QW.qr (qw_assign rfl)) ?_
  refine rg_nil ?_
  refine qg_then ?_
  refine cg_false rfl ?_
  refine cg_seq ?_
  refine cg_region ?_
  refine rg_q (.inl rfl) rfl rfl (by exact QW.qr (qw_eql_f rfl rfl (by decide))) ?_
  refine rg_q (.inl rfl) rfl rfl (by exact QW.qr (qw_assign rfl)) ?_
  refine rg_nil ?_
  refine qg_then ?_
  refine cg_false rfl ?_
  refine cg_seq ?_
  refine cg_region ?_
  refine rg_q (.inl rfl) rfl rfl (by exact QW.qr (qw_eql_t rfl rfl rfl)) ?_
  refine rg_q (.inl rfl) rfl rfl (by exact QW.qr (qw_assign rfl)) ?_
  refine rg_nil ?_
  refine qg_then ?_
  refine cg_true rfl ?_
  refine cg_seq ?_
  refine cg_region ?_
  refine rg_q (.inl rfl) rfl rfl (by exact QW.qr (qw_move rfl)) ?_
  refine rg_q (.inl rfl) rfl rfl (by exact QW.qr (qw_fieldAddr rfl)) ?_
  refine rg_q (.inl rfl) rfl rfl (by exact qr_load1 rfl (by repeat (first | exact List.Mem.head _ | apply List.Mem.tail | apply List.mem_append_right | assumption)) rfl) ?_
  refine rg_q (.inl rfl) rfl rfl (by exact QW.qr (qw_fieldAddr rfl)) ?_
  refine rg_q (.inl rfl) rfl rfl (by exact qr_load1 rfl (by repeat (first | exact List.Mem.head _ | apply List.Mem.tail | apply List.mem_append_right | assumption)) rfl) ?_
  refine rg_e (.inl rfl) rfl rfl (by exact ev_call0 rfl (.cons rfl (.cons rfl (.cons rfl (.nil)))) ((rcrash_ca rb s R n m O (cat [K, [(b5, _)]] F) hr (by omega)).pre (fun w h => h.perm (cat_perm (ls' := [R, K, [(b5, _)]]) (ls := [[(b5, _)], K, R]) (by repeat (first | exact PermM.nil | refine PermM.cons (by repeat (first | exact Ins.here | apply Ins.there)) ?_)))))) ?_
  rintro _ _ ⟨rfl, R2, rfl, hr2⟩
  refine rg_nil ?_
  refine qg_then ?_
  refine cg_seq ?_
  refine cg_region ?_
  refine rg_q (.inl rfl) rfl rfl (by exact QW.qr (qw_move rfl)) ?_
  refine rg_q (.inl rfl) rfl rfl (by exact QW.qr (qw_fieldAddr rfl)) ?_
  refine rg_q (.inl rfl) rfl rfl (by exact qr_load1 rfl (by repeat (first | exact List.Mem.head _ | apply List.Mem.tail | apply List.mem_append_right | assumption)) rfl) ?_
  refine rg_q (.inl rfl) rfl rfl (by exact QW.qr (qw_fieldAddr rfl)) ?_
  refine rg_q (.inl rfl) rfl rfl (by exact qr_load1 rfl (by repeat (first | exact List.Mem.head _ | apply List.Mem.tail | apply List.mem_append_right | assumption)) rfl) ?_
  refine rg_e (.inl rfl) rfl rfl (by exact ev_call0 rfl (.cons rfl (.cons rfl (.cons rfl (.nil)))) ((crash_ca b s K n m O (cat [R2, [(b5, _)]] F) hs (by omega)).pre (fun w h => h.perm (cat_perm (ls' := [K, R2, [(b5, _)]]) (ls := [R2, K, [(b5, _)]]) (by repeat (first | exact PermM.nil | refine PermM.cons (by repeat (first | exact Ins.here | apply Ins.there)) ?_)))))) ?_
  rintro _ _ ⟨rfl, K2, rfl, hs2⟩
  refine rg_q (.inl rfl) rfl rfl (by exact QW.qr (qw_eql_t rfl rfl rfl)) ?_
  refine rg_q (.inl rfl) rfl rfl (by exact QW.qr (qw_assign rfl)) ?_
  refine rg_nil ?_
  refine qg_then ?_
  refine cg_ret ?_
  refine qg_block_ret ?_
  refine qg_then_ret ?_
  exact qg_end_sp (.inl rfl) _ (.cons (.tmp rfl) (.nil)) _ (cat_sub (ls' := [K2, R2]) (ls := [K2, R2, [(b5, _)]]) (by repeat (first | exact SubM.nil | refine SubM.cons (by repeat (first | exact Ins.here | apply Ins.there)) ?_))) ⟨K2, R2, rfl, hs2, hr2⟩

end Go.Proofs.Ytcbbogaanebefaa