/-
  THE WALK of the law's awake: two channels in a row; it answers true. No condition.
-/
import Derived.Test.YtjimpciiaceleaaA15
import Derived.Test.YtjimpciiaceleaaFwJ
namespace Go.Proofs.Ytjimpciiaceleaa
open Fw
set_option linter.unusedVariables false
set_option maxRecDepth 100000

def awEs : List Edge := [⟨0, 1, 9, 0, (0, 0), (0, 0)⟩, ⟨1, 2, 9, 0, (1, 0), (0, 0)⟩]
theorem aw_over : overF (1, 0) 5 = (6, 0) := by simp [overF, ofF, partF_none, addM]
theorem aw_back : backF 5 [(1, 0)] = ([6, 5], 0) := by
  have h : backF 5 [] = ([5], 0) := rfl
  rw [backF, h]
  show (if (overF (1, 0) 5).2 = 0 then ((overF (1, 0) 5).1 :: [5], 0) else ([], (overF (1, 0) 5).2)) = _
  rw [aw_over]
  rfl
theorem aw_fill : fillF awEs [0, 1, 2] [0, 1] 5 = some [6, 5] := by
  have h : feesOf awEs [0, 1, 2] [0, 1] = [(1, 0)] := by decide
  unfold fillF
  rw [h, aw_back, if_pos rfl, if_pos (by decide)]
theorem aw_steps0 : stepsF 3 awEs 0 = [⟨0, 1, 9, (0, 0)⟩] := by
  unfold stepsF; rw [if_pos (by decide)]; rfl
theorem aw_steps1 : stepsF 3 awEs 1 = [⟨0, 0, 0, (0, 0)⟩, ⟨1, 2, 9, (1, 0)⟩] := by
  unfold stepsF; rw [if_pos (by decide)]; rfl
theorem aw_seek2 : seekF awEs 3 2 5 5 [0, 1, 2] [0, 1] [] = ([⟨[0, 1, 2], [0, 1], [6, 5]⟩], true) := by
  have ha : addF awEs 5 [0, 1, 2] [0, 1] [] = [⟨[0, 1, 2], [0, 1], [6, 5]⟩] := by unfold addF; rw [aw_fill]; rfl
  rw [seekF, if_pos (by decide), ha]; rfl
theorem aw_seek1 : seekF awEs 3 2 5 6 [0, 1] [0] [] = ([⟨[0, 1, 2], [0, 1], [6, 5]⟩], true) := by
  rw [seekF, if_neg (by decide), show lastN [0, 1] = 1 from rfl, aw_steps1, loopS, if_pos (by decide), loopS, if_neg (by decide)]
  simp only [List.cons_append, List.nil_append, aw_seek2, if_true, loopS]
theorem aw_seek0 : seekF awEs 3 2 5 7 [0] [] [] = ([⟨[0, 1, 2], [0, 1], [6, 5]⟩], true) := by
  rw [seekF, if_neg (by decide), show lastN [0] = 0 from rfl, aw_steps0, loopS, if_neg (by decide)]
  simp only [List.cons_append, List.nil_append, aw_seek1, if_true, loopS]
theorem aw_all : allF 3 awEs 0 2 5 = ([⟨[0, 1, 2], [0, 1], [6, 5]⟩], 0) := by
  unfold allF
  rw [if_neg (by decide), aw_seek0]
theorem aw_best : bestF 3 awEs 0 2 5 = (⟨[0, 1, 2], [0, 1], [6, 5]⟩, 0) := by
  unfold bestF
  rw [aw_all]; rfl
theorem aw_good : ∀ e ∈ awEs, goodEdge e := by
  intro e he
  simp only [awEs, List.mem_cons, List.not_mem_nil, or_false] at he
  rcases he with rfl | rfl <;> (unfold goodEdge goodFee isU64; decide)
theorem seg_self (cs : List Value) : Seg cs.toArray 0 cs := fun j hj => by simp
theorem aw_rd_sp (b : Nat) (L : List Blk) (h : (b, Obj.cells [I 0, I 0, I 0, I 0, I 0, I 0].toArray 73 (0, 0)) ∈ L) : RdL L encSp 2 (.slice (some ⟨b, 0, none⟩) 3 3) [(0, 0), (0, 0), (0, 0)] :=
  ⟨_, _, rfl, rfl, Nat.le_refl 3, ⟨fun q h => (by cases h; rfl), fun h => (by cases h)⟩, fun _ => ⟨b, 0, _, _, _, rfl, h, seg_self _⟩⟩
theorem aw_rd_es (b : Nat) (L : List Blk) (h : (b, Obj.cells [I 0, I 1, U 9, U 0, U 0, U 0, U 0, U 0, I 1, I 2, U 9, U 0, U 1, U 0, U 0, U 0].toArray 71 (0, 0)) ∈ L) : RdL L encE 8 (.slice (some ⟨b, 0, none⟩) 2 2) awEs :=
  ⟨_, _, rfl, rfl, Nat.le_refl 2, ⟨fun q h => (by cases h; rfl), fun h => (by cases h)⟩, fun _ => ⟨b, 0, _, _, _, rfl, h, seg_self _⟩⟩

theorem awake_ca (O : Out) (L : List Blk) : CA Try.prog 6 [] O L fun v L' => v = .bool true ∧ L' = L := by
  refine ca_enter Try.func6 rfl rfl ?_
  rw [Try.ntmps6]
  simp only [envOf]
  refine cg_seq ?_
  refine cg_region ?_
  refine rg_q (.inl rfl) rfl rfl (by exact QW.qr (qw_assign rfl)) ?_
  refine rg_nil ?_
  refine qg_then ?_
  refine cg_seq ?_
  refine cg_region ?_
  refine rg_e (.inl rfl) rfl rfl (by exact ev_makeSliceN (T := 22) (e := 73) (esz := 2) (eby := 16) (zs := [I 0, I 0]) (by first | exact CellsOf.agg | exact CellsOf.one rfl) rfl rfl rfl rfl (by decide) (by decide) (by decide) (by decide)) ?_
  rintro _ _ ⟨b4, rfl, rfl⟩
  refine rg_q (.inl rfl) rfl rfl (by exact QW.qr (qw_build_arr (.cons rfl (.cons rfl (.nil))) (.cons rfl (by first | exact CellsOf.agg | exact CellsOf.one rfl) (by repeat (first | exact SetSeg.done | apply SetSeg.take | apply SetSeg.skip)) (by rfl) (by rfl) (.cons rfl (by first | exact CellsOf.agg | exact CellsOf.one rfl) (by repeat (first | exact SetSeg.done | apply SetSeg.take | apply SetSeg.skip)) (by rfl) (by rfl) (.nil))))) ?_
  refine rg_q (.inl rfl) rfl rfl (by exact QW.qr (qw_build_arr (.cons rfl (.cons rfl (.nil))) (.cons rfl (by first | exact CellsOf.agg | exact CellsOf.one rfl) (by repeat (first | exact SetSeg.done | apply SetSeg.take | apply SetSeg.skip)) (by rfl) (by rfl) (.cons rfl (by first | exact CellsOf.agg | exact CellsOf.one rfl) (by repeat (first | exact SetSeg.done | apply SetSeg.take | apply SetSeg.skip)) (by rfl) (by rfl) (.nil))))) ?_
  refine rg_q (.inl rfl) rfl rfl (by exact QW.qr (qw_build (.cons rfl (.cons rfl (.nil))) rfl (.cons rfl (by first | exact CellsOf.agg | exact CellsOf.one rfl) (by repeat (first | exact SetSeg.done | apply SetSeg.take | apply SetSeg.skip)) (by rfl) (by rfl) (.cons rfl (by first | exact CellsOf.agg | exact CellsOf.one rfl) (by repeat (first | exact SetSeg.done | apply SetSeg.take | apply SetSeg.skip)) (by rfl) (by rfl) (.nil))))) ?_
  refine rg_q (.inl rfl) rfl rfl (by exact QW.qr (qw_build_arr (.cons rfl (.cons rfl (.nil))) (.cons rfl (by first | exact CellsOf.agg | exact CellsOf.one rfl) (by repeat (first | exact SetSeg.done | apply SetSeg.take | apply SetSeg.skip)) (by rfl) (by rfl) (.cons rfl (by first | exact CellsOf.agg | exact CellsOf.one rfl) (by repeat (first | exact SetSeg.done | apply SetSeg.take | apply SetSeg.skip)) (by rfl) (by rfl) (.nil))))) ?_
  refine rg_q (.inl rfl) rfl rfl (by exact QW.qr (qw_build_arr (.cons rfl (.cons rfl (.nil))) (.cons rfl (by first | exact CellsOf.agg | exact CellsOf.one rfl) (by repeat (first | exact SetSeg.done | apply SetSeg.take | apply SetSeg.skip)) (by rfl) (by rfl) (.cons rfl (by first | exact CellsOf.agg | exact CellsOf.one rfl) (by repeat (first | exact SetSeg.done | apply SetSeg.take | apply SetSeg.skip)) (by rfl) (by rfl) (.nil))))) ?_
  refine rg_q (.inl rfl) rfl rfl (by exact QW.qr (qw_build (.cons rfl (.nil)) rfl (.cons rfl (by first | exact CellsOf.agg | exact CellsOf.one rfl) (by repeat (first | exact SetSeg.done | apply SetSeg.take | apply SetSeg.skip)) (by rfl) (by rfl) (.nil)))) ?_
  refine rg_q (.inl rfl) rfl rfl (by exact QW.qr (qw_build_arr (.cons rfl (.nil)) (.cons rfl (by first | exact CellsOf.agg | exact CellsOf.one rfl) (by repeat (first | exact SetSeg.done | apply SetSeg.take | apply SetSeg.skip)) (by rfl) (by rfl) (.nil)))) ?_
  refine rg_q (.inl rfl) rfl rfl (by exact QW.qr (qw_build (.cons rfl (.cons rfl (.cons rfl (.nil)))) rfl (.cons rfl (by first | exact CellsOf.agg | exact CellsOf.one rfl) (by repeat (first | exact SetSeg.done | apply SetSeg.take | apply SetSeg.skip)) (by rfl) (by rfl) (.cons rfl (by first | exact CellsOf.agg | exact CellsOf.one rfl) (by repeat (first | exact SetSeg.done | apply SetSeg.take | apply SetSeg.skip)) (by rfl) (by rfl) (.cons rfl (by first | exact CellsOf.agg | exact CellsOf.one rfl) (by repeat (first | exact SetSeg.done | apply SetSeg.take | apply SetSeg.skip)) (by rfl) (by rfl) (.nil)))))) ?_
  refine rg_e (.inl rfl) rfl rfl (by exact ev_buildSlice (.cons rfl (.cons rfl (.nil))) rfl (by first | exact CellsOf.agg | exact CellsOf.one rfl) (by rfl) (.cons rfl (by first | exact CellsOf.agg | exact CellsOf.one rfl) (by repeat (first | exact SetSeg.done | apply SetSeg.take | apply SetSeg.skip)) (by rfl) (by rfl) (.cons rfl (by first | exact CellsOf.agg | exact CellsOf.one rfl) (by repeat (first | exact SetSeg.done | apply SetSeg.take | apply SetSeg.skip)) (by rfl) (by rfl) (.nil)))) ?_
  rintro _ _ ⟨b13, rfl, rfl⟩
  refine rg_q (.inl rfl) rfl rfl (by exact QW.qr (qw_build (.cons rfl (.cons rfl (.nil))) rfl (.cons rfl (by first | exact CellsOf.agg | exact CellsOf.one rfl) (by repeat (first | exact SetSeg.done | apply SetSeg.take | apply SetSeg.skip)) (by rfl) (by rfl) (.cons rfl (by first | exact CellsOf.agg | exact CellsOf.one rfl) (by repeat (first | exact SetSeg.done | apply SetSeg.take | apply SetSeg.skip)) (by rfl) (by rfl) (.nil))))) ?_
  refine rg_e (.inl rfl) rfl rfl (by exact ev_alloc (by first | exact CellsOf.agg | exact CellsOf.one rfl)) ?_
  rintro _ _ ⟨b1, rfl, rfl⟩
  refine rg_e0 (.inl rfl) rfl (by exact ev_store rfl rfl (by first | exact CellsOf.agg | exact CellsOf.one rfl) (by repeat (first | exact List.Mem.head _ | apply List.Mem.tail | apply List.mem_append_right | assumption)) (by repeat (first | exact SetSeg.done | apply SetSeg.take | apply SetSeg.skip)) rfl rfl (by repeat (first | exact Upd.here | apply Upd.there | apply Upd.app)) (by first | exact Or.inl ⟨inferInstance, rfl⟩ | exact Or.inr inferInstance)) ?_
  rintro _ _ ⟨rfl, rfl⟩
  refine rg_nil ?_
  refine qg_then ?_
  refine cg_seq ?_
  refine cg_region ?_
  refine rg_q (.inl rfl) rfl rfl (by exact qr_loadN rfl (by repeat (first | exact List.Mem.head _ | apply List.Mem.tail | apply List.mem_append_right | assumption)) (by repeat (first | exact SegL.done | apply SegL.take | apply SegL.skip))) ?_
  refine rg_e (.inl rfl) rfl rfl (by exact ev_call0 rfl (.cons rfl (.nil)) (webTo_ca [(0, 0), (0, 0), (0, 0)] awEs _ _ O _ (aw_rd_sp b4 _ (by repeat (first | exact List.Mem.head _ | apply List.Mem.tail | apply List.mem_append_right | assumption))).w (aw_rd_es b13 _ (by repeat (first | exact List.Mem.head _ | apply List.Mem.tail | apply List.mem_append_right | assumption))).w (by decide) (by decide))) ?_
  rintro _ _ ⟨pw, cw, ew, Bw, rfl, rfl, hsw, hew⟩
  refine rg_e (.inl rfl) rfl rfl (by exact ev_call0 rfl (.cons rfl (.cons rfl (.cons rfl (.cons rfl (.nil))))) (best_ca 3 awEs 0 2 5 pw cw ew O _ (hew.mono (fun q hq => List.mem_append_left _ hq)) aw_good ⟨by decide, by decide⟩ (by decide) (by decide) (fun r hr => by have h := allF_ok aw_good ⟨by decide, by decide⟩ r hr; have := h.one; have := h.al; omega))) ?_
  rintro _ _ ⟨t, Br, rfl, rfl, ht⟩
  rw [aw_best] at ht ⊢
  obtain ⟨q1, l1, c1, q2, l2, c2, q3, l3, c3⟩ := t
  obtain ⟨ht1, ht2, ht3⟩ := ht
  obtain ⟨_, _, e1, _, _, _, _⟩ := id ht1
  obtain ⟨_, _, e2, _, _, _, _⟩ := id ht2
  obtain ⟨_, _, e3, _, _, _, hR⟩ := id ht3
  cases e1
  cases e2
  cases e3
  obtain ⟨ba, oa, Aa, ya, fza, rfl, hma, hsega⟩ := hR (by decide)
  have hg0 : Aa[oa + (0 : Int).toNat * 1]? = some (U 6) := seg_u hsega (i := 0) rfl (by simp)
  have hg1 : Aa[oa + (1 : Int).toNat * 1]? = some (U 5) := seg_u hsega (i := 1) rfl (by simp)
  unfold encRV
  refine rg_q (.inl rfl) rfl rfl (by exact QW.qr (qw_move rfl)) ?_
  refine rg_q (.inl rfl) rfl rfl (by exact QW.qr (qw_extract rfl rfl)) ?_
  refine rg_q (.inl rfl) rfl rfl (by exact QW.qr (qw_extract rfl rfl)) ?_
  refine rg_e (.inl rfl) rfl rfl (by exact ev_alloc (by first | exact CellsOf.agg | exact CellsOf.one rfl)) ?_
  rintro _ _ ⟨b2, rfl, rfl⟩
  refine rg_e0 (.inl rfl) rfl (by exact ev_store rfl rfl (by first | exact CellsOf.agg | exact CellsOf.one rfl) (by repeat (first | exact List.Mem.head _ | apply List.Mem.tail | apply List.mem_append_right | assumption)) (by repeat (first | exact SetSeg.done | apply SetSeg.take | apply SetSeg.skip)) rfl rfl (by repeat (first | exact Upd.here | apply Upd.there | apply Upd.app)) (by first | exact Or.inl ⟨inferInstance, rfl⟩ | exact Or.inr inferInstance)) ?_
  rintro _ _ ⟨rfl, rfl⟩
  refine rg_q (.inl rfl) rfl rfl (by exact QW.qr (qw_assign rfl)) ?_
  refine rg_nil ?_
  refine qg_then ?_
  refine cg_seq ?_
  refine cg_region ?_
  refine rg_q (.inl rfl) rfl rfl (by exact QW.qr (qw_move rfl)) ?_
  refine rg_q (.inl rfl) rfl rfl (by exact QW.qr (qw_eql_t rfl rfl rfl)) ?_
  refine rg_q (.inl rfl) rfl rfl (by exact QW.qr (qw_move rfl)) ?_
  refine rg_q (.inr (guard_mk rfl rfl rfl rfl)) rfl rfl (by exact QW.qr (qw_fieldAddr rfl)) ?_
  refine rg_q (.inr (guard_mk rfl rfl rfl rfl)) rfl rfl (by exact qr_load1 rfl (by repeat (first | exact List.Mem.head _ | apply List.Mem.tail | apply List.mem_append_right | assumption)) rfl) ?_
  refine rg_q (.inr (guard_mk rfl rfl rfl rfl)) rfl rfl (by exact QW.qr (qw_len_slice (t := 39) (.cons rfl (.nil)) rfl)) ?_
  refine rg_q (.inr (guard_mk rfl rfl rfl rfl)) rfl rfl (by exact QW.qr (qw_eql_t rfl rfl rfl)) ?_
  refine rg_q (.inl rfl) rfl rfl (by exact QW.qr (qw_pick_t rfl rfl)) ?_
  refine rg_q (.inl rfl) rfl rfl (by exact QW.qr (qw_move rfl)) ?_
  refine rg_q (.inr (guard_mk rfl rfl rfl rfl)) rfl rfl (by exact QW.qr (qw_fieldAddr rfl)) ?_
  refine rg_q (.inr (guard_mk rfl rfl rfl rfl)) rfl rfl (by exact qr_load1 rfl (by repeat (first | exact List.Mem.head _ | apply List.Mem.tail | apply List.mem_append_right | assumption)) rfl) ?_
  refine rg_q (.inr (guard_mk rfl rfl rfl rfl)) rfl rfl (by exact QW.qr (qw_indexAddr rfl rfl (by decide) (by show (0 : Int) < 2; decide))) ?_
  refine rg_q (.inr (guard_mk rfl rfl rfl rfl)) rfl rfl (by exact qr_load1' rfl (List.mem_cons_of_mem _ (List.mem_append_left _ hma)) hg0) ?_
  refine rg_q (.inr (guard_mk rfl rfl rfl rfl)) rfl rfl (by exact QW.qr (qw_eql_t rfl rfl rfl)) ?_
  refine rg_q (.inl rfl) rfl rfl (by exact QW.qr (qw_pick_t rfl rfl)) ?_
  refine rg_q (.inl rfl) rfl rfl (by exact QW.qr (qw_move rfl)) ?_
  refine rg_q (.inr (guard_mk rfl rfl rfl rfl)) rfl rfl (by exact QW.qr (qw_fieldAddr rfl)) ?_
  refine rg_q (.inr (guard_mk rfl rfl rfl rfl)) rfl rfl (by exact qr_load1 rfl (by repeat (first | exact List.Mem.head _ | apply List.Mem.tail | apply List.mem_append_right | assumption)) rfl) ?_
  refine rg_q (.inr (guard_mk rfl rfl rfl rfl)) rfl rfl (by exact QW.qr (qw_indexAddr rfl rfl (by decide) (by show (1 : Int) < 2; decide))) ?_
  refine rg_q (.inr (guard_mk rfl rfl rfl rfl)) rfl rfl (by exact qr_load1' rfl (List.mem_cons_of_mem _ (List.mem_append_left _ hma)) hg1) ?_
  refine rg_q (.inr (guard_mk rfl rfl rfl rfl)) rfl rfl (by exact QW.qr (qw_eql_t rfl rfl rfl)) ?_
  refine rg_q (.inl rfl) rfl rfl (by exact QW.qr (qw_pick_t rfl rfl)) ?_
  refine rg_q (.inl rfl) rfl rfl (by exact QW.qr (qw_move rfl)) ?_
  refine rg_q (.inr (guard_mk rfl rfl rfl rfl)) rfl rfl (by exact qr_loadN rfl (by repeat (first | exact List.Mem.head _ | apply List.Mem.tail | apply List.mem_append_right | assumption)) (by repeat (first | exact SegL.done | apply SegL.take | apply SegL.skip))) ?_
  refine rg_e (.inr (guard_mk rfl rfl rfl rfl)) rfl rfl (by exact ev_call0 rfl (.cons rfl (.nil)) (long_ca _ _ _ _ _ rfl rfl O _)) ?_
  rintro _ _ ⟨rfl, rfl⟩
  refine rg_q (.inr (guard_mk rfl rfl rfl rfl)) rfl rfl (by exact QW.qr (qw_eql_t rfl rfl rfl)) ?_
  refine rg_q (.inl rfl) rfl rfl (by exact QW.qr (qw_pick_t rfl rfl)) ?_
  refine rg_q (.inl rfl) rfl rfl (by exact QW.qr (qw_move rfl)) ?_
  refine rg_q (.inr (guard_mk rfl rfl rfl rfl)) rfl rfl (by exact qr_loadN rfl (by repeat (first | exact List.Mem.head _ | apply List.Mem.tail | apply List.mem_append_right | assumption)) (by repeat (first | exact SegL.done | apply SegL.take | apply SegL.skip))) ?_
  refine rg_e (.inr (guard_mk rfl rfl rfl rfl)) rfl rfl (by exact ev_call0 rfl (.cons rfl (.nil)) (fees_ca [6, 5] _ _ _ rfl rfl O _ (ht3.mono (fun q hq => List.mem_cons_of_mem _ (List.mem_append_left _ hq))) (by decide))) ?_
  rintro _ _ ⟨rfl, rfl⟩
  refine rg_q (.inr (guard_mk rfl rfl rfl rfl)) rfl rfl (by exact QW.qr (qw_eql_t rfl rfl rfl)) ?_
  refine rg_q (.inl rfl) rfl rfl (by exact QW.qr (qw_pick_t rfl rfl)) ?_
  refine rg_q (.inl rfl) rfl rfl (by exact QW.qr (qw_assign rfl)) ?_
  refine rg_nil ?_
  refine qg_then ?_
  refine cg_ret ?_
  exact qg_end_sp (.inl rfl) _ (.cons (.tmp rfl) (.nil)) L (cat_sub (ls' := []) (ls := [[(b2, _)], Br, Bw, [(b1, _)], [(b13, _)], [(b4, _)]]) (by repeat (first | exact SubM.nil | refine SubM.cons (by repeat (first | exact Ins.here | apply Ins.there)) ?_))) ⟨rfl, rfl⟩

end Go.Proofs.Ytjimpciiaceleaa