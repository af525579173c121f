/-
  THE WALK of the law's awake: three channels in a ring; it answers true. No condition.
-/
import Derived.Test.YtjimpciiaceleaaA27
namespace Go.Proofs.Ytjimpciiaceleaa
open Fw
set_option linter.unusedVariables false
set_option maxRecDepth 100000

def rbEs : List Edge := [⟨0, 1, 9, 0, (0, 0), (0, 0)⟩, ⟨1, 2, 9, 0, (0, 0), (0, 0)⟩, ⟨2, 0, 9, 0, (0, 0), (0, 0)⟩]
def rbW : List Edge := [⟨0, 1, 0, 0, (0, 0), (0, 0)⟩, ⟨1, 2, 9, 0, (0, 0), (0, 0)⟩, ⟨2, 0, 0, 0, (0, 0), (0, 0)⟩]
theorem rb_over : overF (0, 0) 5 = (5, 0) := by simp [overF, ofF, partF_none, addM]
theorem rb_back0 : backF 5 [] = ([5], 0) := rfl
theorem rb_back1 : backF 5 [(0, 0)] = ([5, 5], 0) := by
  rw [backF, rb_back0]
  show (if (overF (0, 0) 5).2 = 0 then ((overF (0, 0) 5).1 :: [5], 0) else ([], (overF (0, 0) 5).2)) = _
  rw [rb_over]
  rfl
theorem rb_fill1 : fillF rbW [1, 0, 2] [0, 2] 5 = none := by
  have h : feesOf rbW [1, 0, 2] [0, 2] = [(0, 0)] := by decide
  unfold fillF
  rw [h, rb_back1, if_pos rfl, if_neg (by decide)]
theorem rb_fill2 : fillF rbW [1, 2] [1] 5 = some [5] := by
  have h : feesOf rbW [1, 2] [1] = [] := by decide
  unfold fillF
  rw [h, rb_back0, if_pos rfl, if_pos (by decide)]
theorem rb_steps0 : stepsF 3 rbW 0 = [⟨0, 1, 0, (0, 0)⟩, ⟨2, 2, 0, (0, 0)⟩] := by
  unfold stepsF; rw [if_pos (by decide)]; rfl
theorem rb_steps1 : stepsF 3 rbW 1 = [⟨0, 0, 0, (0, 0)⟩, ⟨1, 2, 9, (0, 0)⟩] := by
  unfold stepsF; rw [if_pos (by decide)]; rfl
theorem rb_seekA : seekF rbW 3 2 5 5 [1, 0, 2] [0, 2] [] = ([], true) := by
  have ha : addF rbW 5 [1, 0, 2] [0, 2] [] = [] := by unfold addF; rw [rb_fill1]
  rw [seekF, if_pos (by decide), ha]; rfl
theorem rb_seekB : seekF rbW 3 2 5 6 [1, 0] [0] [] = ([], true) := by
  rw [seekF, if_neg (by decide), show lastN [1, 0] = 0 from rfl, rb_steps0, loopS, if_pos (by decide), loopS, if_neg (by decide)]
  simp only [List.cons_append, List.nil_append, rb_seekA, if_true, loopS]
theorem rb_seekC : seekF rbW 3 2 5 6 [1, 2] [1] [] = ([⟨[1, 2], [1], [5]⟩], true) := by
  have ha : addF rbW 5 [1, 2] [1] [] = [⟨[1, 2], [1], [5]⟩] := by unfold addF; rw [rb_fill2]; rfl
  rw [seekF, if_pos (by decide), ha]; rfl
theorem rb_seek : seekF rbW 3 2 5 7 [1] [] [] = ([⟨[1, 2], [1], [5]⟩], true) := by
  rw [seekF, if_neg (by decide), show lastN [1] = 1 from rfl, rb_steps1, loopS, if_neg (by decide)]
  simp only [List.cons_append, List.nil_append, rb_seekB, if_true]
  rw [loopS, if_neg (by decide)]
  simp only [List.cons_append, List.nil_append, rb_seekC, if_true, loopS]
theorem rb_all : allF 3 rbW 1 2 5 = ([⟨[1, 2], [1], [5]⟩], 0) := by
  unfold allF
  rw [if_neg (by decide), rb_seek]
theorem rb_best : bestF 3 rbW 1 2 5 = (⟨[1, 2], [1], [5]⟩, 0) := by
  unfold bestF
  rw [rb_all]; rfl
theorem rb_without : withoutF rbEs 0 = rbW := by
  unfold withoutF rbEs rbW
  rfl
theorem rb_mid : midF 3 rbEs 0 0 1 2 5 = .inr ([0, 1, 2], [0, 1], [5], 5) := by
  have h : overF (feeOf rbEs (1, 1)) 5 = (5, 0) := by rw [show feeOf rbEs (1, 1) = (0, 0) from by decide]; exact rb_over
  rw [midF, if_neg (by decide), rb_without, rb_best, if_neg (fun h => h rfl), if_neg (by decide)]
  simp [gi_cons0, h]
theorem rb_cycle : cycleF 3 rbEs 0 0 2 5 = (⟨[0, 1, 2, 0], [0, 1, 2], [5, 5, 5], 0⟩, 0) := by
  have hb : backFee rbEs 2 1 5 = (5, 0) := by
    show overF (0, 0) 5 = _
    exact rb_over
  rw [cycleF_on (s1 := 0) (s2 := 1) (first := 1) (last := 2) (by decide) (by decide) (by decide) (by decide) (by decide), if_neg (by decide), hb, if_neg (fun h => h rfl)]
  show cyc3 rbEs 0 0 2 5 0 (midF 3 rbEs 0 0 1 2 5) = _
  rw [rb_mid, cyc3, if_neg (by decide)]
  rfl
theorem rb_good : ∀ e ∈ rbEs, goodEdge e := by
  intro e he
  simp only [rbEs, List.mem_cons, List.not_mem_nil, or_false] at he
  rcases he with rfl | rfl | rfl <;> (unfold goodEdge goodFee isU64; decide)
theorem rb_rd_es (b : Nat) (L : List Blk) (h : (b, Obj.cells [I 0, I 1, U 9, U 0, U 0, U 0, U 0, U 0, I 1, I 2, U 9, U 0, U 0, U 0, U 0, U 0, I 2, I 0, U 9, U 0, U 0, U 0, U 0, U 0].toArray 71 (0, 0)) ∈ L) : RdL L encE 8 (.slice (some ⟨b, 0, none⟩) 3 3) rbEs :=
  ⟨_, _, rfl, rfl, Nat.le_refl 3, ⟨fun q h => (by cases h; rfl), fun h => (by cases h)⟩, fun _ => ⟨b, 0, _, _, _, rfl, h, seg_self _⟩⟩

theorem rbAwake_ca (O : Out) (L : List Blk) : CA Try.prog 13 [] O L fun v L' => v = .bool true ∧ L' = L := by
  refine ca_enter Try.func13 rfl rfl ?_
  rw [Try.ntmps13]
  simp only [envOf]
  refine cg_seq ?_
  refine cg_region ?_
  refine rg_q (.inl rfl) rfl rfl (by exact QW.qr (qw_assign rfl)) ?_
  refine rg_nil ?_
  refine qg_then ?_
  refine cg_seq ?_
  refine cg_region ?_
  refine rg_e (.inl rfl) rfl rfl (by exact ev_makeSliceN (T := 22) (e := 73) (esz := 2) (eby := 16) (zs := [I 0, I 0]) (by first | exact CellsOf.agg | exact CellsOf.one rfl) rfl rfl rfl rfl (by decide) (by decide) (by decide) (by decide)) ?_
  rintro _ _ ⟨b4, rfl, rfl⟩
  refine rg_q (.inl rfl) rfl rfl (by exact QW.qr (qw_build_arr (.cons rfl (.cons rfl (.nil))) (.cons rfl (by first | exact CellsOf.agg | exact CellsOf.one rfl) (by repeat (first | exact SetSeg.done | apply SetSeg.take | apply SetSeg.skip)) (by rfl) (by rfl) (.cons rfl (by first | exact CellsOf.agg | exact CellsOf.one rfl) (by repeat (first | exact SetSeg.done | apply SetSeg.take | apply SetSeg.skip)) (by rfl) (by rfl) (.nil))))) ?_
  refine rg_q (.inl rfl) rfl rfl (by exact QW.qr (qw_build_arr (.cons rfl (.cons rfl (.nil))) (.cons rfl (by first | exact CellsOf.agg | exact CellsOf.one rfl) (by repeat (first | exact SetSeg.done | apply SetSeg.take | apply SetSeg.skip)) (by rfl) (by rfl) (.cons rfl (by first | exact CellsOf.agg | exact CellsOf.one rfl) (by repeat (first | exact SetSeg.done | apply SetSeg.take | apply SetSeg.skip)) (by rfl) (by rfl) (.nil))))) ?_
  refine rg_q (.inl rfl) rfl rfl (by exact QW.qr (qw_build (.cons rfl (.cons rfl (.nil))) rfl (.cons rfl (by first | exact CellsOf.agg | exact CellsOf.one rfl) (by repeat (first | exact SetSeg.done | apply SetSeg.take | apply SetSeg.skip)) (by rfl) (by rfl) (.cons rfl (by first | exact CellsOf.agg | exact CellsOf.one rfl) (by repeat (first | exact SetSeg.done | apply SetSeg.take | apply SetSeg.skip)) (by rfl) (by rfl) (.nil))))) ?_
  refine rg_q (.inl rfl) rfl rfl (by exact QW.qr (qw_build_arr (.cons rfl (.cons rfl (.nil))) (.cons rfl (by first | exact CellsOf.agg | exact CellsOf.one rfl) (by repeat (first | exact SetSeg.done | apply SetSeg.take | apply SetSeg.skip)) (by rfl) (by rfl) (.cons rfl (by first | exact CellsOf.agg | exact CellsOf.one rfl) (by repeat (first | exact SetSeg.done | apply SetSeg.take | apply SetSeg.skip)) (by rfl) (by rfl) (.nil))))) ?_
  refine rg_q (.inl rfl) rfl rfl (by exact QW.qr (qw_build_arr (.cons rfl (.cons rfl (.nil))) (.cons rfl (by first | exact CellsOf.agg | exact CellsOf.one rfl) (by repeat (first | exact SetSeg.done | apply SetSeg.take | apply SetSeg.skip)) (by rfl) (by rfl) (.cons rfl (by first | exact CellsOf.agg | exact CellsOf.one rfl) (by repeat (first | exact SetSeg.done | apply SetSeg.take | apply SetSeg.skip)) (by rfl) (by rfl) (.nil))))) ?_
  refine rg_q (.inl rfl) rfl rfl (by exact QW.qr (qw_build (.cons rfl (.cons rfl (.nil))) rfl (.cons rfl (by first | exact CellsOf.agg | exact CellsOf.one rfl) (by repeat (first | exact SetSeg.done | apply SetSeg.take | apply SetSeg.skip)) (by rfl) (by rfl) (.cons rfl (by first | exact CellsOf.agg | exact CellsOf.one rfl) (by repeat (first | exact SetSeg.done | apply SetSeg.take | apply SetSeg.skip)) (by rfl) (by rfl) (.nil))))) ?_
  refine rg_q (.inl rfl) rfl rfl (by exact QW.qr (qw_build_arr (.cons rfl (.cons rfl (.nil))) (.cons rfl (by first | exact CellsOf.agg | exact CellsOf.one rfl) (by repeat (first | exact SetSeg.done | apply SetSeg.take | apply SetSeg.skip)) (by rfl) (by rfl) (.cons rfl (by first | exact CellsOf.agg | exact CellsOf.one rfl) (by repeat (first | exact SetSeg.done | apply SetSeg.take | apply SetSeg.skip)) (by rfl) (by rfl) (.nil))))) ?_
  refine rg_q (.inl rfl) rfl rfl (by exact QW.qr (qw_build_arr (.cons rfl (.cons rfl (.nil))) (.cons rfl (by first | exact CellsOf.agg | exact CellsOf.one rfl) (by repeat (first | exact SetSeg.done | apply SetSeg.take | apply SetSeg.skip)) (by rfl) (by rfl) (.cons rfl (by first | exact CellsOf.agg | exact CellsOf.one rfl) (by repeat (first | exact SetSeg.done | apply SetSeg.take | apply SetSeg.skip)) (by rfl) (by rfl) (.nil))))) ?_
  refine rg_q (.inl rfl) rfl rfl (by exact QW.qr (qw_build (.cons rfl (.cons rfl (.nil))) rfl (.cons rfl (by first | exact CellsOf.agg | exact CellsOf.one rfl) (by repeat (first | exact SetSeg.done | apply SetSeg.take | apply SetSeg.skip)) (by rfl) (by rfl) (.cons rfl (by first | exact CellsOf.agg | exact CellsOf.one rfl) (by repeat (first | exact SetSeg.done | apply SetSeg.take | apply SetSeg.skip)) (by rfl) (by rfl) (.nil))))) ?_
  refine rg_e (.inl rfl) rfl rfl (by exact ev_buildSlice (.cons rfl (.cons rfl (.cons rfl (.nil)))) rfl (by first | exact CellsOf.agg | exact CellsOf.one rfl) (by rfl) (.cons rfl (by first | exact CellsOf.agg | exact CellsOf.one rfl) (by repeat (first | exact SetSeg.done | apply SetSeg.take | apply SetSeg.skip)) (by rfl) (by rfl) (.cons rfl (by first | exact CellsOf.agg | exact CellsOf.one rfl) (by repeat (first | exact SetSeg.done | apply SetSeg.take | apply SetSeg.skip)) (by rfl) (by rfl) (.cons rfl (by first | exact CellsOf.agg | exact CellsOf.one rfl) (by repeat (first | exact SetSeg.done | apply SetSeg.take | apply SetSeg.skip)) (by rfl) (by rfl) (.nil))))) ?_
  rintro _ _ ⟨b14, rfl, rfl⟩
  refine rg_q (.inl rfl) rfl rfl (by exact QW.qr (qw_build (.cons rfl (.cons rfl (.nil))) rfl (.cons rfl (by first | exact CellsOf.agg | exact CellsOf.one rfl) (by repeat (first | exact SetSeg.done | apply SetSeg.take | apply SetSeg.skip)) (by rfl) (by rfl) (.cons rfl (by first | exact CellsOf.agg | exact CellsOf.one rfl) (by repeat (first | exact SetSeg.done | apply SetSeg.take | apply SetSeg.skip)) (by rfl) (by rfl) (.nil))))) ?_
  refine rg_e (.inl rfl) rfl rfl (by exact ev_alloc (by first | exact CellsOf.agg | exact CellsOf.one rfl)) ?_
  rintro _ _ ⟨b1, rfl, rfl⟩
  refine rg_e0 (.inl rfl) rfl (by exact ev_store rfl rfl (by first | exact CellsOf.agg | exact CellsOf.one rfl) (by repeat (first | exact List.Mem.head _ | apply List.Mem.tail | apply List.mem_append_right | assumption)) (by repeat (first | exact SetSeg.done | apply SetSeg.take | apply SetSeg.skip)) rfl rfl (by repeat (first | exact Upd.here | apply Upd.there | apply Upd.app)) (by first | exact Or.inl ⟨inferInstance, rfl⟩ | exact Or.inr inferInstance)) ?_
  rintro _ _ ⟨rfl, rfl⟩
  refine rg_nil ?_
  refine qg_then ?_
  refine cg_seq ?_
  refine cg_region ?_
  refine rg_q (.inl rfl) rfl rfl (by exact qr_loadN rfl (by repeat (first | exact List.Mem.head _ | apply List.Mem.tail | apply List.mem_append_right | assumption)) (by repeat (first | exact SegL.done | apply SegL.take | apply SegL.skip))) ?_
  refine rg_e (.inl rfl) rfl rfl (by exact ev_call0 rfl (.cons rfl (.nil)) (webTo_ca [(0, 0), (0, 0), (0, 0)] rbEs _ _ O _ (aw_rd_sp b4 _ (by repeat (first | exact List.Mem.head _ | apply List.Mem.tail | apply List.mem_append_right | assumption))).w (rb_rd_es b14 _ (by repeat (first | exact List.Mem.head _ | apply List.Mem.tail | apply List.mem_append_right | assumption))).w (by decide) (by decide))) ?_
  rintro _ _ ⟨pw, cw, ew, Bw, rfl, rfl, hsw, hew⟩
  obtain ⟨pe2, ce2, rfl, _⟩ := id hew
  refine rg_e (.inl rfl) rfl rfl (by exact ev_call0 rfl (.cons rfl (.cons rfl (.cons rfl (.cons rfl (.cons rfl (.nil)))))) (cycle_ca [(0, 0), (0, 0), (0, 0)] rbEs 0 0 2 5 _ _ (by decide) (by decide) rb_good ⟨by decide, by decide⟩ O _ (hsw.mono (fun q hq => List.mem_append_left _ hq)) (hew.mono (fun q hq => List.mem_append_left _ hq)))) ?_
  rintro _ _ ⟨nv, xv, cv, Br, rfl, rfl, h1, h2, h3⟩
  rw [show ([((0 : Int), (0 : Int)), (0, 0), (0, 0)]).length = 3 from rfl, rb_cycle] at h1 h2 h3 ⊢
  obtain ⟨p1, c1, rfl, _⟩ := id h1
  obtain ⟨p2, c2, rfl, _⟩ := id h2
  obtain ⟨p3, c3, rfl, _⟩ := id h3
  refine rg_q (.inl rfl) rfl rfl (by exact QW.qr (qw_move rfl)) ?_
  refine rg_q (.inl rfl) rfl rfl (by exact QW.qr (qw_extract rfl rfl)) ?_
  refine rg_q (.inl rfl) rfl rfl (by exact QW.qr (qw_extract rfl rfl)) ?_
  refine rg_e (.inl rfl) rfl rfl (by exact ev_alloc (by first | exact CellsOf.agg | exact CellsOf.one rfl)) ?_
  rintro _ _ ⟨b2, rfl, rfl⟩
  refine rg_e0 (.inl rfl) rfl (by exact ev_store rfl rfl (by first | exact CellsOf.agg | exact CellsOf.one rfl) (by repeat (first | exact List.Mem.head _ | apply List.Mem.tail | apply List.mem_append_right | assumption)) (by repeat (first | exact SetSeg.done | apply SetSeg.take | apply SetSeg.skip)) rfl rfl (by repeat (first | exact Upd.here | apply Upd.there | apply Upd.app)) (by first | exact Or.inl ⟨inferInstance, rfl⟩ | exact Or.inr inferInstance)) ?_
  rintro _ _ ⟨rfl, rfl⟩
  refine rg_q (.inl rfl) rfl rfl (by exact QW.qr (qw_assign rfl)) ?_
  refine rg_nil ?_
  refine qg_then ?_
  refine cg_seq ?_
  refine cg_region ?_
  refine rg_q (.inl rfl) rfl rfl (by exact QW.qr (qw_move rfl)) ?_
  refine rg_q (.inl rfl) rfl rfl (by exact QW.qr (qw_eql_t rfl rfl rfl)) ?_
  refine rg_q (.inl rfl) rfl rfl (by exact QW.qr (qw_move rfl)) ?_
  refine rg_q (.inr (guard_mk rfl rfl rfl rfl)) rfl rfl (by exact QW.qr (qw_fieldAddr rfl)) ?_
  refine rg_q (.inr (guard_mk rfl rfl rfl rfl)) rfl rfl (by exact qr_load1 rfl (by repeat (first | exact List.Mem.head _ | apply List.Mem.tail | apply List.mem_append_right | assumption)) rfl) ?_
  refine rg_q (.inr (guard_mk rfl rfl rfl rfl)) rfl rfl (by exact QW.qr (qw_len_slice (t := 38) (.cons rfl (.nil)) rfl)) ?_
  refine rg_q (.inr (guard_mk rfl rfl rfl rfl)) rfl rfl (by exact QW.qr (qw_eql_t rfl rfl rfl)) ?_
  refine rg_q (.inl rfl) rfl rfl (by exact QW.qr (qw_pick_t rfl rfl)) ?_
  refine rg_q (.inl rfl) rfl rfl (by exact QW.qr (qw_move rfl)) ?_
  refine rg_q (.inr (guard_mk rfl rfl rfl rfl)) rfl rfl (by exact QW.qr (qw_fieldAddr rfl)) ?_
  refine rg_q (.inr (guard_mk rfl rfl rfl rfl)) rfl rfl (by exact qr_load1 rfl (by repeat (first | exact List.Mem.head _ | apply List.Mem.tail | apply List.mem_append_right | assumption)) rfl) ?_
  refine rg_q (.inr (guard_mk rfl rfl rfl rfl)) rfl rfl (by exact QW.qr (qw_eql_t rfl rfl rfl)) ?_
  refine rg_q (.inl rfl) rfl rfl (by exact QW.qr (qw_pick_t rfl rfl)) ?_
  refine rg_q (.inl rfl) rfl rfl (by exact QW.qr (qw_move rfl)) ?_
  refine rg_q (.inr (guard_mk rfl rfl rfl rfl)) rfl rfl (by exact QW.qr (qw_fieldAddr rfl)) ?_
  refine rg_q (.inr (guard_mk rfl rfl rfl rfl)) rfl rfl (by exact qr_load1 rfl (by repeat (first | exact List.Mem.head _ | apply List.Mem.tail | apply List.mem_append_right | assumption)) rfl) ?_
  refine rg_q (.inr (guard_mk rfl rfl rfl rfl)) rfl rfl (by exact QW.qr (qw_len_slice (t := 38) (.cons rfl (.nil)) rfl)) ?_
  refine rg_q (.inr (guard_mk rfl rfl rfl rfl)) rfl rfl (by exact QW.qr (qw_eql_t rfl rfl rfl)) ?_
  refine rg_q (.inl rfl) rfl rfl (by exact QW.qr (qw_pick_t rfl rfl)) ?_
  refine rg_q (.inl rfl) rfl rfl (by exact QW.qr (qw_assign rfl)) ?_
  refine rg_nil ?_
  refine qg_then ?_
  refine cg_ret ?_
  exact qg_end_sp (.inl rfl) _ (.cons (.tmp rfl) (.nil)) L (cat_sub (ls' := []) (ls := [[(b2, _)], Br, Bw, [(b1, _)], [(b14, _)], [(b4, _)]]) (by repeat (first | exact SubM.nil | refine SubM.cons (by repeat (first | exact Ins.here | apply Ins.there)) ?_))) ⟨rfl, rfl⟩

end Go.Proofs.Ytjimpciiaceleaa