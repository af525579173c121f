/-
  THE WALKS of slab's Fuse, of logbook's Open with a slab that is nil, and of the law's example awake. Conditions: sizes.
-/
import Derived.Test.YtcbbogaanebefaaB11
namespace Go.Proofs.Ytcbbogaanebefaa
open Fw
open Go.Proofs (encStr)
set_option linter.unusedVariables false
set_option linter.unusedSimpArgs false
set_option maxRecDepth 100000
set_option maxHeartbeats 1000000

namespace Fw
theorem ev_freeze {P : Program} {n : Nat} {E : Env} {O : Out} {L : List Blk} {dst : Option Tmp} {T ty : TypeId} {pos : String} {after : Array _root_.Go.Edge} {g : Option (Nat × Bool)} {x : Operand} {e b len cap : Nat} {cs : Array Value} {L' : List Blk} [ht : TUn P T (.slice e)] [he : TUn P e (.int .u8)] (h : ev E x = some (.slice (some ⟨b, 0, none⟩) len cap))
    (hu : Upd b (.cells cs e (0, 0)) (.cells cs e (cs.size, cs.size + 1)) L L') :
    EV P ⟨dst, .convert T T x, ty, pos, after, g⟩ n E O L fun u L1 => u = .slice (some ⟨b, 0, none⟩) len cap ∧ L1 = L' := fun a w hf hh K Q hk => by
  have hb := hh.all _ _ hu.mem
  have hlt := hh.lt hu.mem
  have hsh : w.shape? b = some (e, cs.size) := by unfold World.shape?; rw [hb]
  have hfr : w.freeze ⟨b, cs.size, none⟩ 1 = setBlk w b (.cells cs e (cs.size, cs.size + 1)) := by
    unfold World.freeze setBlk
    rw [if_neg (by decide)]
    congr 1
    apply Array.ext_getElem?
    intro i
    rw [Array.getElem?_modify]
    by_cases hi : b = i
    · subst hi
      rw [if_pos rfl, hb]
      simp [hlt]
    · rw [if_neg hi, Array.getElem?_setIfInBounds_ne hi]
  have hrun : (convert T T (.slice (some ⟨b, 0, none⟩) len cap)).run P w = .ok (.slice (some ⟨b, 0, none⟩) len cap) (setBlk w b (.cells cs e (cs.size, cs.size + 1))) := by
    simp [convert, run_underlying ht.ok, run_underlying he.ok, markStringish, hsh, hfr]
  unfold Oper.wp
  have : (execOp a.eval ⟨dst, .convert T T x, ty, pos, after, g⟩).run P w = .ok (.value (.slice (some ⟨b, 0, none⟩) len cap)) (setBlk w b (.cells cs e (cs.size, cs.size + 1))) := by
    simp [execOp, hf.ev h, hrun]
  rw [this]
  exact hk _ _ _ (hu.has hh) ⟨rfl, rfl⟩
end Fw
def fuseS (s : Slab) (n : Int) : Slab := if s.down = true then s else ⟨s.sure, s.loose, s.steps, max n (-1), s.down⟩
theorem namesOf_nil {α : Type} : namesOf ([] : List (Bytes × α)) = [] := by simp [namesOf]
def S1 : Bytes := recF 1 [] (numF 1 4) ++ recF 4 [] []
def S2 : Bytes := recF 1 [] (numF 2 4) ++ recF 4 [] []
theorem compactB_nil (a life d : Int) : compactB ⟨a, life, [], d⟩ = recF 1 [] (numF (life + 1) 4) ++ recF 4 [] [] := by
  unfold compactB entriesF
  simp [namesOf_nil]
theorem aw_open : openS newS newS = (⟨0, 1, [], 0⟩, ⟨S1, [], 3, -1, false⟩, newS, 0) := by
  rw [openS, if_neg (by decide)]
  rw [show (pickK newS newS 2).2 = ⟨1, 0, [], 0⟩ from rfl]
  unfold compact2 compactL
  simp only [compactB_nil]
  rfl
theorem aw_put : putL ⟨0, 1, [], 0⟩ ⟨S1, [], 3, -1, false⟩ [120] [121] = (⟨0, 1, [([120], [121])], 0⟩, ⟨S1, recF 2 [120] [121], 4, -1, false⟩, 0) := by rfl
theorem aw_crash : crashS ⟨S1, recF 2 [120] [121], 4, -1, false⟩ 0 0 = ⟨S1, [], 4, -1, false⟩ := by rfl
theorem aw_open2 : openS ⟨S1, [], 4, -1, false⟩ newS = (⟨1, 2, [], 0⟩, ⟨S1, [], 4, -1, false⟩, ⟨S2, [], 3, -1, false⟩, 0) := by
  rw [openS, if_neg (by decide)]
  rw [show (pickK ⟨S1, [], 4, -1, false⟩ newS 2).2 = ⟨0, 1, [], 0⟩ from rfl]
  unfold compact2 compactL
  simp only [compactB_nil]
  rfl

theorem fuse_ca (b : Nat) (s : Slab) (Bk : List Blk) (n : Int) (O : Out) (L : List Blk) (hs : SlabAt b s Bk) :
    CA Try.prog 20 [PT b, I n] O (Bk ++ L) fun v L' => ∃ e Bk2, v = I e ∧ L' = Bk2 ++ L ∧ SlabAt b (fuseS s n) Bk2 := by
  obtain ⟨sv, lv, Bs, Bl, hos, hol, rfl⟩ := hs
  show CA _ _ _ O (cat [_] L) _
  rw [slab_open]
  obtain ⟨ps, cs, rfl, hqs⟩ := id (hos.rd (fun _ => rfl) (by decide))
  obtain ⟨pl, cl, rfl, hql⟩ := id (hol.rd (fun _ => rfl) (by decide))
  refine ca_enter Try.func20 rfl rfl ?_
  rw [Try.ntmps20]
  simp only [envOf]
  refine cg_seq ?_
  refine cg_region ?_
  refine rg_q (.inl rfl) rfl rfl (by exact QW.qr (qw_assign rfl)) ?_
  refine rg_nil ?_
  refine qg_then ?_
  refine cg_seq ?_
  refine cg_seq ?_
  refine cg_region ?_
  refine rg_q (.inl rfl) rfl rfl (by exact QW.qr (qw_move rfl)) ?_
  refine rg_e (.inl rfl) rfl rfl (by exact ev_call0 rfl (.cons rfl (.nil)) (slabUp_ca b _ _ s O _ (mem_cat (s := [slabBlk b _ _ s]) (by repeat (first | exact List.Mem.head _ | apply List.Mem.tail)) (List.Mem.head _)))) ?_
  rintro _ _ ⟨rfl, rfl⟩
  generalize hup : (if s.down = true then (5 : Int) else 0) = up
  refine rg_q (.inl rfl) rfl rfl (by exact QW.qr (qw_assign rfl)) ?_
  refine rg_nil ?_
  refine qg_then ?_
  refine cg_seq ?_
  refine cg_region ?_
  refine rg_q (.inl rfl) rfl rfl (by exact QW.qr (qw_move rfl)) ?_
  refine rg_split (.inl rfl) rfl rfl (by exact qc_neq rfl rfl) ?_ ?_
  · intro hc
    have hdn : s.down = true := by
      cases hd : s.down
      · rw [hd] at hup; exact absurd hup.symm hc
      · rfl
    have hfin : fuseS s n = s := by rw [fuseS, if_pos hdn]
    rw [if_pos hdn] at hup
    subst hup
    refine rg_nil ?_
    refine qg_then ?_
    refine cg_true rfl ?_
    refine cg_seq ?_
    refine cg_region ?_
    refine rg_q (.inl rfl) rfl rfl (by exact QW.qr (qw_move rfl)) ?_
    refine rg_q (.inl rfl) rfl rfl (by exact QW.qr (qw_assign rfl)) ?_
    refine rg_nil ?_
    refine qg_then ?_
    refine cg_ret ?_
    refine qg_then_ret ?_
    exact qg_end (.inl rfl) _ (.cons (.tmp rfl) (.nil)) _ (List.Sublist.refl _) ⟨_, _, rfl, slab_close, by rw [hfin]; exact ⟨_, _, Bs, Bl, hos, hol, rfl⟩⟩
  · intro hc
    have hdn : ¬ s.down = true := by
      intro hd
      rw [if_pos hd] at hup
      exact hc (by rw [← hup]; decide)
    have hfin : fuseS s n = ⟨s.sure, s.loose, s.steps, max n (-1), s.down⟩ := by rw [fuseS, if_neg hdn]
    refine rg_nil ?_
    refine qg_then ?_
    refine cg_false rfl ?_
    refine cg_skip ?_
    refine qg_then ?_
    refine cg_seq ?_
    unfold slabBlk PT
    refine cg_region ?_
    refine rg_q (.inl rfl) rfl rfl (by exact QW.qr (qw_move rfl)) ?_
    refine rg_q (.inl rfl) rfl rfl (by exact QW.qr (qw_move rfl)) ?_
    refine rg_q (.inl rfl) rfl rfl (by exact QW.qr (qw_val (v' := I (max n (-1))) (qw_max (.cons rfl (.cons rfl .nil))) (by congr 1; omega))) ?_
    refine rg_q (.inl rfl) rfl rfl (by exact QW.qr (qw_nilCheck rfl)) ?_
    refine rg_q (.inl rfl) rfl rfl (by exact QW.qr (qw_fieldAddr rfl)) ?_
    refine rg_e0 (.inl rfl) rfl (by exact ev_store rfl rfl (by first | exact CellsOf.agg | exact CellsOf.one rfl) (by repeat (first | exact List.Mem.head _ | apply List.Mem.tail | apply List.mem_append_right | assumption)) (by repeat (first | exact SetSeg.done | apply SetSeg.take | apply SetSeg.skip)) rfl rfl (by repeat (first | exact Upd.here | apply Upd.there | apply Upd.app)) (by first | exact Or.inl ⟨inferInstance, rfl⟩ | exact Or.inr inferInstance)) ?_
    rintro _ _ ⟨rfl, rfl⟩
    refine rg_nil ?_
    refine qg_then ?_
    refine cg_seq ?_
    refine cg_region ?_
    refine rg_q (.inl rfl) rfl rfl (by exact QW.qr (qw_assign rfl)) ?_
    refine rg_nil ?_
    refine qg_then ?_
    refine cg_ret ?_
    exact qg_end (.inl rfl) _ (.cons (.tmp rfl) (.nil)) _ (List.Sublist.refl _) ⟨_, _, rfl, slab_close, by rw [hfin]; exact ⟨_, _, Bs, Bl, hos, hol, rfl⟩⟩

theorem logRead_nil (O : Out) (L : List Blk) :
    CA Try.prog 31 [.pointer none] O L fun v L' => v = .tuple #[.agg #[U32 0, .bool false, .map none], I 2] ∧ L' = L := by
  refine ca_enter Try.func31 rfl rfl ?_
  rw [Try.ntmps31]
  simp only [envOf]
  refine cg_seq ?_
  refine cg_region ?_
  refine rg_e (.inl rfl) rfl rfl (by exact ev_alloc (by first | exact CellsOf.agg | exact CellsOf.one rfl)) ?_
  rintro _ _ ⟨b2, rfl, rfl⟩
  refine rg_q (.inl rfl) rfl rfl (by exact QW.qr (qw_assign rfl)) ?_
  refine rg_nil ?_
  refine qg_then ?_
  refine cg_seq ?_
  refine cg_region ?_
  refine rg_q (.inl rfl) rfl rfl (by exact QW.qr (qw_move rfl)) ?_
  refine rg_e (.inl rfl) rfl rfl (by exact ev_call0 rfl (.cons rfl (.nil)) (read_nil O _)) ?_
  rintro _ _ ⟨rfl, rfl⟩
  refine rg_q (.inl rfl) rfl rfl (by exact QW.qr (qw_move rfl)) ?_
  refine rg_q (.inl rfl) rfl rfl (by exact QW.qr (qw_extract rfl rfl)) ?_
  refine rg_q (.inl rfl) rfl rfl (by exact QW.qr (qw_extract rfl rfl)) ?_
  refine rg_q (.inl rfl) rfl rfl (by exact QW.qr (qw_assign rfl)) ?_
  refine rg_q (.inl rfl) rfl rfl (by exact QW.qr (qw_assign rfl)) ?_
  refine rg_nil ?_
  refine qg_then ?_
  refine cg_seq ?_
  refine cg_seq ?_
  refine cg_region ?_
  refine rg_q (.inl rfl) rfl rfl (by exact QW.qr (qw_move rfl)) ?_
  refine rg_q (.inl rfl) rfl rfl (by exact QW.qr (qw_neq_t rfl rfl (by decide))) ?_
  refine rg_nil ?_
  refine qg_then ?_
  refine cg_true rfl ?_
  refine cg_seq ?_
  refine cg_region ?_
  refine rg_q (.inl rfl) rfl rfl (by exact QW.qr (qw_build (.nil) rfl (.nil))) ?_
  refine rg_q (.inl rfl) rfl rfl (by exact QW.qr (qw_move rfl)) ?_
  refine rg_e0 (.inl rfl) rfl (by exact ev_store rfl rfl (by first | exact CellsOf.agg | exact CellsOf.one rfl) (by repeat (first | exact List.Mem.head _ | apply List.Mem.tail | apply List.mem_append_right | assumption)) (by repeat (first | exact SetSeg.done | apply SetSeg.take | apply SetSeg.skip)) rfl rfl (by repeat (first | exact Upd.here | apply Upd.there | apply Upd.app)) (by first | exact Or.inl ⟨inferInstance, rfl⟩ | exact Or.inr inferInstance)) ?_
  rintro _ _ ⟨rfl, rfl⟩
  refine rg_q (.inl rfl) rfl rfl (by exact QW.qr (qw_assign rfl)) ?_
  refine rg_nil ?_
  refine qg_then ?_
  refine cg_ret ?_
  refine qg_then_ret ?_
  exact qg_end (.inl rfl) _ (.cons (resCellN rfl (by repeat (first | exact List.Mem.head _ | apply List.Mem.tail | apply List.mem_append_right | assumption)) (by repeat (first | exact SegL.done | apply SegL.take | apply SegL.skip))) (.cons (.tmp rfl) (.nil))) _ (by repeat (first | exact List.Sublist.refl _ | exact List.nil_sublist _ | exact List.sublist_append_right _ _ | apply List.Sublist.cons_cons | apply List.Sublist.cons | refine List.Sublist.trans ?_ (List.sublist_append_right _ _))) ⟨rfl, rfl⟩

end Go.Proofs.Ytcbbogaanebefaa