/-
  THE WALKS of slab's functions: up, step, Append, Sync, Erase, Read, New; of slices.Clone for bytes. Conditions: sizes.
-/
import Derived.Test.YthmicniimofagaaGreatFwO
namespace Go.Proofs.YthmicniimofagaaGreat
open Fw
open Go.Proofs (encStr)
set_option linter.unusedVariables false
set_option maxRecDepth 100000

def PT (b : Nat) : Value := .pointer (some ⟨b, 0, none⟩)
structure Slab where
  sure : Bytes
  loose : Bytes
  steps : Int
  fuse : Int
  down : Bool
def slabV (sv lv : Value) (s : Slab) : List Value := [sv, lv, I s.steps, I s.fuse, .bool s.down]
def slabBlk (b : Nat) (sv lv : Value) (s : Slab) : Blk := (b, .cells [sv, lv, I s.steps, I s.fuse, .bool s.down].toArray 160 (0, 0))
/-- A slab in memory: its cell, and its two rows of bytes. -/
def SlabAt (b : Nat) (s : Slab) (Bk : List Blk) : Prop := ∃ sv lv Bs Bl, OwnL 5 encB 1 sv s.sure Bs ∧ OwnL 5 encB 1 lv s.loose Bl ∧ Bk = slabBlk b sv lv s :: (Bs ++ Bl)
theorem slab_open {x : Blk} {Bs Bl : List Blk} {l : List (List Blk)} {F : List Blk} : cat ((x :: (Bs ++ Bl)) :: l) F = cat ([x] :: Bs :: Bl :: l) F := by
  show (x :: (Bs ++ Bl)) ++ cat l F = [x] ++ (Bs ++ (Bl ++ cat l F))
  simp
theorem slab_close {x : Blk} {Bs Bl L : List Blk} : x :: cat [Bs, Bl] L = (x :: (Bs ++ Bl)) ++ L := by
  show x :: (Bs ++ (Bl ++ L)) = _
  simp
def stepS (s : Slab) : Slab × Int :=
  if s.fuse = 0 then (⟨s.sure, s.loose, s.steps, s.fuse, true⟩, 5) else (⟨s.sure, s.loose, IntKind.wrap .i64 (s.steps + 1), if s.fuse > 0 then IntKind.wrap .i64 (s.fuse - 1) else s.fuse, s.down⟩, 0)
def appendS (s : Slab) (p : Bytes) : Slab × Int :=
  if s.down = true then (s, 5) else if (p.length : Int) > 262144 - s.sure.length - s.loose.length then (s, 4)
  else if (stepS s).2 ≠ 0 then stepS s else (⟨(stepS s).1.sure, (stepS s).1.loose ++ p, (stepS s).1.steps, (stepS s).1.fuse, (stepS s).1.down⟩, 0)
def syncS (s : Slab) : Slab × Int :=
  if s.down = true then (s, 5) else if (stepS s).2 ≠ 0 then stepS s else (⟨(stepS s).1.sure ++ (stepS s).1.loose, [], (stepS s).1.steps, (stepS s).1.fuse, (stepS s).1.down⟩, 0)
def eraseS (s : Slab) : Slab × Int :=
  if s.down = true then (s, 5) else if (stepS s).2 ≠ 0 then stepS s else (⟨[], [], (stepS s).1.steps, (stepS s).1.fuse, (stepS s).1.down⟩, 0)
def newS : Slab := ⟨[], [], 0, -1, false⟩
theorem stepS_same (s : Slab) : (stepS s).1.sure = s.sure ∧ (stepS s).1.loose = s.loose := by
  unfold stepS; split <;> exact ⟨rfl, rfl⟩

theorem new_ca (O : Out) (L : List Blk) : CA Tryz.prog 22 [] O L fun v L' => ∃ b Bk, v = PT b ∧ L' = Bk ++ L ∧ SlabAt b newS Bk := by
  refine ca_enter Tryz.func22 rfl rfl ?_
  rw [Tryz.ntmps22]
  simp only [envOf]
  refine cg_seq ?_
  refine cg_region ?_
  refine rg_q (.inl rfl) rfl rfl (by exact QW.qr (qw_assign rfl)) ?_
  refine rg_nil ?_
  refine qg_then ?_
  refine cg_seq ?_
  refine cg_region ?_
  refine rg_q (.inl rfl) rfl rfl (by exact QW.qr (qw_build (.cons rfl (.nil)) rfl (.cons rfl (by first | exact CellsOf.agg | exact CellsOf.one rfl) (by repeat (first | exact SetSeg.done | apply SetSeg.take | apply SetSeg.skip)) (by rfl) (by rfl) (.nil)))) ?_
  refine rg_e (.inl rfl) rfl rfl (by exact ev_box rfl (by first | exact CellsOf.agg | exact CellsOf.one rfl)) ?_
  rintro _ _ ⟨b2, rfl, rfl⟩
  refine rg_q (.inl rfl) rfl rfl (by exact QW.qr (qw_assign rfl)) ?_
  refine rg_nil ?_
  refine qg_then ?_
  refine cg_ret ?_
  exact qg_end (.inl rfl) _ (.cons (.tmp rfl) (.nil)) _ (List.Sublist.refl _) ⟨b2, [_], rfl, rfl, _, _, [], [], OwnL.nil, OwnL.nil, rfl⟩

theorem slabUp_nil (O : Out) (L : List Blk) : CA Tryz.prog 220 [.pointer none] O L fun v L' => v = I 2 ∧ L' = L := by
  refine ca_enter Tryz.func220 rfl rfl ?_
  rw [Tryz.ntmps220]
  simp only [envOf]
  refine cg_seq ?_
  refine cg_region ?_
  refine rg_q (.inl rfl) rfl rfl (by exact QW.qr (qw_assign rfl)) ?_
  refine rg_nil ?_
  refine qg_then ?_
  refine cg_seq ?_
  refine cg_block ?_
  refine cg_seq ?_
  refine cg_region ?_
  refine rg_q (.inl rfl) rfl rfl (by exact QW.qr (qw_move rfl)) ?_
  refine rg_q (.inl rfl) rfl rfl (by exact QW.qr (qw_eql_nil (e := 160) rfl rfl)) ?_
  refine rg_q (.inl rfl) rfl rfl (by exact QW.qr (qw_assign rfl)) ?_
  refine rg_nil ?_
  refine qg_then ?_
  refine cg_true rfl ?_
  refine cg_seq ?_
  refine cg_region ?_
  refine rg_q (.inl rfl) rfl rfl (by exact QW.qr (qw_assign rfl)) ?_
  refine rg_nil ?_
  refine qg_then ?_
  refine cg_ret ?_
  refine qg_block_ret ?_
  refine qg_then_ret ?_
  exact qg_end (.inl rfl) _ (.cons (.tmp rfl) (.nil)) _ (by repeat (first | exact List.Sublist.refl _ | exact List.nil_sublist _ | exact List.sublist_append_right _ _ | apply List.Sublist.cons_cons | apply List.Sublist.cons | refine List.Sublist.trans ?_ (List.sublist_append_right _ _))) ⟨rfl, rfl⟩

theorem slabUp_true (b : Nat) (sv lv : Value) (st fu : Int) (O : Out) (L : List Blk) (hm : (b, Obj.cells [sv, lv, I st, I fu, .bool true].toArray 160 (0, 0)) ∈ L) : CA Tryz.prog 220 [PT b] O L fun v L' => v = I 5 ∧ L' = L := by
  unfold PT
  refine ca_enter Tryz.func220 rfl rfl ?_
  rw [Tryz.ntmps220]
  simp only [envOf]
  refine cg_seq ?_
  refine cg_region ?_
  refine rg_q (.inl rfl) rfl rfl (by exact QW.qr (qw_assign rfl)) ?_
  refine rg_nil ?_
  refine qg_then ?_
  refine cg_seq ?_
  refine cg_block ?_
  refine cg_seq ?_
  refine cg_region ?_
  refine rg_q (.inl rfl) rfl rfl (by exact QW.qr (qw_move rfl)) ?_
  refine rg_q (.inl rfl) rfl rfl (by exact QW.qr (qw_eql_ptr (e := 160) rfl rfl)) ?_
  refine rg_q (.inl rfl) rfl rfl (by exact QW.qr (qw_assign rfl)) ?_
  refine rg_nil ?_
  refine qg_then ?_
  refine cg_false rfl ?_
  refine cg_seq ?_
  refine cg_region ?_
  refine rg_q (.inl rfl) rfl rfl (by exact QW.qr (qw_move rfl)) ?_
  refine rg_q (.inl rfl) rfl rfl (by exact QW.qr (qw_nilCheck rfl)) ?_
  refine rg_q (.inl rfl) rfl rfl (by exact QW.qr (qw_fieldAddr rfl)) ?_
  refine rg_q (.inl rfl) rfl rfl (by exact qr_load1 rfl hm rfl) ?_
  refine rg_q (.inl rfl) rfl rfl (by exact QW.qr (qw_assign rfl)) ?_
  refine rg_nil ?_
  refine qg_then ?_
  refine cg_true rfl ?_
  refine cg_seq ?_
  refine cg_region ?_
  refine rg_q (.inl rfl) rfl rfl (by exact QW.qr (qw_assign rfl)) ?_
  refine rg_nil ?_
  refine qg_then ?_
  refine cg_ret ?_
  refine qg_block_ret ?_
  refine qg_then_ret ?_
  exact qg_end (.inl rfl) _ (.cons (.tmp rfl) (.nil)) _ (by repeat (first | exact List.Sublist.refl _ | exact List.nil_sublist _ | exact List.sublist_append_right _ _ | apply List.Sublist.cons_cons | apply List.Sublist.cons | refine List.Sublist.trans ?_ (List.sublist_append_right _ _))) ⟨rfl, rfl⟩

theorem slabUp_false (b : Nat) (sv lv : Value) (st fu : Int) (O : Out) (L : List Blk) (hm : (b, Obj.cells [sv, lv, I st, I fu, .bool false].toArray 160 (0, 0)) ∈ L) : CA Tryz.prog 220 [PT b] O L fun v L' => v = I 0 ∧ L' = L := by
  unfold PT
  refine ca_enter Tryz.func220 rfl rfl ?_
  rw [Tryz.ntmps220]
  simp only [envOf]
  refine cg_seq ?_
  refine cg_region ?_
  refine rg_q (.inl rfl) rfl rfl (by exact QW.qr (qw_assign rfl)) ?_
  refine rg_nil ?_
  refine qg_then ?_
  refine cg_seq ?_
  refine cg_block ?_
  refine cg_seq ?_
  refine cg_region ?_
  refine rg_q (.inl rfl) rfl rfl (by exact QW.qr (qw_move rfl)) ?_
  refine rg_q (.inl rfl) rfl rfl (by exact QW.qr (qw_eql_ptr (e := 160) rfl rfl)) ?_
  refine rg_q (.inl rfl) rfl rfl (by exact QW.qr (qw_assign rfl)) ?_
  refine rg_nil ?_
  refine qg_then ?_
  refine cg_false rfl ?_
  refine cg_seq ?_
  refine cg_region ?_
  refine rg_q (.inl rfl) rfl rfl (by exact QW.qr (qw_move rfl)) ?_
  refine rg_q (.inl rfl) rfl rfl (by exact QW.qr (qw_nilCheck rfl)) ?_
  refine rg_q (.inl rfl) rfl rfl (by exact QW.qr (qw_fieldAddr rfl)) ?_
  refine rg_q (.inl rfl) rfl rfl (by exact qr_load1 rfl hm rfl) ?_
  refine rg_q (.inl rfl) rfl rfl (by exact QW.qr (qw_assign rfl)) ?_
  refine rg_nil ?_
  refine qg_then ?_
  refine cg_false rfl ?_
  refine cg_skip ?_
  refine qg_block ?_
  refine qg_then ?_
  refine cg_seq ?_
  refine cg_region ?_
  refine rg_q (.inl rfl) rfl rfl (by exact QW.qr (qw_assign rfl)) ?_
  refine rg_nil ?_
  refine qg_then ?_
  refine cg_ret ?_
  exact qg_end (.inl rfl) _ (.cons (.tmp rfl) (.nil)) _ (by repeat (first | exact List.Sublist.refl _ | exact List.nil_sublist _ | exact List.sublist_append_right _ _ | apply List.Sublist.cons_cons | apply List.Sublist.cons | refine List.Sublist.trans ?_ (List.sublist_append_right _ _))) ⟨rfl, rfl⟩

theorem slabUp_ca (b : Nat) (sv lv : Value) (s : Slab) (O : Out) (L : List Blk) (hm : slabBlk b sv lv s ∈ L) : CA Tryz.prog 220 [PT b] O L fun v L' => v = I (if s.down = true then 5 else 0) ∧ L' = L := by
  obtain ⟨su, lo, st, fu, dn⟩ := s
  cases dn
  · exact slabUp_false b sv lv st fu O L hm
  · exact slabUp_true b sv lv st fu O L hm

theorem step_ca (b : Nat) (sv lv : Value) (s : Slab) (O : Out) (L : List Blk) :
    CA Tryz.prog 221 [PT b] O (slabBlk b sv lv s :: L) fun v L' => v = I (stepS s).2 ∧ L' = slabBlk b sv lv (stepS s).1 :: L := by
  unfold PT slabBlk
  refine ca_enter Tryz.func221 rfl rfl ?_
  rw [Tryz.ntmps221]
  simp only [envOf]
  refine cg_seq ?_
  refine cg_region ?_
  refine rg_q (.inl rfl) rfl rfl (by exact QW.qr (qw_assign rfl)) ?_
  refine rg_nil ?_
  refine qg_then ?_
  refine cg_seq ?_
  refine cg_block ?_
  refine cg_seq ?_
  refine cg_region ?_
  refine rg_q (.inl rfl) rfl rfl (by exact QW.qr (qw_move rfl)) ?_
  refine rg_q (.inl rfl) rfl rfl (by exact QW.qr (qw_nilCheck rfl)) ?_
  refine rg_q (.inl rfl) rfl rfl (by exact QW.qr (qw_fieldAddr rfl)) ?_
  refine rg_q (.inl rfl) rfl rfl (by exact qr_load1 rfl (by repeat (first | exact List.Mem.head _ | apply List.Mem.tail | apply List.mem_append_right | assumption)) rfl) ?_
  refine rg_split (.inl rfl) rfl rfl (by exact qc_eql rfl rfl) ?_ ?_
  · intro h0
    have hfin : stepS s = (⟨s.sure, s.loose, s.steps, s.fuse, true⟩, 5) := by rw [stepS, if_pos h0]
    refine rg_q (.inl rfl) rfl rfl (by exact QW.qr (qw_assign rfl)) ?_
    refine rg_nil ?_
    refine qg_then ?_
    refine cg_true rfl ?_
    refine cg_seq ?_
    refine cg_region ?_
    refine rg_q (.inl rfl) rfl rfl (by exact QW.qr (qw_move rfl)) ?_
    refine rg_q (.inl rfl) rfl rfl (by exact QW.qr (qw_nilCheck rfl)) ?_
    refine rg_q (.inl rfl) rfl rfl (by exact QW.qr (qw_fieldAddr rfl)) ?_
    refine rg_e0 (.inl rfl) rfl (by exact ev_store rfl rfl (by first | exact CellsOf.agg | exact CellsOf.one rfl) (by repeat (first | exact List.Mem.head _ | apply List.Mem.tail | apply List.mem_append_right | assumption)) (by repeat (first | exact SetSeg.done | apply SetSeg.take | apply SetSeg.skip)) rfl rfl (by repeat (first | exact Upd.here | apply Upd.there | apply Upd.app)) (by first | exact Or.inl ⟨inferInstance, rfl⟩ | exact Or.inr inferInstance)) ?_
    rintro _ _ ⟨rfl, rfl⟩
    refine rg_nil ?_
    refine qg_then ?_
    refine cg_seq ?_
    refine cg_region ?_
    refine rg_q (.inl rfl) rfl rfl (by exact QW.qr (qw_assign rfl)) ?_
    refine rg_nil ?_
    refine qg_then ?_
    refine cg_ret ?_
    refine qg_block_ret ?_
    refine qg_then_ret ?_
    exact qg_end (.inl rfl) _ (.cons (.tmp rfl) (.nil)) _ (List.Sublist.refl _) ⟨by rw [hfin] <;> rfl, by rw [hfin] <;> rfl⟩
  · intro h0
    refine rg_q (.inl rfl) rfl rfl (by exact QW.qr (qw_assign rfl)) ?_
    refine rg_nil ?_
    refine qg_then ?_
    refine cg_false rfl ?_
    refine cg_seq ?_
    refine cg_region ?_
    refine rg_q (.inl rfl) rfl rfl (by exact QW.qr (qw_move rfl)) ?_
    refine rg_q (.inl rfl) rfl rfl (by exact QW.qr (qw_nilCheck rfl)) ?_
    refine rg_q (.inl rfl) rfl rfl (by exact QW.qr (qw_fieldAddr rfl)) ?_
    refine rg_q (.inl rfl) rfl rfl (by exact qr_load1 rfl (by repeat (first | exact List.Mem.head _ | apply List.Mem.tail | apply List.mem_append_right | assumption)) rfl) ?_
    refine rg_split (.inl rfl) rfl rfl (by exact qc_gtr rfl rfl) ?_ ?_
    · intro h1
      have hfin : stepS s = (⟨s.sure, s.loose, IntKind.wrap .i64 (s.steps + 1), IntKind.wrap .i64 (s.fuse - 1), s.down⟩, 0) := by rw [stepS, if_neg h0, if_pos h1]
      refine rg_q (.inl rfl) rfl rfl (by exact QW.qr (qw_assign rfl)) ?_
      refine rg_nil ?_
      refine qg_then ?_
      refine cg_true rfl ?_
      refine cg_region ?_
      refine rg_q (.inl rfl) rfl rfl (by exact QW.qr (qw_move rfl)) ?_
      refine rg_q (.inl rfl) rfl rfl (by exact QW.qr (qw_nilCheck rfl)) ?_
      refine rg_q (.inl rfl) rfl rfl (by exact QW.qr (qw_fieldAddr rfl)) ?_
      refine rg_q (.inl rfl) rfl rfl (by exact qr_load1 rfl (by repeat (first | exact List.Mem.head _ | apply List.Mem.tail | apply List.mem_append_right | assumption)) rfl) ?_
      refine rg_q (.inl rfl) rfl rfl (by exact QW.qr (qw_sub rfl rfl)) ?_
      refine rg_q (.inl rfl) rfl rfl (by exact QW.qr (qw_nilCheck rfl)) ?_
      refine rg_q (.inl rfl) rfl rfl (by exact QW.qr (qw_fieldAddr rfl)) ?_
      refine rg_e0 (.inl rfl) rfl (by exact ev_store rfl rfl (by first | exact CellsOf.agg | exact CellsOf.one rfl) (by repeat (first | exact List.Mem.head _ | apply List.Mem.tail | apply List.mem_append_right | assumption)) (by repeat (first | exact SetSeg.done | apply SetSeg.take | apply SetSeg.skip)) rfl rfl (by repeat (first | exact Upd.here | apply Upd.there | apply Upd.app)) (by first | exact Or.inl ⟨inferInstance, rfl⟩ | exact Or.inr inferInstance)) ?_
      rintro _ _ ⟨rfl, rfl⟩
      refine rg_nil ?_
      refine qg_block ?_
      refine qg_then ?_
      refine cg_seq ?_
      refine cg_region ?_
      refine rg_q (.inl rfl) rfl rfl (by exact QW.qr (qw_move rfl)) ?_
      refine rg_q (.inl rfl) rfl rfl (by exact QW.qr (qw_nilCheck rfl)) ?_
      refine rg_q (.inl rfl) rfl rfl (by exact QW.qr (qw_fieldAddr rfl)) ?_
      refine rg_q (.inl rfl) rfl rfl (by exact qr_load1 rfl (by repeat (first | exact List.Mem.head _ | apply List.Mem.tail | apply List.mem_append_right | assumption)) rfl) ?_
      refine rg_q (.inl rfl) rfl rfl (by exact QW.qr (qw_add rfl rfl)) ?_
      refine rg_q (.inl rfl) rfl rfl (by exact QW.qr (qw_nilCheck rfl)) ?_
      refine rg_q (.inl rfl) rfl rfl (by exact QW.qr (qw_fieldAddr rfl)) ?_
      refine rg_e0 (.inl rfl) rfl (by exact ev_store rfl rfl (by first | exact CellsOf.agg | exact CellsOf.one rfl) (by repeat (first | exact List.Mem.head _ | apply List.Mem.tail | apply List.mem_append_right | assumption)) (by repeat (first | exact SetSeg.done | apply SetSeg.take | apply SetSeg.skip)) rfl rfl (by repeat (first | exact Upd.here | apply Upd.there | apply Upd.app)) (by first | exact Or.inl ⟨inferInstance, rfl⟩ | exact Or.inr inferInstance)) ?_
      rintro _ _ ⟨rfl, rfl⟩
      refine rg_nil ?_
      refine qg_then ?_
      refine cg_seq ?_
      refine cg_region ?_
      refine rg_q (.inl rfl) rfl rfl (by exact QW.qr (qw_assign rfl)) ?_
      refine rg_nil ?_
      refine qg_then ?_
      refine cg_ret ?_
      exact qg_end (.inl rfl) _ (.cons (.tmp rfl) (.nil)) _ (List.Sublist.refl _) ⟨by rw [hfin] <;> rfl, by rw [hfin] <;> rfl⟩
    · intro h1
      have hfin : stepS s = (⟨s.sure, s.loose, IntKind.wrap .i64 (s.steps + 1), s.fuse, s.down⟩, 0) := by rw [stepS, if_neg h0, if_neg h1]
      refine rg_q (.inl rfl) rfl rfl (by exact QW.qr (qw_assign rfl)) ?_
      refine rg_nil ?_
      refine qg_then ?_
      refine cg_false rfl ?_
      refine cg_skip ?_
      refine qg_block ?_
      refine qg_then ?_
      refine cg_seq ?_
      refine cg_region ?_
      refine rg_q (.inl rfl) rfl rfl (by exact QW.qr (qw_move rfl)) ?_
      refine rg_q (.inl rfl) rfl rfl (by exact QW.qr (qw_nilCheck rfl)) ?_
      refine rg_q (.inl rfl) rfl rfl (by exact QW.qr (qw_fieldAddr rfl)) ?_
      refine rg_q (.inl rfl) rfl rfl (by exact qr_load1 rfl (by repeat (first | exact List.Mem.head _ | apply List.Mem.tail | apply List.mem_append_right | assumption)) rfl) ?_
      refine rg_q (.inl rfl) rfl rfl (by exact QW.qr (qw_add rfl rfl)) ?_
      refine rg_q (.inl rfl) rfl rfl (by exact QW.qr (qw_nilCheck rfl)) ?_
      refine rg_q (.inl rfl) rfl rfl (by exact QW.qr (qw_fieldAddr rfl)) ?_
      refine rg_e0 (.inl rfl) rfl (by exact ev_store rfl rfl (by first | exact CellsOf.agg | exact CellsOf.one rfl) (by repeat (first | exact List.Mem.head _ | apply List.Mem.tail | apply List.mem_append_right | assumption)) (by repeat (first | exact SetSeg.done | apply SetSeg.take | apply SetSeg.skip)) rfl rfl (by repeat (first | exact Upd.here | apply Upd.there | apply Upd.app)) (by first | exact Or.inl ⟨inferInstance, rfl⟩ | exact Or.inr inferInstance)) ?_
      rintro _ _ ⟨rfl, rfl⟩
      refine rg_nil ?_
      refine qg_then ?_
      refine cg_seq ?_
      refine cg_region ?_
      refine rg_q (.inl rfl) rfl rfl (by exact QW.qr (qw_assign rfl)) ?_
      refine rg_nil ?_
      refine qg_then ?_
      refine cg_ret ?_
      exact qg_end (.inl rfl) _ (.cons (.tmp rfl) (.nil)) _ (List.Sublist.refl _) ⟨by rw [hfin] <;> rfl, by rw [hfin] <;> rfl⟩

theorem cloneB_nil (O : Out) (L : List Blk) :
    CA Tryz.prog 131 [.slice none 0 0] O L fun v L' => v = .slice none 0 0 ∧ L' = L := by
  refine ca_enter Tryz.func131 rfl rfl ?_
  rw [Tryz.ntmps131]
  simp only [envOf]
  refine cg_seq ?_
  refine cg_region ?_
  refine rg_q (.inl rfl) rfl rfl (by exact QW.qr (qw_assign rfl)) ?_
  refine rg_nil ?_
  refine qg_then ?_
  refine cg_seq ?_
  refine cg_seq ?_
  refine cg_region ?_
  refine rg_q (.inl rfl) rfl rfl (by exact QW.qr (qw_move rfl)) ?_
  refine rg_q (.inl rfl) rfl rfl (by exact QW.qr (qw_val (v' := .bool true) (qw_eql_slice_nil rfl rfl) rfl)) ?_
  refine rg_nil ?_
  refine qg_then ?_
  refine cg_true rfl ?_
  refine cg_seq ?_
  refine cg_region ?_
  refine rg_q (.inl rfl) rfl rfl (by exact QW.qr (qw_assign rfl)) ?_
  refine rg_nil ?_
  refine qg_then ?_
  refine cg_ret ?_
  refine qg_then_ret ?_
  exact qg_end (.inl rfl) _ (.cons (.tmp rfl) (.nil)) _ (by repeat (first | exact List.Sublist.refl _ | exact List.nil_sublist _ | exact List.sublist_append_right _ _ | apply List.Sublist.cons_cons | apply List.Sublist.cons | refine List.Sublist.trans ?_ (List.sublist_append_right _ _))) ⟨rfl, rfl⟩

theorem cloneB_some (xs : List UInt8) (q : Addr) (cap : Nat) (O : Out) (L : List Blk) (hs : RdL L encB 1 (.slice (some q) xs.length cap) xs) (hsz : xs.length ≤ 1000000) :
    CA Tryz.prog 131 [.slice (some q) xs.length cap] O L fun v L' => ∃ B, OwnL 5 encB 1 v xs B ∧ L' = B ++ L := by
  refine ca_enter Tryz.func131 rfl rfl ?_
  rw [Tryz.ntmps131]
  simp only [envOf]
  refine cg_seq ?_
  refine cg_region ?_
  refine rg_q (.inl rfl) rfl rfl (by exact QW.qr (qw_assign rfl)) ?_
  refine rg_nil ?_
  refine qg_then ?_
  refine cg_seq ?_
  refine cg_seq ?_
  refine cg_region ?_
  refine rg_q (.inl rfl) rfl rfl (by exact QW.qr (qw_move rfl)) ?_
  refine rg_q (.inl rfl) rfl rfl (by exact QW.qr (qw_val (v' := .bool false) (qw_eql_slice_nil rfl rfl) rfl)) ?_
  refine rg_nil ?_
  refine qg_then ?_
  refine cg_false rfl ?_
  refine cg_skip ?_
  refine qg_then ?_
  refine cg_seq ?_
  refine cg_region ?_
  refine rg_e (.inl rfl) rfl rfl (by exact ev_buildSlice (.nil) rfl (by first | exact CellsOf.agg | exact CellsOf.one rfl) (by rfl) (.nil)) ?_
  rintro _ _ ⟨b5, rfl, rfl⟩
  refine rg_q (.inl rfl) rfl rfl (by exact QW.qr (qw_move rfl)) ?_
  refine rg_e (.inl rfl) rfl rfl (by exact ev_appendL (xs := []) (ys := xs) (T := 39) (T2 := 39) (.cons rfl (.cons rfl .nil)) rfl rfl (B := [_]) (R := L) OwnS.empty (List.Perm.refl _) hs.src (fun _ => rfl) encB_one (by simpa using hsz) rfl rfl rfl rfl) ?_
  rintro ov' _ ⟨B', hown', rfl⟩
  refine rg_q (.inl rfl) rfl rfl (by exact QW.qr (qw_assign rfl)) ?_
  refine rg_nil ?_
  refine qg_then ?_
  refine cg_ret ?_
  exact qg_end (.inl rfl) _ (.cons (.tmp rfl) (.nil)) _ (by repeat (first | exact List.Sublist.refl _ | exact List.nil_sublist _ | exact List.sublist_append_right _ _ | apply List.Sublist.cons_cons | apply List.Sublist.cons | refine List.Sublist.trans ?_ (List.sublist_append_right _ _))) ⟨_, hown', rfl⟩

theorem cloneB_ca (xs : List UInt8) (s : Value) (O : Out) (L : List Blk) (hs : RdL L encB 1 s xs) (hsz : xs.length ≤ 1000000) :
    CA Tryz.prog 131 [s] O L fun v L' => ∃ B, OwnL 5 encB 1 v xs B ∧ L' = B ++ L := by
  obtain ⟨p, cap, rfl, hl, hcap, hsp, hR⟩ := id hs
  cases p with
  | some q => exact cloneB_some xs q cap O L hs hsz
  | none =>
    have h0 : xs.length = 0 := Decidable.byContradiction fun h => by
      obtain ⟨b, o, A, t, fz, h1, _⟩ := hR h
      cases h1
    have hx : xs = [] := List.eq_nil_of_length_eq_zero h0
    have hc : cap = 0 ∨ cap ≠ 0 := by omega
    subst hx
    rcases hc with rfl | hc
    · exact (cloneB_nil O L).mono fun v L' ⟨h1, h2⟩ => ⟨[], by rw [h1]; exact OwnL.nil, h2⟩
    · exact absurd (hsp.2 rfl) hc

theorem erase_ca (b : Nat) (s : Slab) (Bk : List Blk) (O : Out) (L : List Blk) (hs : SlabAt b s Bk) :
    CA Tryz.prog 170 [PT b] O (Bk ++ L) fun v L' => v = I (eraseS s).2 ∧ ∃ Bk2, L' = Bk2 ++ L ∧ SlabAt b (eraseS s).1 Bk2 := by
  obtain ⟨sv, lv, Bs, Bl, hos, hol, rfl⟩ := hs
  show CA _ _ _ O (cat [_] L) _
  rw [slab_open]
  obtain ⟨ps, cs, rfl, hqs⟩ := id (hos.rd (fun _ => rfl) (by decide))
  obtain ⟨pl, cl, rfl, hql⟩ := id (hol.rd (fun _ => rfl) (by decide))
  refine ca_enter Tryz.func170 rfl rfl ?_
  rw [Tryz.ntmps170]
  simp only [envOf]
  refine cg_seq ?_
  refine cg_region ?_
  refine rg_q (.inl rfl) rfl rfl (by exact QW.qr (qw_assign rfl)) ?_
  refine rg_nil ?_
  refine qg_then ?_
  refine cg_seq ?_
  refine cg_seq ?_
  refine cg_region ?_
  refine rg_q (.inl rfl) rfl rfl (by exact QW.qr (qw_move rfl)) ?_
  refine rg_e (.inl rfl) rfl rfl (by exact ev_call0 rfl (.cons rfl (.nil)) (slabUp_ca b _ _ s O _ (mem_cat (s := [slabBlk b _ _ s]) (by repeat (first | exact List.Mem.head _ | apply List.Mem.tail)) (List.Mem.head _)))) ?_
  rintro _ _ ⟨rfl, rfl⟩
  generalize hup : (if s.down = true then (5 : Int) else 0) = up
  refine rg_q (.inl rfl) rfl rfl (by exact QW.qr (qw_assign rfl)) ?_
  refine rg_nil ?_
  refine qg_then ?_
  refine cg_seq ?_
  refine cg_region ?_
  refine rg_q (.inl rfl) rfl rfl (by exact QW.qr (qw_move rfl)) ?_
  refine rg_split (.inl rfl) rfl rfl (by exact qc_neq rfl rfl) ?_ ?_
  · intro hc
    have hdn : s.down = true := by
      cases hd : s.down
      · rw [hd] at hup; exact absurd hup.symm hc
      · rfl
    have hfin : eraseS s = (s, 5) := by rw [eraseS, if_pos hdn]
    rw [if_pos hdn] at hup
    subst hup
    refine rg_nil ?_
    refine qg_then ?_
    refine cg_true rfl ?_
    refine cg_seq ?_
    refine cg_region ?_
    refine rg_q (.inl rfl) rfl rfl (by exact QW.qr (qw_move rfl)) ?_
    refine rg_q (.inl rfl) rfl rfl (by exact QW.qr (qw_assign rfl)) ?_
    refine rg_nil ?_
    refine qg_then ?_
    refine cg_ret ?_
    refine qg_then_ret ?_
    exact qg_end (.inl rfl) _ (.cons (.tmp rfl) (.nil)) _ (List.Sublist.refl _) ⟨by rw [hfin] <;> rfl, _, slab_close, by rw [hfin]; exact ⟨_, _, Bs, Bl, hos, hol, rfl⟩⟩
  · intro hc
    have hdn : ¬ s.down = true := by
      intro hd
      rw [if_pos hd] at hup
      exact hc (by rw [← hup]; decide)
    refine rg_nil ?_
    refine qg_then ?_
    refine cg_false rfl ?_
    refine cg_skip ?_
    refine qg_then ?_
    refine cg_seq ?_
    refine cg_seq ?_
    refine cg_region ?_
    refine rg_q (.inl rfl) rfl rfl (by exact QW.qr (qw_move rfl)) ?_
    refine rg_e (.inl rfl) rfl rfl (by exact ev_call0 rfl (.cons rfl (.nil)) (step_ca b _ _ s O _)) ?_
    rintro _ _ ⟨rfl, rfl⟩
    generalize hst : stepS s = st
    have hsame := stepS_same s
    rw [hst] at hsame
    obtain ⟨s1, e1⟩ := st
    obtain ⟨hsu, hlo⟩ := hsame
    replace hsu : s1.sure = s.sure := hsu
    replace hlo : s1.loose = s.loose := hlo
    refine rg_q (.inl rfl) rfl rfl (by exact QW.qr (qw_assign rfl)) ?_
    refine rg_nil ?_
    refine qg_then ?_
    refine cg_seq ?_
    refine cg_region ?_
    refine rg_q (.inl rfl) rfl rfl (by exact QW.qr (qw_move rfl)) ?_
    refine rg_split (.inl rfl) rfl rfl (by exact qc_neq rfl rfl) ?_ ?_
    · intro he
      have hfin : eraseS s = (s1, e1) := by rw [eraseS, if_neg hdn, hst, if_pos he]
      refine rg_nil ?_
      refine qg_then ?_
      refine cg_true rfl ?_
      refine cg_seq ?_
      refine cg_region ?_
      refine rg_q (.inl rfl) rfl rfl (by exact QW.qr (qw_move rfl)) ?_
      refine rg_q (.inl rfl) rfl rfl (by exact QW.qr (qw_assign rfl)) ?_
      refine rg_nil ?_
      refine qg_then ?_
      refine cg_ret ?_
      refine qg_then_ret ?_
      exact qg_end (.inl rfl) _ (.cons (.tmp rfl) (.nil)) _ (List.Sublist.refl _) ⟨by rw [hfin] <;> rfl, _, slab_close, by rw [hfin]; exact ⟨_, _, Bs, Bl, by rw [hsu]; exact hos, by rw [hlo]; exact hol, rfl⟩⟩
    · intro he
      have hfin : eraseS s = (⟨[], [], s1.steps, s1.fuse, s1.down⟩, 0) := by rw [eraseS, if_neg hdn, hst, if_neg he]
      refine rg_nil ?_
      refine qg_then ?_
      refine cg_false rfl ?_
      refine cg_skip ?_
      refine qg_then ?_
      refine cg_seq ?_
      unfold slabBlk PT
      refine cg_region ?_
      refine rg_q (.inl rfl) rfl rfl (by exact QW.qr (qw_move rfl)) ?_
      refine rg_q (.inl rfl) rfl rfl (by exact QW.qr (qw_move rfl)) ?_
      refine rg_q (.inl rfl) rfl rfl (by exact QW.qr (qw_nilCheck rfl)) ?_
      refine rg_q (.inl rfl) rfl rfl (by exact QW.qr (qw_fieldAddr rfl)) ?_
      refine rg_e0 (.inl rfl) rfl (by exact ev_store rfl rfl (by first | exact CellsOf.agg | exact CellsOf.one rfl) (by repeat (first | exact List.Mem.head _ | apply List.Mem.tail | apply List.mem_append_right | assumption)) (by repeat (first | exact SetSeg.done | apply SetSeg.take | apply SetSeg.skip)) rfl rfl (by repeat (first | exact Upd.here | apply Upd.there | apply Upd.app)) (by first | exact Or.inl ⟨inferInstance, rfl⟩ | exact Or.inr inferInstance)) ?_
      rintro _ _ ⟨rfl, rfl⟩
      refine rg_q (.inl rfl) rfl rfl (by exact QW.qr (qw_nilCheck rfl)) ?_
      refine rg_q (.inl rfl) rfl rfl (by exact QW.qr (qw_fieldAddr rfl)) ?_
      refine rg_e0 (.inl rfl) rfl (by exact ev_store rfl rfl (by first | exact CellsOf.agg | exact CellsOf.one rfl) (by repeat (first | exact List.Mem.head _ | apply List.Mem.tail | apply List.mem_append_right | assumption)) (by repeat (first | exact SetSeg.done | apply SetSeg.take | apply SetSeg.skip)) rfl rfl (by repeat (first | exact Upd.here | apply Upd.there | apply Upd.app)) (by first | exact Or.inl ⟨inferInstance, rfl⟩ | exact Or.inr inferInstance)) ?_
      rintro _ _ ⟨rfl, rfl⟩
      refine rg_nil ?_
      refine qg_then ?_
      refine cg_seq ?_
      refine cg_region ?_
      refine rg_q (.inl rfl) rfl rfl (by exact QW.qr (qw_assign rfl)) ?_
      refine rg_nil ?_
      refine qg_then ?_
      refine cg_ret ?_
      exact qg_end_sp (.inl rfl) _ (.cons (.tmp rfl) (.nil)) _ (cat_sub (ls' := [[(b, _)]]) (ls := [[(b, _)], Bs, Bl]) (by repeat (first | exact SubM.nil | refine SubM.cons (by repeat (first | exact Ins.here | apply Ins.there)) ?_))) ⟨by rw [hfin] <;> rfl, [_], rfl, by rw [hfin]; exact ⟨_, _, [], [], OwnL.nil, OwnL.nil, rfl⟩⟩

theorem sync_ca (b : Nat) (s : Slab) (Bk : List Blk) (O : Out) (L : List Blk) (hs : SlabAt b s Bk) (hsz : s.sure.length + s.loose.length ≤ 1000000) :
    CA Tryz.prog 168 [PT b] O (Bk ++ L) fun v L' => v = I (syncS s).2 ∧ ∃ Bk2, L' = Bk2 ++ L ∧ SlabAt b (syncS s).1 Bk2 := by
  obtain ⟨sv, lv, Bs, Bl, hos, hol, rfl⟩ := hs
  show CA _ _ _ O (cat [_] L) _
  rw [slab_open]
  obtain ⟨ps, cs, rfl, hqs⟩ := id (hos.rd (fun _ => rfl) (by decide))
  obtain ⟨pl, cl, rfl, hql⟩ := id (hol.rd (fun _ => rfl) (by decide))
  refine ca_enter Tryz.func168 rfl rfl ?_
  rw [Tryz.ntmps168]
  simp only [envOf]
  refine cg_seq ?_
  refine cg_region ?_
  refine rg_q (.inl rfl) rfl rfl (by exact QW.qr (qw_assign rfl)) ?_
  refine rg_nil ?_
  refine qg_then ?_
  refine cg_seq ?_
  refine cg_seq ?_
  refine cg_region ?_
  refine rg_q (.inl rfl) rfl rfl (by exact QW.qr (qw_move rfl)) ?_
  refine rg_e (.inl rfl) rfl rfl (by exact ev_call0 rfl (.cons rfl (.nil)) (slabUp_ca b _ _ s O _ (mem_cat (s := [slabBlk b _ _ s]) (by repeat (first | exact List.Mem.head _ | apply List.Mem.tail)) (List.Mem.head _)))) ?_
  rintro _ _ ⟨rfl, rfl⟩
  generalize hup : (if s.down = true then (5 : Int) else 0) = up
  refine rg_q (.inl rfl) rfl rfl (by exact QW.qr (qw_assign rfl)) ?_
  refine rg_nil ?_
  refine qg_then ?_
  refine cg_seq ?_
  refine cg_region ?_
  refine rg_q (.inl rfl) rfl rfl (by exact QW.qr (qw_move rfl)) ?_
  refine rg_split (.inl rfl) rfl rfl (by exact qc_neq rfl rfl) ?_ ?_
  · intro hc
    have hdn : s.down = true := by
      cases hd : s.down
      · rw [hd] at hup; exact absurd hup.symm hc
      · rfl
    have hfin : syncS s = (s, 5) := by rw [syncS, if_pos hdn]
    rw [if_pos hdn] at hup
    subst hup
    refine rg_nil ?_
    refine qg_then ?_
    refine cg_true rfl ?_
    refine cg_seq ?_
    refine cg_region ?_
    refine rg_q (.inl rfl) rfl rfl (by exact QW.qr (qw_move rfl)) ?_
    refine rg_q (.inl rfl) rfl rfl (by exact QW.qr (qw_assign rfl)) ?_
    refine rg_nil ?_
    refine qg_then ?_
    refine cg_ret ?_
    refine qg_then_ret ?_
    exact qg_end (.inl rfl) _ (.cons (.tmp rfl) (.nil)) _ (List.Sublist.refl _) ⟨by rw [hfin] <;> rfl, _, slab_close, by rw [hfin]; exact ⟨_, _, Bs, Bl, hos, hol, rfl⟩⟩
  · intro hc
    have hdn : ¬ s.down = true := by
      intro hd
      rw [if_pos hd] at hup
      exact hc (by rw [← hup]; decide)
    refine rg_nil ?_
    refine qg_then ?_
    refine cg_false rfl ?_
    refine cg_skip ?_
    refine qg_then ?_
    refine cg_seq ?_
    refine cg_seq ?_
    refine cg_region ?_
    refine rg_q (.inl rfl) rfl rfl (by exact QW.qr (qw_move rfl)) ?_
    refine rg_e (.inl rfl) rfl rfl (by exact ev_call0 rfl (.cons rfl (.nil)) (step_ca b _ _ s O _)) ?_
    rintro _ _ ⟨rfl, rfl⟩
    generalize hst : stepS s = st
    have hsame := stepS_same s
    rw [hst] at hsame
    obtain ⟨s1, e1⟩ := st
    obtain ⟨hsu, hlo⟩ := hsame
    replace hsu : s1.sure = s.sure := hsu
    replace hlo : s1.loose = s.loose := hlo
    refine rg_q (.inl rfl) rfl rfl (by exact QW.qr (qw_assign rfl)) ?_
    refine rg_nil ?_
    refine qg_then ?_
    refine cg_seq ?_
    refine cg_region ?_
    refine rg_q (.inl rfl) rfl rfl (by exact QW.qr (qw_move rfl)) ?_
    refine rg_split (.inl rfl) rfl rfl (by exact qc_neq rfl rfl) ?_ ?_
    · intro he
      have hfin : syncS s = (s1, e1) := by rw [syncS, if_neg hdn, hst, if_pos he]
      refine rg_nil ?_
      refine qg_then ?_
      refine cg_true rfl ?_
      refine cg_seq ?_
      refine cg_region ?_
      refine rg_q (.inl rfl) rfl rfl (by exact QW.qr (qw_move rfl)) ?_
      refine rg_q (.inl rfl) rfl rfl (by exact QW.qr (qw_assign rfl)) ?_
      refine rg_nil ?_
      refine qg_then ?_
      refine cg_ret ?_
      refine qg_then_ret ?_
      exact qg_end (.inl rfl) _ (.cons (.tmp rfl) (.nil)) _ (List.Sublist.refl _) ⟨by rw [hfin] <;> rfl, _, slab_close, by rw [hfin]; exact ⟨_, _, Bs, Bl, by rw [hsu]; exact hos, by rw [hlo]; exact hol, rfl⟩⟩
    · intro he
      have hfin : syncS s = (⟨s.sure ++ s.loose, [], s1.steps, s1.fuse, s1.down⟩, 0) := by rw [syncS, if_neg hdn, hst, if_neg he, hsu, hlo]
      refine rg_nil ?_
      refine qg_then ?_
      refine cg_false rfl ?_
      refine cg_skip ?_
      refine qg_then ?_
      refine cg_seq ?_
      unfold slabBlk PT
      refine cg_draw follows (.op 0 false (.op 1 false (.op 2 false (.op 3 false (.op 4 false (.op 5 false (.op 6 false (.op 7 false (.op 8 false (.op 9 false (.op 10 false (.op 11 false (.op 12 false (.op 13 false (.op 14 false (.op 15 false (.op 16 false .done))))))))))))))))) _ (by kernel_rfl) (SubP.of (List.Sublist.refl _)) ?_
      refine dg_w rfl rfl (.inl rfl) rfl rfl (by exact qw_move rfl) ?_
      refine dg_w rfl rfl (.inl rfl) rfl rfl (by exact qw_move rfl) ?_
      refine dg_w rfl rfl (.inl rfl) rfl rfl (by exact qw_move rfl) ?_
      refine dg_w rfl rfl (.inl rfl) rfl rfl (by exact qw_nilCheck rfl) ?_
      refine dg_w rfl rfl (.inl rfl) rfl rfl (by exact qw_fieldAddr rfl) ?_
      refine dg_r rfl rfl rfl (.inl rfl) rfl rfl (by exact qr_load1 rfl (by repeat (first | exact List.Mem.head _ | apply List.Mem.tail | apply List.mem_append_right | assumption)) rfl) ?_
      refine dg_w rfl rfl (.inl rfl) rfl rfl (by exact qw_move rfl) ?_
      refine dg_w rfl rfl (.inl rfl) rfl rfl (by exact qw_nilCheck rfl) ?_
      refine dg_w rfl rfl (.inl rfl) rfl rfl (by exact qw_fieldAddr rfl) ?_
      refine dg_r rfl rfl rfl (.inl rfl) rfl rfl (by exact qr_load1 rfl (by repeat (first | exact List.Mem.head _ | apply List.Mem.tail | apply List.mem_append_right | assumption)) rfl) ?_
      refine dg_g rfl rfl (.inl rfl) rfl rfl (by exact ev_appendL (ys := s.loose) (T := 39) (T2 := 39) (.cons rfl (.cons rfl .nil)) rfl rfl hos (R := cat [[(b, _)], Bl] L) (cat_perm (ls' := [Bs, [(b, _)], Bl]) (ls := [[(b, _)], Bs, Bl]) (by repeat (first | exact PermM.nil | refine PermM.cons (by repeat (first | exact Ins.here | apply Ins.there)) ?_))) ((hol.rd (fun _ => rfl) (by decide)).mono (fun q hq => mem_cat (s := Bl) (by repeat (first | exact List.Mem.head _ | apply List.Mem.tail)) hq)).src (fun _ => rfl) encB_one (by omega) rfl rfl rfl rfl) ?_
      rintro sv' _ ⟨Bs2, hos2, rfl⟩
      obtain ⟨ps2, cs2, rfl, hqs2⟩ := id (hos2.rd (fun _ => rfl) (by decide))
      refine dg_w rfl rfl (.inl rfl) rfl rfl (by exact qw_nilCheck rfl) ?_
      refine dg_w rfl rfl (.inl rfl) rfl rfl (by exact qw_fieldAddr rfl) ?_
      refine dg_g0 rfl rfl (.inl rfl) rfl (by exact ev_store rfl rfl (by first | exact CellsOf.agg | exact CellsOf.one rfl) (by repeat (first | exact List.Mem.head _ | apply List.Mem.tail | apply List.mem_append_right | assumption)) (by repeat (first | exact SetSeg.done | apply SetSeg.take | apply SetSeg.skip)) rfl rfl (by repeat (first | exact Upd.here | apply Upd.there | apply Upd.app)) (by first | exact Or.inl ⟨inferInstance, rfl⟩ | exact Or.inr inferInstance)) ?_
      rintro _ _ ⟨rfl, rfl⟩
      refine dg_w rfl rfl (.inl rfl) rfl rfl (by exact qw_nilCheck rfl) ?_
      refine dg_w rfl rfl (.inl rfl) rfl rfl (by exact qw_fieldAddr rfl) ?_
      refine dg_g0 rfl rfl (.inl rfl) rfl (by exact ev_store rfl rfl (by first | exact CellsOf.agg | exact CellsOf.one rfl) (by repeat (first | exact List.Mem.head _ | apply List.Mem.tail | apply List.mem_append_right | assumption)) (by repeat (first | exact SetSeg.done | apply SetSeg.take | apply SetSeg.skip)) rfl rfl (by repeat (first | exact Upd.here | apply Upd.there | apply Upd.app)) (by first | exact Or.inl ⟨inferInstance, rfl⟩ | exact Or.inr inferInstance)) ?_
      rintro _ _ ⟨rfl, rfl⟩
      refine dg_nil ?_
      refine qg_then ?_
      refine cg_seq ?_
      refine cg_region ?_
      refine rg_q (.inl rfl) rfl rfl (by exact QW.qr (qw_assign rfl)) ?_
      refine rg_nil ?_
      refine qg_then ?_
      refine cg_ret ?_
      exact qg_end_sp (.inl rfl) _ (.cons (.tmp rfl) (.nil)) _ (cat_sub (ls' := [[(b, _)], Bs2]) (ls := [Bs2, [(b, _)], Bl]) (by repeat (first | exact SubM.nil | refine SubM.cons (by repeat (first | exact Ins.here | apply Ins.there)) ?_))) ⟨by rw [hfin] <;> rfl, _ :: (Bs2 ++ []), by rw [List.append_nil]; rfl, by rw [hfin]; exact ⟨_, _, Bs2, [], hos2, OwnL.nil, rfl⟩⟩

theorem append_ca (b : Nat) (s : Slab) (Bk : List Blk) (p : Bytes) (pv : Value) (O : Out) (L : List Blk) (hs : SlabAt b s Bk) (hp : RdL L encB 1 pv p) (hsz : s.sure.length + s.loose.length ≤ 300000) (hpl : p.length ≤ 600000) :
    CA Tryz.prog 172 [PT b, pv] O (Bk ++ L) fun v L' => v = I (appendS s p).2 ∧ ∃ Bk2, L' = Bk2 ++ L ∧ SlabAt b (appendS s p).1 Bk2 := by
  obtain ⟨sv, lv, Bs, Bl, hos, hol, rfl⟩ := hs
  show CA _ _ _ O (cat [_] L) _
  rw [slab_open]
  obtain ⟨ps, cs, rfl, hqs⟩ := id (hos.rd (fun _ => rfl) (by decide))
  obtain ⟨pl, cl, rfl, hql⟩ := id (hol.rd (fun _ => rfl) (by decide))
  obtain ⟨pp, cp, rfl, hqp⟩ := id hp
  refine ca_enter Tryz.func172 rfl rfl ?_
  rw [Tryz.ntmps172]
  simp only [envOf]
  refine cg_seq ?_
  refine cg_region ?_
  refine rg_q (.inl rfl) rfl rfl (by exact QW.qr (qw_assign rfl)) ?_
  refine rg_nil ?_
  refine qg_then ?_
  refine cg_seq ?_
  refine cg_seq ?_
  refine cg_region ?_
  refine rg_q (.inl rfl) rfl rfl (by exact QW.qr (qw_move rfl)) ?_
  refine rg_e (.inl rfl) rfl rfl (by exact ev_call0 rfl (.cons rfl (.nil)) (slabUp_ca b _ _ s O _ (mem_cat (s := [slabBlk b _ _ s]) (by repeat (first | exact List.Mem.head _ | apply List.Mem.tail)) (List.Mem.head _)))) ?_
  rintro _ _ ⟨rfl, rfl⟩
  generalize hup : (if s.down = true then (5 : Int) else 0) = up
  refine rg_q (.inl rfl) rfl rfl (by exact QW.qr (qw_assign rfl)) ?_
  refine rg_nil ?_
  refine qg_then ?_
  refine cg_seq ?_
  refine cg_region ?_
  refine rg_q (.inl rfl) rfl rfl (by exact QW.qr (qw_move rfl)) ?_
  refine rg_split (.inl rfl) rfl rfl (by exact qc_neq rfl rfl) ?_ ?_
  · intro hc
    have hdn : s.down = true := by
      cases hd : s.down
      · rw [hd] at hup; exact absurd hup.symm hc
      · rfl
    have hfin : appendS s p = (s, 5) := by rw [appendS, if_pos hdn]
    rw [if_pos hdn] at hup
    subst hup
    refine rg_nil ?_
    refine qg_then ?_
    refine cg_true rfl ?_
    refine cg_seq ?_
    refine cg_region ?_
    refine rg_q (.inl rfl) rfl rfl (by exact QW.qr (qw_move rfl)) ?_
    refine rg_q (.inl rfl) rfl rfl (by exact QW.qr (qw_assign rfl)) ?_
    refine rg_nil ?_
    refine qg_then ?_
    refine cg_ret ?_
    refine qg_then_ret ?_
    exact qg_end (.inl rfl) _ (.cons (.tmp rfl) (.nil)) _ (List.Sublist.refl _) ⟨by rw [hfin] <;> rfl, _, slab_close, by rw [hfin]; exact ⟨_, _, Bs, Bl, hos, hol, rfl⟩⟩
  · intro hc
    have hdn : ¬ s.down = true := by
      intro hd
      rw [if_pos hd] at hup
      exact hc (by rw [← hup]; decide)
    refine rg_nil ?_
    refine qg_then ?_
    refine cg_false rfl ?_
    refine cg_skip ?_
    refine qg_then ?_
    refine cg_seq ?_
    refine cg_seq ?_
    unfold slabBlk PT
    refine cg_draw follows (.op 0 false (.op 1 false (.op 2 false (.op 3 false (.op 4 false (.op 5 false (.op 6 false (.op 7 false (.op 8 false (.op 9 false (.op 10 false (.op 11 false (.op 12 false (.op 13 false (.op 14 false .done))))))))))))))) _ (by kernel_rfl) (SubP.of (List.Sublist.refl _)) ?_
    refine dg_w rfl rfl (.inl rfl) rfl rfl (by exact qw_move rfl) ?_
    refine dg_w rfl rfl (.inl rfl) rfl rfl (by exact qw_len_slice (t := 39) (.cons rfl (.nil)) rfl) ?_
    refine dg_w rfl rfl (.inl rfl) rfl rfl (by exact qw_move rfl) ?_
    refine dg_w rfl rfl (.inl rfl) rfl rfl (by exact qw_nilCheck rfl) ?_
    refine dg_w rfl rfl (.inl rfl) rfl rfl (by exact qw_fieldAddr rfl) ?_
    refine dg_r rfl rfl rfl (.inl rfl) rfl rfl (by exact qr_load1 rfl (by repeat (first | exact List.Mem.head _ | apply List.Mem.tail | apply List.mem_append_right | assumption)) rfl) ?_
    refine dg_w rfl rfl (.inl rfl) rfl rfl (by exact qw_len_slice (t := 39) (.cons rfl (.nil)) rfl) ?_
    refine dg_w rfl rfl (.inl rfl) rfl rfl (by exact qw_sub_in rfl rfl (by unfold inK; omega)) ?_
    refine dg_w rfl rfl (.inl rfl) rfl rfl (by exact qw_move rfl) ?_
    refine dg_w rfl rfl (.inl rfl) rfl rfl (by exact qw_nilCheck rfl) ?_
    refine dg_w rfl rfl (.inl rfl) rfl rfl (by exact qw_fieldAddr rfl) ?_
    refine dg_r rfl rfl rfl (.inl rfl) rfl rfl (by exact qr_load1 rfl (by repeat (first | exact List.Mem.head _ | apply List.Mem.tail | apply List.mem_append_right | assumption)) rfl) ?_
    refine dg_w rfl rfl (.inl rfl) rfl rfl (by exact qw_len_slice (t := 39) (.cons rfl (.nil)) rfl) ?_
    refine dg_w rfl rfl (.inl rfl) rfl rfl (by exact qw_sub_in rfl rfl (by unfold inK; omega)) ?_
    refine dg_split rfl rfl (.inl rfl) rfl rfl (by exact qc_gtr rfl rfl) ?_ ?_
    · intro hfull
      have hfin : appendS s p = (s, 4) := by rw [appendS, if_neg hdn, if_pos hfull]
      refine dg_nil ?_
      refine qg_then ?_
      refine cg_true rfl ?_
      refine cg_seq ?_
      refine cg_region ?_
      refine rg_q (.inl rfl) rfl rfl (by exact QW.qr (qw_assign rfl)) ?_
      refine rg_nil ?_
      refine qg_then ?_
      refine cg_ret ?_
      refine qg_then_ret ?_
      exact qg_end (.inl rfl) _ (.cons (.tmp rfl) (.nil)) _ (List.Sublist.refl _) ⟨by rw [hfin] <;> rfl, _, slab_close, by rw [hfin]; exact ⟨_, _, Bs, Bl, hos, hol, rfl⟩⟩
    · intro hfull
      refine dg_nil ?_
      refine qg_then ?_
      refine cg_false rfl ?_
      refine cg_skip ?_
      refine qg_then ?_
      refine cg_seq ?_
      refine cg_seq ?_
      refine cg_region ?_
      refine rg_q (.inl rfl) rfl rfl (by exact QW.qr (qw_move rfl)) ?_
      refine rg_e (.inl rfl) rfl rfl (by exact ev_call0 rfl (.cons rfl (.nil)) (step_ca b _ _ s O _)) ?_
      rintro _ _ ⟨rfl, rfl⟩
      generalize hst : stepS s = st
      have hsame := stepS_same s
      rw [hst] at hsame
      obtain ⟨s1, e1⟩ := st
      obtain ⟨hsu, hlo⟩ := hsame
      replace hsu : s1.sure = s.sure := hsu
      replace hlo : s1.loose = s.loose := hlo
      refine rg_q (.inl rfl) rfl rfl (by exact QW.qr (qw_assign rfl)) ?_
      refine rg_nil ?_
      refine qg_then ?_
      refine cg_seq ?_
      refine cg_region ?_
      refine rg_q (.inl rfl) rfl rfl (by exact QW.qr (qw_move rfl)) ?_
      refine rg_split (.inl rfl) rfl rfl (by exact qc_neq rfl rfl) ?_ ?_
      · intro he
        have hfin : appendS s p = (s1, e1) := by rw [appendS, if_neg hdn, if_neg hfull, hst, if_pos he]
        refine rg_nil ?_
        refine qg_then ?_
        refine cg_true rfl ?_
        refine cg_seq ?_
        refine cg_region ?_
        refine rg_q (.inl rfl) rfl rfl (by exact QW.qr (qw_move rfl)) ?_
        refine rg_q (.inl rfl) rfl rfl (by exact QW.qr (qw_assign rfl)) ?_
        refine rg_nil ?_
        refine qg_then ?_
        refine cg_ret ?_
        refine qg_then_ret ?_
        exact qg_end (.inl rfl) _ (.cons (.tmp rfl) (.nil)) _ (List.Sublist.refl _) ⟨by rw [hfin] <;> rfl, _, slab_close, by rw [hfin]; exact ⟨_, _, Bs, Bl, by rw [hsu]; exact hos, by rw [hlo]; exact hol, rfl⟩⟩
      · intro he
        have hfin : appendS s p = (⟨s1.sure, s.loose ++ p, s1.steps, s1.fuse, s1.down⟩, 0) := by rw [appendS, if_neg hdn, if_neg hfull, hst, if_neg he, hlo]
        refine rg_nil ?_
        refine qg_then ?_
        refine cg_false rfl ?_
        refine cg_skip ?_
        refine qg_then ?_
        refine cg_seq ?_
        unfold slabBlk
        refine cg_region ?_
        refine rg_q (.inl rfl) rfl rfl (by exact QW.qr (qw_move rfl)) ?_
        refine rg_q (.inl rfl) rfl rfl (by exact QW.qr (qw_move rfl)) ?_
        refine rg_q (.inl rfl) rfl rfl (by exact QW.qr (qw_nilCheck rfl)) ?_
        refine rg_q (.inl rfl) rfl rfl (by exact QW.qr (qw_fieldAddr rfl)) ?_
        refine rg_q (.inl rfl) rfl rfl (by exact qr_load1 rfl (by repeat (first | exact List.Mem.head _ | apply List.Mem.tail | apply List.mem_append_right | assumption)) rfl) ?_
        refine rg_q (.inl rfl) rfl rfl (by exact QW.qr (qw_move rfl)) ?_
        refine rg_e (.inl rfl) rfl rfl (by exact ev_appendL (ys := p) (T := 39) (T2 := 39) (.cons rfl (.cons rfl .nil)) rfl rfl hol (R := cat [[(b, _)], Bs] L) (cat_perm (ls' := [Bl, [(b, _)], Bs]) (ls := [[(b, _)], Bs, Bl]) (by repeat (first | exact PermM.nil | refine PermM.cons (by repeat (first | exact Ins.here | apply Ins.there)) ?_))) (hp.mono (fun q hq => mem_catF hq)).src (fun _ => rfl) encB_one (by omega) rfl rfl rfl rfl) ?_
        rintro lv' _ ⟨Bl2, hol2, rfl⟩
        obtain ⟨pl2, cl2, rfl, hql2⟩ := id (hol2.rd (fun _ => rfl) (by decide))
        refine rg_q (.inl rfl) rfl rfl (by exact QW.qr (qw_nilCheck rfl)) ?_
        refine rg_q (.inl rfl) rfl rfl (by exact QW.qr (qw_fieldAddr rfl)) ?_
        refine rg_e0 (.inl rfl) rfl (by exact ev_store rfl rfl (by first | exact CellsOf.agg | exact CellsOf.one rfl) (by repeat (first | exact List.Mem.head _ | apply List.Mem.tail | apply List.mem_append_right | assumption)) (by repeat (first | exact SetSeg.done | apply SetSeg.take | apply SetSeg.skip)) rfl rfl (by repeat (first | exact Upd.here | apply Upd.there | apply Upd.app)) (by first | exact Or.inl ⟨inferInstance, rfl⟩ | exact Or.inr inferInstance)) ?_
        rintro _ _ ⟨rfl, rfl⟩
        refine rg_nil ?_
        refine qg_then ?_
        refine cg_seq ?_
        refine cg_region ?_
        refine rg_q (.inl rfl) rfl rfl (by exact QW.qr (qw_assign rfl)) ?_
        refine rg_nil ?_
        refine qg_then ?_
        refine cg_ret ?_
        exact qg_end_sp (.inl rfl) _ (.cons (.tmp rfl) (.nil)) _ (cat_sub (ls' := [[(b, _)], Bs, Bl2]) (ls := [Bl2, [(b, _)], Bs]) (by repeat (first | exact SubM.nil | refine SubM.cons (by repeat (first | exact Ins.here | apply Ins.there)) ?_))) ⟨by rw [hfin] <;> rfl, _, slab_close, by rw [hfin]; exact ⟨_, _, Bs, Bl2, by rw [hsu]; exact hos, hol2, rfl⟩⟩

theorem read_nil (O : Out) (L : List Blk) : CA Tryz.prog 188 [.pointer none] O L fun v L' => v = .tuple #[.slice none 0 0, I 2] ∧ L' = L := by
  refine ca_enter Tryz.func188 rfl rfl ?_
  rw [Tryz.ntmps188]
  simp only [envOf]
  refine cg_seq ?_
  refine cg_region ?_
  refine rg_q (.inl rfl) rfl rfl (by exact QW.qr (qw_assign rfl)) ?_
  refine rg_q (.inl rfl) rfl rfl (by exact QW.qr (qw_assign rfl)) ?_
  refine rg_nil ?_
  refine qg_then ?_
  refine cg_seq ?_
  refine cg_seq ?_
  refine cg_region ?_
  refine rg_q (.inl rfl) rfl rfl (by exact QW.qr (qw_move rfl)) ?_
  refine rg_e (.inl rfl) rfl rfl (by exact ev_call0 rfl (.cons rfl (.nil)) (slabUp_nil O _)) ?_
  rintro _ _ ⟨rfl, rfl⟩
  refine rg_q (.inl rfl) rfl rfl (by exact QW.qr (qw_assign rfl)) ?_
  refine rg_nil ?_
  refine qg_then ?_
  refine cg_seq ?_
  refine cg_region ?_
  refine rg_q (.inl rfl) rfl rfl (by exact QW.qr (qw_move rfl)) ?_
  refine rg_q (.inl rfl) rfl rfl (by exact QW.qr (qw_neq_t rfl rfl (by decide))) ?_
  refine rg_nil ?_
  refine qg_then ?_
  refine cg_true rfl ?_
  refine cg_seq ?_
  refine cg_region ?_
  refine rg_q (.inl rfl) rfl rfl (by exact QW.qr (qw_move rfl)) ?_
  refine rg_q (.inl rfl) rfl rfl (by exact QW.qr (qw_assign rfl)) ?_
  refine rg_q (.inl rfl) rfl rfl (by exact QW.qr (qw_assign rfl)) ?_
  refine rg_nil ?_
  refine qg_then ?_
  refine cg_ret ?_
  refine qg_then_ret ?_
  exact qg_end (.inl rfl) _ (.cons (.tmp rfl) (.cons (.tmp rfl) (.nil))) _ (by repeat (first | exact List.Sublist.refl _ | exact List.nil_sublist _ | exact List.sublist_append_right _ _ | apply List.Sublist.cons_cons | apply List.Sublist.cons | refine List.Sublist.trans ?_ (List.sublist_append_right _ _))) ⟨rfl, rfl⟩

theorem read_ca (b : Nat) (s : Slab) (Bk : List Blk) (O : Out) (L : List Blk) (hs : SlabAt b s Bk) (hsz : s.sure.length + s.loose.length ≤ 1000000) :
    CA Tryz.prog 188 [PT b] O (Bk ++ L) fun v L' => (s.down = true ∧ v = .tuple #[.slice none 0 0, I 5] ∧ L' = Bk ++ L) ∨ (¬ s.down = true ∧ ∃ rv B, v = .tuple #[rv, I 0] ∧ L' = B ++ (Bk ++ L) ∧ OwnL 5 encB 1 rv (s.sure ++ s.loose) B) := by
  obtain ⟨sv, lv, Bs, Bl, hos, hol, rfl⟩ := hs
  show CA _ _ _ O (cat [_] L) _
  rw [slab_open]
  obtain ⟨ps, cs, rfl, hqs⟩ := id (hos.rd (fun _ => rfl) (by decide))
  obtain ⟨pl, cl, rfl, hql⟩ := id (hol.rd (fun _ => rfl) (by decide))
  refine ca_enter Tryz.func188 rfl rfl ?_
  rw [Tryz.ntmps188]
  simp only [envOf]
  refine cg_seq ?_
  refine cg_region ?_
  refine rg_q (.inl rfl) rfl rfl (by exact QW.qr (qw_assign rfl)) ?_
  refine rg_q (.inl rfl) rfl rfl (by exact QW.qr (qw_assign rfl)) ?_
  refine rg_nil ?_
  refine qg_then ?_
  refine cg_seq ?_
  refine cg_seq ?_
  refine cg_region ?_
  refine rg_q (.inl rfl) rfl rfl (by exact QW.qr (qw_move rfl)) ?_
  refine rg_e (.inl rfl) rfl rfl (by exact ev_call0 rfl (.cons rfl (.nil)) (slabUp_ca b _ _ s O _ (mem_cat (s := [slabBlk b _ _ s]) (by repeat (first | exact List.Mem.head _ | apply List.Mem.tail)) (List.Mem.head _)))) ?_
  rintro _ _ ⟨rfl, rfl⟩
  generalize hup : (if s.down = true then (5 : Int) else 0) = up
  refine rg_q (.inl rfl) rfl rfl (by exact QW.qr (qw_assign rfl)) ?_
  refine rg_nil ?_
  refine qg_then ?_
  refine cg_seq ?_
  refine cg_region ?_
  refine rg_q (.inl rfl) rfl rfl (by exact QW.qr (qw_move rfl)) ?_
  refine rg_split (.inl rfl) rfl rfl (by exact qc_neq rfl rfl) ?_ ?_
  · intro hc
    have hdn : s.down = true := by
      cases hd : s.down
      · rw [hd] at hup; exact absurd hup.symm hc
      · rfl
    rw [if_pos hdn] at hup
    subst hup
    refine rg_nil ?_
    refine qg_then ?_
    refine cg_true rfl ?_
    refine cg_seq ?_
    refine cg_region ?_
    refine rg_q (.inl rfl) rfl rfl (by exact QW.qr (qw_move rfl)) ?_
    refine rg_q (.inl rfl) rfl rfl (by exact QW.qr (qw_assign rfl)) ?_
    refine rg_q (.inl rfl) rfl rfl (by exact QW.qr (qw_assign rfl)) ?_
    refine rg_nil ?_
    refine qg_then ?_
    refine cg_ret ?_
    refine qg_then_ret ?_
    exact qg_end (.inl rfl) _ (.cons (.tmp rfl) (.cons (.tmp rfl) (.nil))) _ (List.Sublist.refl _) (.inl ⟨hdn, rfl, slab_close⟩)
  · intro hc
    have hdn : ¬ s.down = true := by
      intro hd
      rw [if_pos hd] at hup
      exact hc (by rw [← hup]; decide)
    refine rg_nil ?_
    refine qg_then ?_
    refine cg_false rfl ?_
    refine cg_skip ?_
    refine qg_then ?_
    refine cg_seq ?_
    unfold slabBlk PT
    refine cg_draw follows (.op 0 false (.op 1 false (.op 2 false (.op 3 false (.op 5 false (.op 6 false (.op 7 false (.op 8 false (.op 4 true (.op 9 false (.op 10 false (.op 11 false .done)))))))))))) _ (by kernel_rfl) (SubP.of (List.Sublist.refl _)) ?_
    refine dg_w rfl rfl (.inl rfl) rfl rfl (by exact qw_move rfl) ?_
    refine dg_w rfl rfl (.inl rfl) rfl rfl (by exact qw_nilCheck rfl) ?_
    refine dg_w rfl rfl (.inl rfl) rfl rfl (by exact qw_fieldAddr rfl) ?_
    refine dg_r rfl rfl rfl (.inl rfl) rfl rfl (by exact qr_load1 rfl (by repeat (first | exact List.Mem.head _ | apply List.Mem.tail | apply List.mem_append_right | assumption)) rfl) ?_
    refine dg_w rfl rfl (.inl rfl) rfl rfl (by exact qw_move rfl) ?_
    refine dg_w rfl rfl (.inl rfl) rfl rfl (by exact qw_nilCheck rfl) ?_
    refine dg_w rfl rfl (.inl rfl) rfl rfl (by exact qw_fieldAddr rfl) ?_
    refine dg_r rfl rfl rfl (.inl rfl) rfl rfl (by exact qr_load1 rfl (by repeat (first | exact List.Mem.head _ | apply List.Mem.tail | apply List.mem_append_right | assumption)) rfl) ?_
    refine dg_e rfl rfl (.inl rfl) rfl rfl (by exact ev_call0 rfl (.cons rfl (.nil)) (cloneB_ca s.sure _ O _ ((hos.rd (fun _ => rfl) (by decide)).mono (fun q hq => mem_cat (s := Bs) (by repeat (first | exact List.Mem.head _ | apply List.Mem.tail)) hq)) (by omega))) ?_
    rintro cv _ ⟨Bc, hoc, rfl⟩
    obtain ⟨pc, cc, rfl, hqc⟩ := id (hoc.rd (fun _ => rfl) (by decide))
    refine ⟨(SubP.of (by repeat (first | exact List.Sublist.refl _ | exact List.nil_sublist _ | exact List.sublist_append_right _ _ | apply List.Sublist.cons_cons | apply List.Sublist.cons | refine List.Sublist.trans ?_ (List.sublist_append_right _ _)))), ?_⟩
    refine dg_g rfl rfl (.inl rfl) rfl rfl (by exact ev_appendL (ys := s.loose) (T := 39) (T2 := 39) (.cons rfl (.cons rfl .nil)) rfl rfl hoc (R := cat [[(b, _)], Bs, Bl] L) (List.Perm.refl _) ((hol.rd (fun _ => rfl) (by decide)).mono (fun q hq => mem_cat (s := Bl) (by repeat (first | exact List.Mem.head _ | apply List.Mem.tail)) hq)).src (fun _ => rfl) encB_one (by omega) rfl rfl rfl rfl) ?_
    rintro rv _ ⟨Br, hor, rfl⟩
    refine dg_w rfl rfl (.inl rfl) rfl rfl (by exact qw_assign rfl) ?_
    refine dg_w rfl rfl (.inl rfl) rfl rfl (by exact qw_assign rfl) ?_
    refine dg_nil ?_
    refine qg_then ?_
    refine cg_ret ?_
    exact qg_end (.inl rfl) _ (.cons (.tmp rfl) (.cons (.tmp rfl) (.nil))) _ (List.Sublist.refl _) (.inr ⟨hdn, rv, Br, rfl, congrArg (Br ++ ·) slab_close, hor⟩)

end Go.Proofs.YthmicniimofagaaGreat