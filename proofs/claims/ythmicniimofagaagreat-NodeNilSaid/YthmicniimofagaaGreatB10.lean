/-
  THE WALK of logbook's Open. Conditions: sizes.
-/
import Derived.Test.YthmicniimofagaaGreatB9
namespace Go.Proofs.YthmicniimofagaaGreat
open Fw
open Go.Proofs (encStr)
set_option linter.unusedVariables false
set_option maxRecDepth 100000
set_option maxHeartbeats 2000000

theorem Fw.CA.post {P : Program} {f : FuncId} {args : List Value} {O : Out} {L : List Blk} {R R2 : Value → List Blk → Prop} (h : CA P f args O L R) (hr : ∀ v L', R v L' → ∃ L2, R2 v L2 ∧ SubP L2 L') : CA P f args O L R2 :=
  fun w hh => (h w hh).mono fun _ _ ⟨v, L', he, hR, hH⟩ => let ⟨L2, h1, h2⟩ := hr v L' hR; ⟨v, L2, he, h1, hH.subp h2⟩
def sK (s0 s1 : Slab) : Nat → Slab
  | 0 => s0
  | _ => s1
def bK (b0 b1 : Nat) : Nat → Nat
  | 0 => b0
  | _ => b1
def bytesS (s : Slab) : Bytes := s.sure ++ s.loose
def pickStep (i : Nat) (st : Bool × Lb) (t : Tale) : Bool × Lb := if t.shut = true ∧ (st.1 = false ∨ t.life > st.2.life) then (true, ⟨i, t.life, t.has, st.2.dead⟩) else st
def pickK (s0 s1 : Slab) : Nat → Bool × Lb
  | 0 => (false, ⟨1, 0, [], 0⟩)
  | k + 1 => pickStep k (pickK s0 s1 k) (tell (bytesS (sK s0 s1 k)))
theorem pick_yes {i : Nat} {st : Bool × Lb} {t : Tale} (h : t.shut = true) (h2 : st.1 = false ∨ t.life > st.2.life) : pickStep i st t = (true, ⟨i, t.life, t.has, st.2.dead⟩) := by rw [pickStep, if_pos ⟨h, h2⟩]
theorem pick_no {i : Nat} {st : Bool × Lb} {t : Tale} (h : ¬ (t.shut = true ∧ (st.1 = false ∨ t.life > st.2.life))) : pickStep i st t = st := by rw [pickStep, if_neg h]
structure LbOk (l : Lb) (w : Nat) : Prop where
  at_ : l.at_ = 0 ∨ l.at_ = 1
  life : isU32 l.life
  nd : (l.has.map Prod.fst).Nodup
  small : ∀ e ∈ l.has, e.1.length ≤ 255
  weight : weigh l.has ≤ w
theorem pickK_ok (s0 s1 : Slab) (w : Nat) (h0 : (bytesS s0).length ≤ w) (h1 : (bytesS s1).length ≤ w) : ∀ k, k ≤ 2 → LbOk (pickK s0 s1 k).2 w
  | 0, _ => ⟨.inr rfl, ⟨by show (0 : Int) ≤ 0; decide, by show (0 : Int) ≤ _; decide⟩, by simp [pickK], fun e he => (by cases he), by simp [weigh, pickK]⟩
  | k + 1, hk => by
    have ih := pickK_ok s0 s1 w h0 h1 k (by omega)
    rw [pickK, pickStep]
    split
    · have ht := tell_ok (bytesS (sK s0 s1 k))
      have hk01 : k = 0 ∨ k = 1 := by omega
      have hb : (bytesS (sK s0 s1 k)).length ≤ w := by rcases hk01 with rfl | rfl; exact h0; exact h1
      exact ⟨by rcases hk01 with rfl | rfl; exact .inl rfl; exact .inr rfl, ht.life, ht.nd, ht.small, Nat.le_trans ht.weight hb⟩
    · exact ih
/-- A logbook over two slabs, in the order in which they stand. -/
def LbIn (bl b0 b1 : Nat) (l : Lb) (K : List Blk) : Prop := (l.at_ = 0 ∨ l.at_ = 1) ∧ ∃ bm es c ms Bv, MapS es c vOf ms ∧ ValsAt Bv ms ∧ plain ms = l.has ∧ K = lbBlk bl b0 b1 bm l :: (bm, .map es c) :: Bv
theorem LbIn.zero {bl b0 b1 : Nat} {l : Lb} {K : List Blk} (h : l.at_ = 0) : LbIn bl b0 b1 l K ↔ LbAt bl b0 b1 l K := by
  constructor
  · rintro ⟨_, bm, es, c, ms, Bv, h1, h2, h3, h4⟩
    exact ⟨b0, b1, bm, es, c, ms, Bv, .inl ⟨h, rfl, rfl⟩, h1, h2, h3, h4⟩
  · rintro ⟨x, y, bm, es, c, ms, Bv, hon, h1, h2, h3, h4⟩
    rcases hon with ⟨_, rfl, rfl⟩ | ⟨h5, _, _⟩
    · exact ⟨.inl h, bm, es, c, ms, Bv, h1, h2, h3, h4⟩
    · omega
theorem LbIn.one {bl b0 b1 : Nat} {l : Lb} {K : List Blk} (h : l.at_ = 1) : LbIn bl b0 b1 l K ↔ LbAt bl b1 b0 l K := by
  constructor
  · rintro ⟨_, bm, es, c, ms, Bv, h1, h2, h3, h4⟩
    exact ⟨b0, b1, bm, es, c, ms, Bv, .inr ⟨h, rfl, rfl⟩, h1, h2, h3, h4⟩
  · rintro ⟨x, y, bm, es, c, ms, Bv, hon, h1, h2, h3, h4⟩
    rcases hon with ⟨h5, _, _⟩ | ⟨_, rfl, rfl⟩
    · omega
    · exact ⟨.inr h, bm, es, c, ms, Bv, h1, h2, h3, h4⟩
/-- The slab on which it is, the other one; both, behind something was done to one. -/
def actS (l : Lb) (s0 s1 : Slab) : Slab := if l.at_ = 0 then s0 else s1
def othS (l : Lb) (s0 s1 : Slab) : Slab := if l.at_ = 0 then s1 else s0
def setA (l : Lb) (s0 s1 s : Slab) : Slab × Slab := if l.at_ = 0 then (s, s1) else (s0, s)
def setO (l : Lb) (s0 s1 s : Slab) : Slab × Slab := if l.at_ = 0 then (s0, s) else (s, s1)
def compact2 (l : Lb) (s0 s1 : Slab) : Lb × Slab × Slab × Int := ((compactL l (othS l s0 s1)).1, (setO l s0 s1 (compactL l (othS l s0 s1)).2.1).1, (setO l s0 s1 (compactL l (othS l s0 s1)).2.1).2, (compactL l (othS l s0 s1)).2.2)
theorem compact_err_at {l : Lb} {so : Slab} (h : (compactL l so).2.2 ≠ 0) : (compactL l so).1.at_ = l.at_ := by
  unfold compactL at *
  split at h
  · rename_i h1; rw [if_pos h1]
  · rename_i h1; rw [if_neg h1]
    split at h
    · rename_i h2; rw [if_pos h2]
    · rename_i h2; rw [if_neg h2]
      split at h
      · rename_i h3; rw [if_pos h3]; rfl
      · rename_i h3; rw [if_neg h3]
        split at h
        · rename_i h4; rw [if_pos h4]; rfl
        · rename_i h4; rw [if_neg h4]
          split at h
          · rename_i h5; rw [if_pos h5]; rfl
          · exact absurd rfl h
theorem compact_ok_at {l : Lb} {so : Slab} (h : (compactL l so).2.2 = 0) : (compactL l so).1 = ⟨1 - l.at_, l.life + 1, l.has, l.dead⟩ := by
  unfold compactL at *
  split at h
  · rename_i h1; exact absurd h h1
  · rename_i h1; rw [if_neg h1]
    split at h
    · cases h
    · rename_i h2; rw [if_neg h2]
      split at h
      · rename_i h3; exact absurd h h3
      · rename_i h3; rw [if_neg h3]
        split at h
        · rename_i h4; exact absurd h h4
        · rename_i h4; rw [if_neg h4]
          split at h
          · rename_i h5; exact absurd h h5
          · rename_i h5; rw [if_neg h5]
theorem compact2_ca (bl b0 b1 : Nat) (l : Lb) (s0 s1 : Slab) (K K0 K1 : List Blk) (w : Nat) (O : Out) (F : List Blk) (hl : LbIn bl b0 b1 l K) (h0 : SlabAt b0 s0 K0) (h1 : SlabAt b1 s1 K1) (hz0 : sizeS s0 ≤ 300000) (hz1 : sizeS s1 ≤ 300000) (hok : LbOk l w) (hw : w ≤ 500000) :
    CA Tryz.prog 106 [PT bl] O (cat [K, K0, K1] F) fun v L' => v = I (compact2 l s0 s1).2.2.2 ∧ ∃ K2 K02 K12, L' = cat [K2, K02, K12] F ∧ LbIn bl b0 b1 (compact2 l s0 s1).1 K2 ∧ SlabAt b0 (compact2 l s0 s1).2.1 K02 ∧ SlabAt b1 (compact2 l s0 s1).2.2.1 K12 := by
  have hlen : ∀ t ∈ l.has, t.1.length ≤ 100000 ∧ t.2.length ≤ 600000 := fun t ht => ⟨by have := hok.small t ht; omega, by have := weigh_one (k := t.1) (v := t.2) ht; have := hok.weight; omega⟩
  have hcb := compactB_len l hok.nd
  have hwt := hok.weight
  have hcnt := weigh_count l.has
  rcases hl.1 with hat | hat
  · have hl2 := (LbIn.zero hat).1 hl
    have ho : othS l s0 s1 = s1 := by rw [othS, if_pos hat]
    have hc := compact_ca bl b0 b1 l s1 K K1 O (cat [K0] F) hl2 h1 hz1 hok.life (by omega) hlen (by omega)
    refine (hc.pre (fun w h => h.perm (cat_perm (ls' := [K, K1, K0]) (ls := [K, K0, K1]) (by repeat (first | exact PermM.nil | refine PermM.cons (by repeat (first | exact Ins.here | apply Ins.there)) ?_))))).post fun v L' ⟨h2, h3⟩ => ?_
    unfold compact2 setO
    rw [ho, if_pos hat]
    rcases h3 with ⟨he, K2, K12, rfl, h4, h5⟩ | ⟨he, K2, K12, rfl, h4, h5⟩
    · exact ⟨cat [K2, K0, K12] F, ⟨h2, K2, K0, K12, rfl, (LbIn.zero (by rw [compact_err_at he]; exact hat)).2 h4, h0, h5⟩, cat_sub (ls' := [K2, K0, K12]) (ls := [K2, K12, K0]) (by repeat (first | exact SubM.nil | refine SubM.cons (by repeat (first | exact Ins.here | apply Ins.there)) ?_))⟩
    · exact ⟨cat [K2, K0, K12] F, ⟨h2, K2, K0, K12, rfl, (LbIn.one (by rw [compact_ok_at he]; show 1 - l.at_ = 1; omega)).2 h4, h0, h5⟩, cat_sub (ls' := [K2, K0, K12]) (ls := [K2, K12, K0]) (by repeat (first | exact SubM.nil | refine SubM.cons (by repeat (first | exact Ins.here | apply Ins.there)) ?_))⟩
  · have hl2 := (LbIn.one hat).1 hl
    have hn0 : ¬ l.at_ = 0 := by omega
    have ho : othS l s0 s1 = s0 := by rw [othS, if_neg hn0]
    have hc := compact_ca bl b1 b0 l s0 K K0 O (cat [K1] F) hl2 h0 hz0 hok.life (by omega) hlen (by omega)
    refine (hc.pre (fun w h => h)).post fun v L' ⟨h2, h3⟩ => ?_
    unfold compact2 setO
    rw [ho, if_neg hn0]
    rcases h3 with ⟨he, K2, K02, rfl, h4, h5⟩ | ⟨he, K2, K02, rfl, h4, h5⟩
    · exact ⟨cat [K2, K02, K1] F, ⟨h2, K2, K02, K1, rfl, (LbIn.one (by rw [compact_err_at he]; exact hat)).2 h4, h5, h1⟩, SubP.of (List.Sublist.refl _)⟩
    · exact ⟨cat [K2, K02, K1] F, ⟨h2, K2, K02, K1, rfl, (LbIn.zero (by rw [compact_ok_at he]; show 1 - l.at_ = 0; omega)).2 h4, h5, h1⟩, SubP.of (List.Sublist.refl _)⟩
theorem readK_ca (b0 b1 : Nat) (s0 s1 : Slab) (K0 K1 : List Blk) (k : Nat) (hk : k < 2) (h0 : SlabAt b0 s0 K0) (h1 : SlabAt b1 s1 K1) (hz0 : sizeS s0 ≤ 300000) (hz1 : sizeS s1 ≤ 300000) (O : Out) (F : List Blk) :
    CA Tryz.prog 128 [PT (bK b0 b1 k)] O (cat [K0, K1] F) fun v L' => ((sK s0 s1 k).down = true ∧ v = .tuple #[.agg #[U32 0, .bool false, .map none], I 5] ∧ L' = cat [K0, K1] F) ∨
      (¬ (sK s0 s1 k).down = true ∧ ∃ bm es c ms Bv, v = .tuple #[.agg #[U32 (tell (bytesS (sK s0 s1 k))).life, .bool (tell (bytesS (sK s0 s1 k))).shut, .map (some bm)], I 0] ∧ L' = cat [[(bm, .map es c)], Bv, K0, K1] F ∧ MapS es c vOf ms ∧ ValsAt Bv ms ∧ plain ms = (tell (bytesS (sK s0 s1 k))).has) := by
  unfold sizeS at hz0 hz1
  have h01 : k = 0 ∨ k = 1 := by omega
  rcases h01 with rfl | rfl
  · exact logRead_ca b0 s0 K0 h0 (by omega) O (cat [K1] F)
  · refine ((logRead_ca b1 s1 K1 h1 (by omega) O (cat [K0] F)).pre (fun w h => h.perm (cat_perm (ls' := [K1, K0]) (ls := [K0, K1]) (by repeat (first | exact PermM.nil | refine PermM.cons (by repeat (first | exact Ins.here | apply Ins.there)) ?_))))).post fun v L' h => ?_
    rcases h with ⟨h2, h3, rfl⟩ | ⟨h2, bm, es, c, ms, Bv, h3, rfl, h4, h5, h6⟩
    · exact ⟨_, .inl ⟨h2, h3, rfl⟩, cat_sub (ls' := [K0, K1]) (ls := [K1, K0]) (by repeat (first | exact SubM.nil | refine SubM.cons (by repeat (first | exact Ins.here | apply Ins.there)) ?_))⟩
    · exact ⟨_, .inr ⟨h2, bm, es, c, ms, Bv, h3, rfl, h4, h5, h6⟩, cat_sub (ls' := [[_], Bv, K0, K1]) (ls := [[_], Bv, K1, K0]) (by repeat (first | exact SubM.nil | refine SubM.cons (by repeat (first | exact Ins.here | apply Ins.there)) ?_))⟩
def openS (s0 s1 : Slab) : Lb × Slab × Slab × Int := if s0.down = true ∨ s1.down = true then (⟨1, 0, [], 0⟩, s0, s1, 5) else compact2 (pickK s0 s1 2).2 s0 s1
theorem bK_get (b0 b1 k : Nat) (hk : k < 2) : [PT b0, PT b1][(k : Int).toNat]? = some (PT (bK b0 b1 k)) := by
  have h01 : k = 0 ∨ k = 1 := by omega
  rcases h01 with rfl | rfl <;> rfl

theorem open_ca (b0 b1 : Nat) (s0 s1 : Slab) (K0 K1 : List Blk) (h0 : SlabAt b0 s0 K0) (h1 : SlabAt b1 s1 K1) (hz0 : sizeS s0 ≤ 300000) (hz1 : sizeS s1 ≤ 300000) (O : Out) (F : List Blk) :
    CA Tryz.prog 56 [PT b0, PT b1] O (cat [K0, K1] F) fun v L' => ((openS s0 s1).2.2.2 ≠ 0 ∧ v = .tuple #[.pointer none, I (openS s0 s1).2.2.2] ∧ ∃ K02 K12, L' = cat [K02, K12] F ∧ SlabAt b0 (openS s0 s1).2.1 K02 ∧ SlabAt b1 (openS s0 s1).2.2.1 K12) ∨
      ((openS s0 s1).2.2.2 = 0 ∧ ∃ bl K2 K02 K12, v = .tuple #[PT bl, I 0] ∧ L' = cat [K2, K02, K12] F ∧ LbIn bl b0 b1 (openS s0 s1).1 K2 ∧ SlabAt b0 (openS s0 s1).2.1 K02 ∧ SlabAt b1 (openS s0 s1).2.2.1 K12) := by
  have hpok := pickK_ok s0 s1 300000 (by unfold sizeS at hz0; unfold bytesS; rw [List.length_append]; omega) (by unfold sizeS at hz1; unfold bytesS; rw [List.length_append]; omega)
  refine ca_enter Tryz.func56 rfl rfl ?_
  rw [Tryz.ntmps56]
  simp only [envOf]
  refine cg_seq ?_
  refine cg_region ?_
  refine rg_q (.inl rfl) rfl rfl (by exact QW.qr (qw_assign rfl)) ?_
  refine rg_q (.inl rfl) rfl rfl (by exact QW.qr (qw_assign rfl)) ?_
  refine rg_nil ?_
  refine qg_then ?_
  refine cg_seq ?_
  refine cg_region ?_
  refine rg_q (.inl rfl) rfl rfl (by exact QW.qr (qw_move rfl)) ?_
  refine rg_q (.inl rfl) rfl rfl (by exact QW.qr (qw_move rfl)) ?_
  refine rg_q (.inl rfl) rfl rfl (by exact QW.qr (qw_build_arr (.cons rfl (.cons rfl (.nil))) (.cons rfl (by first | exact CellsOf.agg | exact CellsOf.one rfl) (by repeat (first | exact SetSeg.done | apply SetSeg.take | apply SetSeg.skip)) (by rfl) (by rfl) (.cons rfl (by first | exact CellsOf.agg | exact CellsOf.one rfl) (by repeat (first | exact SetSeg.done | apply SetSeg.take | apply SetSeg.skip)) (by rfl) (by rfl) (.nil))))) ?_
  refine rg_e (.inl rfl) rfl rfl (by exact ev_makeMap0) ?_
  rintro _ _ ⟨b16, rfl, rfl⟩
  refine rg_q (.inl rfl) rfl rfl (by exact QW.qr (qw_build (.cons rfl (.cons rfl (.cons rfl (.nil)))) rfl (.cons rfl (by first | exact CellsOf.agg | exact CellsOf.one rfl) (by repeat (first | exact SetSeg.done | apply SetSeg.take | apply SetSeg.skip)) (by rfl) (by rfl) (.cons rfl (by first | exact CellsOf.agg | exact CellsOf.one rfl) (by repeat (first | exact SetSeg.done | apply SetSeg.take | apply SetSeg.skip)) (by rfl) (by rfl) (.cons rfl (by first | exact CellsOf.agg | exact CellsOf.one rfl) (by repeat (first | exact SetSeg.done | apply SetSeg.take | apply SetSeg.skip)) (by rfl) (by rfl) (.nil)))))) ?_
  refine rg_e (.inl rfl) rfl rfl (by exact ev_box rfl (by first | exact CellsOf.agg | exact CellsOf.one rfl)) ?_
  rintro _ _ ⟨b18, rfl, rfl⟩
  refine rg_q (.inl rfl) rfl rfl (by exact QW.qr (qw_assign rfl)) ?_
  refine rg_nil ?_
  refine qg_then ?_
  refine cg_seq ?_
  refine cg_region ?_
  refine rg_q (.inl rfl) rfl rfl (by exact QW.qr (qw_assign rfl)) ?_
  refine rg_nil ?_
  refine qg_then ?_
  refine cg_seq ?_
  refine cg_seq ?_
  refine cg_region ?_
  refine rg_q (.inl rfl) rfl rfl (by exact QW.qr (qw_move rfl)) ?_
  refine rg_q (.inl rfl) rfl rfl (by exact QW.qr (qw_nilCheck rfl)) ?_
  refine rg_q (.inl rfl) rfl rfl (by exact QW.qr (qw_fieldAddr rfl)) ?_
  refine rg_q (.inl rfl) rfl rfl (by exact qr_loadN rfl (by repeat (first | exact List.Mem.head _ | apply List.Mem.tail | apply List.mem_append_right | assumption)) (by repeat (first | exact SegL.done | apply SegL.take | apply SegL.skip))) ?_
  refine rg_q (.inl rfl) rfl rfl (by exact QW.qr (qw_move rfl)) ?_
  refine rg_nil ?_
  refine qg_then ?_
  refine cg_block ?_
  refine cg_loop (fun E' L' m => ∃ (k : Nat) (found : Bool) (l : Lb) (bm : Nat) (es : Array MapEntry) (c : Nat) (ms : List (Bytes × (Bytes × Value))) (Bv : List Blk), k ≤ 2 ∧ pickK s0 s1 k = (found, l) ∧ (∀ j, j < k → ¬ (sK s0 s1 j).down = true) ∧ MapS es c vOf ms ∧ ValsAt Bv ms ∧ plain ms = l.has ∧
    E' = [(6, PT b18), (7, .bool found), (22, .agg [PT b0, PT b1].toArray), (23, .int .i64 k)] ∧ L' = cat [[lbBlk b18 b0 b1 bm l], [(bm, .map es c)], Bv, K0, K1] F ∧ m = 2 - k)
    _ _ _ ⟨0, false, ⟨1, 0, [], 0⟩, b16, #[], 0, [], [], by omega, rfl, fun j h => by omega, MapS.nil, fun t ht => (by cases ht), rfl, rfl, rfl, rfl⟩ (by repeat (first | exact Sub.nil | refine Sub.cons rfl ?_ | refine Sub.cons (congrArg (fun z => some (Value.int IntKind.i64 z)) (by omega)) ?_)) (List.Perm.refl _) ?_
  rintro _ _ _ ⟨k, found, l, bm, es, c, ms, Bv, hk, hpk, hnd, hms, hva, hpl, rfl, rfl, rfl⟩
  refine cg_seq ?_
  refine cg_region ?_
  refine rg_split (.inl rfl) rfl rfl (by exact qc_lss rfl rfl) ?_ ?_
  · intro hlt
    have hk2 : k < 2 := by omega
    refine rg_nil ?_
    refine qg_then ?_
    refine cg_seq ?_
    refine cg_true rfl ?_
    refine cg_skip ?_
    refine qg_then ?_
    refine cg_seq ?_
    refine cg_block ?_
    refine cg_seq ?_
    refine cg_region ?_
    refine rg_q (.inl rfl) rfl rfl (by exact QW.qr (qw_move rfl)) ?_
    refine rg_q (.inl rfl) rfl rfl (by exact QW.qr (qw_index_arr rfl rfl (by omega) (by omega) (bK_get b0 b1 k hk2))) ?_
    refine rg_q (.inl rfl) rfl rfl (by exact QW.qr (qw_assign rfl)) ?_
    refine rg_q (.inl rfl) rfl rfl (by exact QW.qr (qw_assign rfl)) ?_
    refine rg_nil ?_
    refine qg_then ?_
    refine cg_seq ?_
    refine cg_region ?_
    refine rg_q (.inl rfl) rfl rfl (by exact QW.qr (qw_move rfl)) ?_
    refine rg_e (.inl rfl) rfl rfl (by exact ev_call0 rfl (.cons rfl (.nil)) ((readK_ca b0 b1 s0 s1 K0 K1 k hk2 h0 h1 hz0 hz1 O (cat [[lbBlk b18 b0 b1 bm l], [(bm, .map es c)], Bv] F)).pre (fun w h => h.perm (cat_perm (ls' := [K0, K1, [lbBlk b18 b0 b1 bm l], [(bm, .map es c)], Bv]) (ls := [[lbBlk b18 b0 b1 bm l], [(bm, .map es c)], Bv, K0, K1]) (by repeat (first | exact PermM.nil | refine PermM.cons (by repeat (first | exact Ins.here | apply Ins.there)) ?_)))))) ?_
    rintro _ _ h
    rcases h with ⟨hdn, rfl, rfl⟩ | ⟨hdn, bm2, es2, c2, ms2, Bv2, rfl, rfl, hms2, hva2, hpl2⟩
    rotate_left
    generalize hTT : tell (bytesS (sK s0 s1 k)) = T at hpl2 ⊢
    obtain ⟨tl, ts, th⟩ := T
    replace hpl2 : plain ms2 = th := hpl2
    have hnd2 : ∀ j, j < k + 1 → ¬ (sK s0 s1 j).down = true := (fun j hj => by rcases Nat.lt_succ_iff_lt_or_eq.1 hj with h | h; exact hnd j h; subst h; exact hdn)
    cases ts <;> cases found
    · skip
      refine rg_q (.inl rfl) rfl rfl (by exact QW.qr (qw_move rfl)) ?_
      refine rg_q (.inl rfl) rfl rfl (by exact QW.qr (qw_extract rfl rfl)) ?_
      refine rg_q (.inl rfl) rfl rfl (by exact QW.qr (qw_extract rfl rfl)) ?_
      refine rg_e (.inl rfl) rfl rfl (by exact ev_alloc (by first | exact CellsOf.agg | exact CellsOf.one rfl)) ?_
      rintro _ _ ⟨b10, rfl, rfl⟩
      refine rg_e0 (.inl rfl) rfl (by exact ev_store rfl rfl (by first | exact CellsOf.agg | exact CellsOf.one rfl) (by repeat (first | exact List.Mem.head _ | apply List.Mem.tail | apply List.mem_append_right | assumption)) (by repeat (first | exact SetSeg.done | apply SetSeg.take | apply SetSeg.skip)) rfl rfl (by repeat (first | exact Upd.here | apply Upd.there | apply Upd.app)) (by first | exact Or.inl ⟨inferInstance, rfl⟩ | exact Or.inr inferInstance)) ?_
      rintro _ _ ⟨rfl, rfl⟩
      refine rg_q (.inl rfl) rfl rfl (by exact QW.qr (qw_assign rfl)) ?_
      refine rg_nil ?_
      refine qg_then ?_
      refine cg_seq ?_
      refine cg_seq ?_
      refine cg_region ?_
      refine rg_q (.inl rfl) rfl rfl (by exact QW.qr (qw_move rfl)) ?_
      refine rg_q (.inl rfl) rfl rfl (by exact QW.qr (qw_neq_f rfl rfl (fun h => h rfl))) ?_
      refine rg_nil ?_
      refine qg_then ?_
      refine cg_false rfl ?_
      refine cg_skip ?_
      refine qg_then ?_
      refine cg_seq ?_
      unfold lbBlk PT
      refine cg_draw follows (.op 0 false (.op 1 false (.op 2 false (.op 3 false (.op 4 false (.op 5 false (.op 6 false (.op 7 false (.op 8 false (.op 9 false (.op 10 false (.op 11 false (.op 12 false (.op 13 false (.op 14 false .done))))))))))))))) _ (by kernel_rfl) (SubP.of (List.Sublist.refl _)) ?_
      refine dg_w rfl rfl (.inl rfl) rfl rfl (by exact qw_fieldAddr rfl) ?_
      refine dg_r rfl rfl rfl (.inl rfl) rfl rfl (by exact qr_load1 rfl (by repeat (first | exact List.Mem.head _ | apply List.Mem.tail | apply List.mem_append_right | assumption)) rfl) ?_
      refine dg_w rfl rfl (.inl rfl) rfl rfl (by exact qw_move rfl) ?_
      refine dg_s rfl rfl (guard_mk rfl rfl rfl rfl) rfl rfl ?_
      refine dg_s rfl rfl (guard_mk rfl rfl rfl rfl) rfl rfl ?_
      refine dg_s rfl rfl (guard_mk rfl rfl rfl rfl) rfl rfl ?_
      refine dg_s rfl rfl (guard_un rfl rfl rfl) rfl rfl ?_
      refine dg_s rfl rfl (guard_un rfl rfl rfl) rfl rfl ?_
      refine dg_s rfl rfl (guard_un rfl rfl rfl) rfl rfl ?_
      refine dg_s rfl rfl (guard_un rfl rfl rfl) rfl rfl ?_
      refine dg_s rfl rfl (guard_un rfl rfl rfl) rfl rfl ?_
      refine dg_s rfl rfl (guard_un rfl rfl rfl) rfl rfl ?_
      refine dg_s rfl rfl (guard_un rfl rfl rfl) rfl rfl ?_
      refine dg_s rfl rfl (guard_mk rfl rfl rfl rfl) rfl rfl ?_
      refine dg_w rfl rfl (.inl rfl) rfl rfl (by exact qw_pick_f rfl rfl) ?_
      refine dg_nil ?_
      refine qg_then ?_
      refine cg_false rfl ?_
      refine cg_skip ?_
      refine qg_block ?_
      refine qg_then ?_
      refine cg_region ?_
      refine rg_q (.inl rfl) rfl rfl (by exact QW.qr (qw_add_in rfl rfl (by unfold inK; omega))) ?_
      refine rg_q (.inl rfl) rfl rfl (by exact QW.qr (qw_move rfl)) ?_
      refine rg_nil ?_
      exact qg_round_sp _ _ _ ⟨k + 1, false, l, bm, es, c, ms, Bv, by omega, by rw [pickK, hpk, hTT]; exact pick_no (fun h => by cases h.1), hnd2, hms, hva, hpl, rfl, rfl, rfl⟩ (by repeat (first | exact Sub.nil | refine Sub.cons rfl ?_ | refine Sub.cons (congrArg (fun z => some (Value.int IntKind.i64 z)) (by omega)) ?_)) (cat_sub (ls' := [[(b18, _)], [(bm, _)], Bv, K0, K1]) (ls := [[(b10, _)], [(bm2, _)], Bv2, K0, K1, [(b18, _)], [(bm, _)], Bv]) (by repeat (first | exact SubM.nil | refine SubM.cons (by repeat (first | exact Ins.here | apply Ins.there)) ?_))) (by omega)
    · skip
      refine rg_q (.inl rfl) rfl rfl (by exact QW.qr (qw_move rfl)) ?_
      refine rg_q (.inl rfl) rfl rfl (by exact QW.qr (qw_extract rfl rfl)) ?_
      refine rg_q (.inl rfl) rfl rfl (by exact QW.qr (qw_extract rfl rfl)) ?_
      refine rg_e (.inl rfl) rfl rfl (by exact ev_alloc (by first | exact CellsOf.agg | exact CellsOf.one rfl)) ?_
      rintro _ _ ⟨b10, rfl, rfl⟩
      refine rg_e0 (.inl rfl) rfl (by exact ev_store rfl rfl (by first | exact CellsOf.agg | exact CellsOf.one rfl) (by repeat (first | exact List.Mem.head _ | apply List.Mem.tail | apply List.mem_append_right | assumption)) (by repeat (first | exact SetSeg.done | apply SetSeg.take | apply SetSeg.skip)) rfl rfl (by repeat (first | exact Upd.here | apply Upd.there | apply Upd.app)) (by first | exact Or.inl ⟨inferInstance, rfl⟩ | exact Or.inr inferInstance)) ?_
      rintro _ _ ⟨rfl, rfl⟩
      refine rg_q (.inl rfl) rfl rfl (by exact QW.qr (qw_assign rfl)) ?_
      refine rg_nil ?_
      refine qg_then ?_
      refine cg_seq ?_
      refine cg_seq ?_
      refine cg_region ?_
      refine rg_q (.inl rfl) rfl rfl (by exact QW.qr (qw_move rfl)) ?_
      refine rg_q (.inl rfl) rfl rfl (by exact QW.qr (qw_neq_f rfl rfl (fun h => h rfl))) ?_
      refine rg_nil ?_
      refine qg_then ?_
      refine cg_false rfl ?_
      refine cg_skip ?_
      refine qg_then ?_
      refine cg_seq ?_
      unfold lbBlk PT
      refine cg_draw follows (.op 0 false (.op 1 false (.op 2 false (.op 3 false (.op 4 false (.op 5 false (.op 6 false (.op 7 false (.op 8 false (.op 9 false (.op 10 false (.op 11 false (.op 12 false (.op 13 false (.op 14 false .done))))))))))))))) _ (by kernel_rfl) (SubP.of (List.Sublist.refl _)) ?_
      refine dg_w rfl rfl (.inl rfl) rfl rfl (by exact qw_fieldAddr rfl) ?_
      refine dg_r rfl rfl rfl (.inl rfl) rfl rfl (by exact qr_load1 rfl (by repeat (first | exact List.Mem.head _ | apply List.Mem.tail | apply List.mem_append_right | assumption)) rfl) ?_
      refine dg_w rfl rfl (.inl rfl) rfl rfl (by exact qw_move rfl) ?_
      refine dg_s rfl rfl (guard_mk rfl rfl rfl rfl) rfl rfl ?_
      refine dg_s rfl rfl (guard_mk rfl rfl rfl rfl) rfl rfl ?_
      refine dg_s rfl rfl (guard_mk rfl rfl rfl rfl) rfl rfl ?_
      refine dg_s rfl rfl (guard_un rfl rfl rfl) rfl rfl ?_
      refine dg_s rfl rfl (guard_un rfl rfl rfl) rfl rfl ?_
      refine dg_s rfl rfl (guard_un rfl rfl rfl) rfl rfl ?_
      refine dg_s rfl rfl (guard_un rfl rfl rfl) rfl rfl ?_
      refine dg_s rfl rfl (guard_un rfl rfl rfl) rfl rfl ?_
      refine dg_s rfl rfl (guard_un rfl rfl rfl) rfl rfl ?_
      refine dg_s rfl rfl (guard_un rfl rfl rfl) rfl rfl ?_
      refine dg_s rfl rfl (guard_mk rfl rfl rfl rfl) rfl rfl ?_
      refine dg_w rfl rfl (.inl rfl) rfl rfl (by exact qw_pick_f rfl rfl) ?_
      refine dg_nil ?_
      refine qg_then ?_
      refine cg_false rfl ?_
      refine cg_skip ?_
      refine qg_block ?_
      refine qg_then ?_
      refine cg_region ?_
      refine rg_q (.inl rfl) rfl rfl (by exact QW.qr (qw_add_in rfl rfl (by unfold inK; omega))) ?_
      refine rg_q (.inl rfl) rfl rfl (by exact QW.qr (qw_move rfl)) ?_
      refine rg_nil ?_
      exact qg_round_sp _ _ _ ⟨k + 1, true, l, bm, es, c, ms, Bv, by omega, by rw [pickK, hpk, hTT]; exact pick_no (fun h => by cases h.1), hnd2, hms, hva, hpl, rfl, rfl, rfl⟩ (by repeat (first | exact Sub.nil | refine Sub.cons rfl ?_ | refine Sub.cons (congrArg (fun z => some (Value.int IntKind.i64 z)) (by omega)) ?_)) (cat_sub (ls' := [[(b18, _)], [(bm, _)], Bv, K0, K1]) (ls := [[(b10, _)], [(bm2, _)], Bv2, K0, K1, [(b18, _)], [(bm, _)], Bv]) (by repeat (first | exact SubM.nil | refine SubM.cons (by repeat (first | exact Ins.here | apply Ins.there)) ?_))) (by omega)
    · skip
      refine rg_q (.inl rfl) rfl rfl (by exact QW.qr (qw_move rfl)) ?_
      refine rg_q (.inl rfl) rfl rfl (by exact QW.qr (qw_extract rfl rfl)) ?_
      refine rg_q (.inl rfl) rfl rfl (by exact QW.qr (qw_extract rfl rfl)) ?_
      refine rg_e (.inl rfl) rfl rfl (by exact ev_alloc (by first | exact CellsOf.agg | exact CellsOf.one rfl)) ?_
      rintro _ _ ⟨b10, rfl, rfl⟩
      refine rg_e0 (.inl rfl) rfl (by exact ev_store rfl rfl (by first | exact CellsOf.agg | exact CellsOf.one rfl) (by repeat (first | exact List.Mem.head _ | apply List.Mem.tail | apply List.mem_append_right | assumption)) (by repeat (first | exact SetSeg.done | apply SetSeg.take | apply SetSeg.skip)) rfl rfl (by repeat (first | exact Upd.here | apply Upd.there | apply Upd.app)) (by first | exact Or.inl ⟨inferInstance, rfl⟩ | exact Or.inr inferInstance)) ?_
      rintro _ _ ⟨rfl, rfl⟩
      refine rg_q (.inl rfl) rfl rfl (by exact QW.qr (qw_assign rfl)) ?_
      refine rg_nil ?_
      refine qg_then ?_
      refine cg_seq ?_
      refine cg_seq ?_
      refine cg_region ?_
      refine rg_q (.inl rfl) rfl rfl (by exact QW.qr (qw_move rfl)) ?_
      refine rg_q (.inl rfl) rfl rfl (by exact QW.qr (qw_neq_f rfl rfl (fun h => h rfl))) ?_
      refine rg_nil ?_
      refine qg_then ?_
      refine cg_false rfl ?_
      refine cg_skip ?_
      refine qg_then ?_
      refine cg_seq ?_
      unfold lbBlk PT
      refine cg_draw follows (.op 0 false (.op 1 false (.op 2 false (.op 3 false (.op 4 false (.op 5 false (.op 6 false (.op 7 false (.op 8 false (.op 9 false (.op 10 false (.op 11 false (.op 12 false (.op 13 false (.op 14 false .done))))))))))))))) _ (by kernel_rfl) (SubP.of (List.Sublist.refl _)) ?_
      refine dg_w rfl rfl (.inl rfl) rfl rfl (by exact qw_fieldAddr rfl) ?_
      refine dg_r rfl rfl rfl (.inl rfl) rfl rfl (by exact qr_load1 rfl (by repeat (first | exact List.Mem.head _ | apply List.Mem.tail | apply List.mem_append_right | assumption)) rfl) ?_
      refine dg_w rfl rfl (.inl rfl) rfl rfl (by exact qw_move rfl) ?_
      refine dg_w rfl rfl (.inr (guard_mk rfl rfl rfl rfl)) rfl rfl (by exact qw_move rfl) ?_
      refine dg_w rfl rfl (.inr (guard_mk rfl rfl rfl rfl)) rfl rfl (by exact qw_not rfl) ?_
      refine dg_w rfl rfl (.inr (guard_mk rfl rfl rfl rfl)) rfl rfl (by exact qw_move rfl) ?_
      refine dg_s rfl rfl (guard_mk rfl rfl rfl rfl) rfl rfl ?_
      refine dg_s rfl rfl (guard_mk rfl rfl rfl rfl) rfl rfl ?_
      refine dg_s rfl rfl (guard_mk rfl rfl rfl rfl) rfl rfl ?_
      refine dg_s rfl rfl (guard_mk rfl rfl rfl rfl) rfl rfl ?_
      refine dg_s rfl rfl (guard_mk rfl rfl rfl rfl) rfl rfl ?_
      refine dg_s rfl rfl (guard_mk rfl rfl rfl rfl) rfl rfl ?_
      refine dg_s rfl rfl (guard_mk rfl rfl rfl rfl) rfl rfl ?_
      refine dg_w rfl rfl (.inr (guard_mk rfl rfl rfl rfl)) rfl rfl (by exact qw_pick_t rfl rfl) ?_
      refine dg_w rfl rfl (.inl rfl) rfl rfl (by exact qw_pick_t rfl rfl) ?_
      refine dg_nil ?_
      refine qg_then ?_
      refine cg_true rfl ?_
      refine cg_seq ?_
      refine cg_region ?_
      refine rg_q (.inl rfl) rfl rfl (by exact QW.qr (qw_assign rfl)) ?_
      refine rg_nil ?_
      refine qg_then ?_
      refine cg_draw follows (.op 0 false (.op 1 false (.op 2 false (.op 3 false (.op 4 false (.op 5 false (.op 6 false (.op 7 false (.op 8 false (.op 9 false (.op 10 true (.op 11 false (.op 12 false (.op 13 true (.op 14 false (.op 15 false (.op 16 false .done))))))))))))))))) [(b10, .cells [U32 tl, Value.bool true, Value.map (some bm2)].toArray 247 (0, 0))] (by kernel_rfl) (SubP.of (List.Sublist.cons_cons _ (List.nil_sublist _))) ?_
      refine dg_w rfl rfl (.inl rfl) rfl rfl (by exact qw_move rfl) ?_
      refine dg_w rfl rfl (.inl rfl) rfl rfl (by exact qw_move rfl) ?_
      refine dg_w rfl rfl (.inl rfl) rfl rfl (by exact qw_move rfl) ?_
      refine dg_w rfl rfl (.inl rfl) rfl rfl (by exact qw_move rfl) ?_
      refine dg_w rfl rfl (.inl rfl) rfl rfl (by exact qw_fieldAddr rfl) ?_
      refine dg_r rfl rfl rfl (.inl rfl) rfl rfl (by exact qr_load1 rfl (by repeat (first | exact List.Mem.head _ | apply List.Mem.tail | apply List.mem_append_right | assumption)) rfl) ?_
      refine dg_w rfl rfl (.inl rfl) rfl rfl (by exact qw_fieldAddr rfl) ?_
      refine dg_r rfl rfl rfl (.inl rfl) rfl rfl (by exact qr_load1 rfl (by repeat (first | exact List.Mem.head _ | apply List.Mem.tail | apply List.mem_append_right | assumption)) rfl) ?_
      refine dg_w rfl rfl (.inl rfl) rfl rfl (by exact qw_nilCheck rfl) ?_
      refine dg_w rfl rfl (.inl rfl) rfl rfl (by exact qw_fieldAddr rfl) ?_
      refine dg_e0 rfl rfl (.inl rfl) rfl (by exact ev_store rfl rfl (by first | exact CellsOf.agg | exact CellsOf.one rfl) (by repeat (first | exact List.Mem.head _ | apply List.Mem.tail | apply List.mem_append_right | assumption)) (by repeat (first | exact SetSeg.done | apply SetSeg.take | apply SetSeg.skip)) rfl rfl (by repeat (first | exact Upd.here | apply Upd.there | apply Upd.app)) (by first | exact Or.inl ⟨inferInstance, rfl⟩ | exact Or.inr inferInstance)) ?_
      rintro _ _ ⟨rfl, rfl⟩
      refine ⟨(SubP.of (by repeat (first | exact List.Sublist.refl _ | exact List.nil_sublist _ | exact List.sublist_append_right _ _ | apply List.Sublist.cons_cons | apply List.Sublist.cons | refine List.Sublist.trans ?_ (List.sublist_append_right _ _)))), ?_⟩
      refine dg_w rfl rfl (.inl rfl) rfl rfl (by exact qw_nilCheck rfl) ?_
      refine dg_w rfl rfl (.inl rfl) rfl rfl (by exact qw_fieldAddr rfl) ?_
      refine dg_e0 rfl rfl (.inl rfl) rfl (by exact ev_store rfl rfl (by first | exact CellsOf.agg | exact CellsOf.one rfl) (by repeat (first | exact List.Mem.head _ | apply List.Mem.tail | apply List.mem_append_right | assumption)) (by repeat (first | exact SetSeg.done | apply SetSeg.take | apply SetSeg.skip)) rfl rfl (by repeat (first | exact Upd.here | apply Upd.there | apply Upd.app)) (by first | exact Or.inl ⟨inferInstance, rfl⟩ | exact Or.inr inferInstance)) ?_
      rintro _ _ ⟨rfl, rfl⟩
      refine ⟨(SubP.of (by repeat (first | exact List.Sublist.refl _ | exact List.nil_sublist _ | exact List.sublist_append_right _ _ | apply List.Sublist.cons_cons | apply List.Sublist.cons | refine List.Sublist.trans ?_ (List.sublist_append_right _ _)))), ?_⟩
      refine dg_w rfl rfl (.inl rfl) rfl rfl (by exact qw_nilCheck rfl) ?_
      refine dg_w rfl rfl (.inl rfl) rfl rfl (by exact qw_fieldAddr rfl) ?_
      refine dg_g0 rfl rfl (.inl rfl) rfl (by exact ev_store rfl rfl (by first | exact CellsOf.agg | exact CellsOf.one rfl) (by repeat (first | exact List.Mem.head _ | apply List.Mem.tail | apply List.mem_append_right | assumption)) (by repeat (first | exact SetSeg.done | apply SetSeg.take | apply SetSeg.skip)) rfl rfl (by repeat (first | exact Upd.here | apply Upd.there | apply Upd.app)) (by first | exact Or.inl ⟨inferInstance, rfl⟩ | exact Or.inr inferInstance)) ?_
      rintro _ _ ⟨rfl, rfl⟩
      refine dg_nil ?_
      refine qg_block ?_
      refine qg_then ?_
      refine cg_region ?_
      refine rg_q (.inl rfl) rfl rfl (by exact QW.qr (qw_add_in rfl rfl (by unfold inK; omega))) ?_
      refine rg_q (.inl rfl) rfl rfl (by exact QW.qr (qw_move rfl)) ?_
      refine rg_nil ?_
      exact qg_round_sp _ _ _ ⟨k + 1, true, ⟨k, tl, th, l.dead⟩, bm2, es2, c2, ms2, Bv2, by omega, by rw [pickK, hpk, hTT]; exact pick_yes rfl (.inl rfl), hnd2, hms2, hva2, hpl2, rfl, rfl, rfl⟩ (by repeat (first | exact Sub.nil | refine Sub.cons rfl ?_ | refine Sub.cons (congrArg (fun z => some (Value.int IntKind.i64 z)) (by omega)) ?_)) (cat_sub (ls' := [[(b18, _)], [(bm2, _)], Bv2, K0, K1]) (ls := [[(b10, _)], [(bm2, _)], Bv2, K0, K1, [(b18, _)], [(bm, _)], Bv]) (by repeat (first | exact SubM.nil | refine SubM.cons (by repeat (first | exact Ins.here | apply Ins.there)) ?_))) (by omega)
    · skip
      refine rg_q (.inl rfl) rfl rfl (by exact QW.qr (qw_move rfl)) ?_
      refine rg_q (.inl rfl) rfl rfl (by exact QW.qr (qw_extract rfl rfl)) ?_
      refine rg_q (.inl rfl) rfl rfl (by exact QW.qr (qw_extract rfl rfl)) ?_
      refine rg_e (.inl rfl) rfl rfl (by exact ev_alloc (by first | exact CellsOf.agg | exact CellsOf.one rfl)) ?_
      rintro _ _ ⟨b10, rfl, rfl⟩
      refine rg_e0 (.inl rfl) rfl (by exact ev_store rfl rfl (by first | exact CellsOf.agg | exact CellsOf.one rfl) (by repeat (first | exact List.Mem.head _ | apply List.Mem.tail | apply List.mem_append_right | assumption)) (by repeat (first | exact SetSeg.done | apply SetSeg.take | apply SetSeg.skip)) rfl rfl (by repeat (first | exact Upd.here | apply Upd.there | apply Upd.app)) (by first | exact Or.inl ⟨inferInstance, rfl⟩ | exact Or.inr inferInstance)) ?_
      rintro _ _ ⟨rfl, rfl⟩
      refine rg_q (.inl rfl) rfl rfl (by exact QW.qr (qw_assign rfl)) ?_
      refine rg_nil ?_
      refine qg_then ?_
      refine cg_seq ?_
      refine cg_seq ?_
      refine cg_region ?_
      refine rg_q (.inl rfl) rfl rfl (by exact QW.qr (qw_move rfl)) ?_
      refine rg_q (.inl rfl) rfl rfl (by exact QW.qr (qw_neq_f rfl rfl (fun h => h rfl))) ?_
      refine rg_nil ?_
      refine qg_then ?_
      refine cg_false rfl ?_
      refine cg_skip ?_
      refine qg_then ?_
      refine cg_seq ?_
      unfold lbBlk PT
      refine cg_draw follows (.op 0 false (.op 1 false (.op 2 false (.op 3 false (.op 4 false (.op 5 false (.op 6 false (.op 7 false (.op 8 false (.op 9 false (.op 10 false (.op 11 false (.op 12 false (.op 13 false (.op 14 false .done))))))))))))))) _ (by kernel_rfl) (SubP.of (List.Sublist.refl _)) ?_
      refine dg_w rfl rfl (.inl rfl) rfl rfl (by exact qw_fieldAddr rfl) ?_
      refine dg_r rfl rfl rfl (.inl rfl) rfl rfl (by exact qr_load1 rfl (by repeat (first | exact List.Mem.head _ | apply List.Mem.tail | apply List.mem_append_right | assumption)) rfl) ?_
      refine dg_w rfl rfl (.inl rfl) rfl rfl (by exact qw_move rfl) ?_
      refine dg_w rfl rfl (.inr (guard_mk rfl rfl rfl rfl)) rfl rfl (by exact qw_move rfl) ?_
      refine dg_w rfl rfl (.inr (guard_mk rfl rfl rfl rfl)) rfl rfl (by exact qw_not rfl) ?_
      refine dg_w rfl rfl (.inr (guard_mk rfl rfl rfl rfl)) rfl rfl (by exact qw_move rfl) ?_
      refine dg_w rfl rfl (.inr (guard_mk rfl rfl rfl rfl)) rfl rfl (by exact qw_fieldAddr rfl) ?_
      refine dg_r rfl rfl rfl (.inr (guard_mk rfl rfl rfl rfl)) rfl rfl (by exact qr_load1 rfl (by repeat (first | exact List.Mem.head _ | apply List.Mem.tail | apply List.mem_append_right | assumption)) rfl) ?_
      refine dg_w rfl rfl (.inr (guard_mk rfl rfl rfl rfl)) rfl rfl (by exact qw_move rfl) ?_
      refine dg_w rfl rfl (.inr (guard_mk rfl rfl rfl rfl)) rfl rfl (by exact qw_nilCheck rfl) ?_
      refine dg_w rfl rfl (.inr (guard_mk rfl rfl rfl rfl)) rfl rfl (by exact qw_fieldAddr rfl) ?_
      refine dg_r rfl rfl rfl (.inr (guard_mk rfl rfl rfl rfl)) rfl rfl (by exact qr_load1 rfl (by repeat (first | exact List.Mem.head _ | apply List.Mem.tail | apply List.mem_append_right | assumption)) rfl) ?_
      refine dg_split rfl rfl (.inr (guard_mk rfl rfl rfl rfl)) rfl rfl (by exact qc_gtr rfl rfl) ?_ ?_
      · intro hgt
        refine dg_w rfl rfl (.inr (guard_mk rfl rfl rfl rfl)) rfl rfl (by exact qw_pick_f rfl rfl) ?_
        refine dg_w rfl rfl (.inl rfl) rfl rfl (by exact qw_pick_t rfl rfl) ?_
        refine dg_nil ?_
        refine qg_then ?_
        refine cg_true rfl ?_
        refine cg_seq ?_
        refine cg_region ?_
        refine rg_q (.inl rfl) rfl rfl (by exact QW.qr (qw_assign rfl)) ?_
        refine rg_nil ?_
        refine qg_then ?_
        refine cg_draw follows (.op 0 false (.op 1 false (.op 2 false (.op 3 false (.op 4 false (.op 5 false (.op 6 false (.op 7 false (.op 8 false (.op 9 false (.op 10 true (.op 11 false (.op 12 false (.op 13 true (.op 14 false (.op 15 false (.op 16 false .done))))))))))))))))) [(b10, .cells [U32 tl, Value.bool true, Value.map (some bm2)].toArray 247 (0, 0))] (by kernel_rfl) (SubP.of (List.Sublist.cons_cons _ (List.nil_sublist _))) ?_
        refine dg_w rfl rfl (.inl rfl) rfl rfl (by exact qw_move rfl) ?_
        refine dg_w rfl rfl (.inl rfl) rfl rfl (by exact qw_move rfl) ?_
        refine dg_w rfl rfl (.inl rfl) rfl rfl (by exact qw_move rfl) ?_
        refine dg_w rfl rfl (.inl rfl) rfl rfl (by exact qw_move rfl) ?_
        refine dg_w rfl rfl (.inl rfl) rfl rfl (by exact qw_fieldAddr rfl) ?_
        refine dg_r rfl rfl rfl (.inl rfl) rfl rfl (by exact qr_load1 rfl (by repeat (first | exact List.Mem.head _ | apply List.Mem.tail | apply List.mem_append_right | assumption)) rfl) ?_
        refine dg_w rfl rfl (.inl rfl) rfl rfl (by exact qw_fieldAddr rfl) ?_
        refine dg_r rfl rfl rfl (.inl rfl) rfl rfl (by exact qr_load1 rfl (by repeat (first | exact List.Mem.head _ | apply List.Mem.tail | apply List.mem_append_right | assumption)) rfl) ?_
        refine dg_w rfl rfl (.inl rfl) rfl rfl (by exact qw_nilCheck rfl) ?_
        refine dg_w rfl rfl (.inl rfl) rfl rfl (by exact qw_fieldAddr rfl) ?_
        refine dg_e0 rfl rfl (.inl rfl) rfl (by exact ev_store rfl rfl (by first | exact CellsOf.agg | exact CellsOf.one rfl) (by repeat (first | exact List.Mem.head _ | apply List.Mem.tail | apply List.mem_append_right | assumption)) (by repeat (first | exact SetSeg.done | apply SetSeg.take | apply SetSeg.skip)) rfl rfl (by repeat (first | exact Upd.here | apply Upd.there | apply Upd.app)) (by first | exact Or.inl ⟨inferInstance, rfl⟩ | exact Or.inr inferInstance)) ?_
        rintro _ _ ⟨rfl, rfl⟩
        refine ⟨(SubP.of (by repeat (first | exact List.Sublist.refl _ | exact List.nil_sublist _ | exact List.sublist_append_right _ _ | apply List.Sublist.cons_cons | apply List.Sublist.cons | refine List.Sublist.trans ?_ (List.sublist_append_right _ _)))), ?_⟩
        refine dg_w rfl rfl (.inl rfl) rfl rfl (by exact qw_nilCheck rfl) ?_
        refine dg_w rfl rfl (.inl rfl) rfl rfl (by exact qw_fieldAddr rfl) ?_
        refine dg_e0 rfl rfl (.inl rfl) rfl (by exact ev_store rfl rfl (by first | exact CellsOf.agg | exact CellsOf.one rfl) (by repeat (first | exact List.Mem.head _ | apply List.Mem.tail | apply List.mem_append_right | assumption)) (by repeat (first | exact SetSeg.done | apply SetSeg.take | apply SetSeg.skip)) rfl rfl (by repeat (first | exact Upd.here | apply Upd.there | apply Upd.app)) (by first | exact Or.inl ⟨inferInstance, rfl⟩ | exact Or.inr inferInstance)) ?_
        rintro _ _ ⟨rfl, rfl⟩
        refine ⟨(SubP.of (by repeat (first | exact List.Sublist.refl _ | exact List.nil_sublist _ | exact List.sublist_append_right _ _ | apply List.Sublist.cons_cons | apply List.Sublist.cons | refine List.Sublist.trans ?_ (List.sublist_append_right _ _)))), ?_⟩
        refine dg_w rfl rfl (.inl rfl) rfl rfl (by exact qw_nilCheck rfl) ?_
        refine dg_w rfl rfl (.inl rfl) rfl rfl (by exact qw_fieldAddr rfl) ?_
        refine dg_g0 rfl rfl (.inl rfl) rfl (by exact ev_store rfl rfl (by first | exact CellsOf.agg | exact CellsOf.one rfl) (by repeat (first | exact List.Mem.head _ | apply List.Mem.tail | apply List.mem_append_right | assumption)) (by repeat (first | exact SetSeg.done | apply SetSeg.take | apply SetSeg.skip)) rfl rfl (by repeat (first | exact Upd.here | apply Upd.there | apply Upd.app)) (by first | exact Or.inl ⟨inferInstance, rfl⟩ | exact Or.inr inferInstance)) ?_
        rintro _ _ ⟨rfl, rfl⟩
        refine dg_nil ?_
        refine qg_block ?_
        refine qg_then ?_
        refine cg_region ?_
        refine rg_q (.inl rfl) rfl rfl (by exact QW.qr (qw_add_in rfl rfl (by unfold inK; omega))) ?_
        refine rg_q (.inl rfl) rfl rfl (by exact QW.qr (qw_move rfl)) ?_
        refine rg_nil ?_
        exact qg_round_sp _ _ _ ⟨k + 1, true, ⟨k, tl, th, l.dead⟩, bm2, es2, c2, ms2, Bv2, by omega, by rw [pickK, hpk, hTT]; exact pick_yes rfl (.inr hgt), hnd2, hms2, hva2, hpl2, rfl, rfl, rfl⟩ (by repeat (first | exact Sub.nil | refine Sub.cons rfl ?_ | refine Sub.cons (congrArg (fun z => some (Value.int IntKind.i64 z)) (by omega)) ?_)) (cat_sub (ls' := [[(b18, _)], [(bm2, _)], Bv2, K0, K1]) (ls := [[(b10, _)], [(bm2, _)], Bv2, K0, K1, [(b18, _)], [(bm, _)], Bv]) (by repeat (first | exact SubM.nil | refine SubM.cons (by repeat (first | exact Ins.here | apply Ins.there)) ?_))) (by omega)
      · intro hgt
        refine dg_w rfl rfl (.inr (guard_mk rfl rfl rfl rfl)) rfl rfl (by exact qw_pick_f rfl rfl) ?_
        refine dg_w rfl rfl (.inl rfl) rfl rfl (by exact qw_pick_t rfl rfl) ?_
        refine dg_nil ?_
        refine qg_then ?_
        refine cg_false rfl ?_
        refine cg_skip ?_
        refine qg_block ?_
        refine qg_then ?_
        refine cg_region ?_
        refine rg_q (.inl rfl) rfl rfl (by exact QW.qr (qw_add_in rfl rfl (by unfold inK; omega))) ?_
        refine rg_q (.inl rfl) rfl rfl (by exact QW.qr (qw_move rfl)) ?_
        refine rg_nil ?_
        exact qg_round_sp _ _ _ ⟨k + 1, true, l, bm, es, c, ms, Bv, by omega, by rw [pickK, hpk, hTT]; exact pick_no (fun h => by rcases h.2 with h | h; cases h; exact hgt h), hnd2, hms, hva, hpl, rfl, rfl, rfl⟩ (by repeat (first | exact Sub.nil | refine Sub.cons rfl ?_ | refine Sub.cons (congrArg (fun z => some (Value.int IntKind.i64 z)) (by omega)) ?_)) (cat_sub (ls' := [[(b18, _)], [(bm, _)], Bv, K0, K1]) (ls := [[(b10, _)], [(bm2, _)], Bv2, K0, K1, [(b18, _)], [(bm, _)], Bv]) (by repeat (first | exact SubM.nil | refine SubM.cons (by repeat (first | exact Ins.here | apply Ins.there)) ?_))) (by omega)
    · skip
      refine rg_q (.inl rfl) rfl rfl (by exact QW.qr (qw_move rfl)) ?_
      refine rg_q (.inl rfl) rfl rfl (by exact QW.qr (qw_extract rfl rfl)) ?_
      refine rg_q (.inl rfl) rfl rfl (by exact QW.qr (qw_extract rfl rfl)) ?_
      refine rg_e (.inl rfl) rfl rfl (by exact ev_alloc (by first | exact CellsOf.agg | exact CellsOf.one rfl)) ?_
      rintro _ _ ⟨b10, rfl, rfl⟩
      refine rg_e0 (.inl rfl) rfl (by exact ev_store rfl rfl (by first | exact CellsOf.agg | exact CellsOf.one rfl) (by repeat (first | exact List.Mem.head _ | apply List.Mem.tail | apply List.mem_append_right | assumption)) (by repeat (first | exact SetSeg.done | apply SetSeg.take | apply SetSeg.skip)) rfl rfl (by repeat (first | exact Upd.here | apply Upd.there | apply Upd.app)) (by first | exact Or.inl ⟨inferInstance, rfl⟩ | exact Or.inr inferInstance)) ?_
      rintro _ _ ⟨rfl, rfl⟩
      refine rg_q (.inl rfl) rfl rfl (by exact QW.qr (qw_assign rfl)) ?_
      refine rg_nil ?_
      refine qg_then ?_
      refine cg_seq ?_
      refine cg_seq ?_
      refine cg_region ?_
      refine rg_q (.inl rfl) rfl rfl (by exact QW.qr (qw_move rfl)) ?_
      refine rg_q (.inl rfl) rfl rfl (by exact QW.qr (qw_neq_t rfl rfl (by decide))) ?_
      refine rg_nil ?_
      refine qg_then ?_
      refine cg_true rfl ?_
      refine cg_seq ?_
      refine cg_region ?_
      refine rg_q (.inl rfl) rfl rfl (by exact QW.qr (qw_move rfl)) ?_
      refine rg_q (.inl rfl) rfl rfl (by exact QW.qr (qw_assign rfl)) ?_
      refine rg_q (.inl rfl) rfl rfl (by exact QW.qr (qw_assign rfl)) ?_
      refine rg_nil ?_
      refine qg_then ?_
      refine cg_ret ?_
      refine qg_then_ret ?_
      refine qg_block_ret ?_
      refine qg_then_ret ?_
      refine qg_then_ret ?_
      refine qg_block_ret ?_
      refine qg_then_ret ?_
      have hfin : openS s0 s1 = (⟨1, 0, [], 0⟩, s0, s1, 5) := by
        rw [openS, if_pos]
        have h01 : k = 0 ∨ k = 1 := by omega
        rcases h01 with rfl | rfl
        · exact .inl hdn
        · exact .inr hdn
      exact qg_end_sp (.inl rfl) _ (.cons (.tmp rfl) (.cons (.tmp rfl) (.nil))) _ (cat_sub (ls' := [K0, K1]) (ls := [[(b10, _)], K0, K1, [lbBlk b18 b0 b1 bm l], [(bm, _)], Bv]) (by repeat (first | exact SubM.nil | refine SubM.cons (by repeat (first | exact Ins.here | apply Ins.there)) ?_))) (.inl ⟨by rw [hfin]; exact (by decide : (5 : Int) ≠ 0), by rw [hfin] <;> rfl, K0, K1, rfl, by rw [hfin]; exact h0, by rw [hfin]; exact h1⟩)
  · intro hlt
    obtain rfl : k = 2 := by omega
    refine rg_nil ?_
    refine qg_then ?_
    refine cg_seq ?_
    refine cg_false rfl ?_
    refine cg_exit ?_
    refine qg_then_exit ?_
    refine qg_then_exit ?_
    refine qg_block_here ?_
    refine qg_then ?_
    refine cg_seq ?_
    refine cg_seq ?_
    have hok := hpok 2 (Nat.le_refl 2)
    rw [hpk] at hok
    replace hok : LbOk l 300000 := hok
    have hop : openS s0 s1 = compact2 l s0 s1 := by
      rw [openS, if_neg (fun h => by rcases h with h | h; exact hnd 0 (by omega) h; exact hnd 1 (by omega) h), hpk]
    have hlin : LbIn b18 b0 b1 l (lbBlk b18 b0 b1 bm l :: (bm, .map es c) :: Bv) := ⟨hok.at_, bm, es, c, ms, Bv, hms, hva, hpl, rfl⟩
    refine cg_region ?_
    refine rg_q (.inl rfl) rfl rfl (by exact QW.qr (qw_move rfl)) ?_
    refine rg_e (.inl rfl) rfl rfl (by exact ev_call0 rfl (.cons rfl (.nil)) (compact2_ca b18 b0 b1 l s0 s1 _ K0 K1 300000 O F hlin h0 h1 hz0 hz1 hok (by decide))) ?_
    rintro _ _ ⟨rfl, K2, K02, K12, rfl, hl2, h02, h12⟩
    generalize hr : compact2 l s0 s1 = r at hl2 h02 h12 hop ⊢
    obtain ⟨l2, s02, s12, e⟩ := r
    refine rg_q (.inl rfl) rfl rfl (by exact QW.qr (qw_assign rfl)) ?_
    refine rg_nil ?_
    refine qg_then ?_
    refine cg_seq ?_
    refine cg_region ?_
    refine rg_q (.inl rfl) rfl rfl (by exact QW.qr (qw_move rfl)) ?_
    refine rg_split (.inl rfl) rfl rfl (by exact qc_neq rfl rfl) ?_ ?_
    · intro he
      refine rg_nil ?_
      refine qg_then ?_
      refine cg_true rfl ?_
      refine cg_seq ?_
      refine cg_region ?_
      refine rg_q (.inl rfl) rfl rfl (by exact QW.qr (qw_move rfl)) ?_
      refine rg_q (.inl rfl) rfl rfl (by exact QW.qr (qw_assign rfl)) ?_
      refine rg_q (.inl rfl) rfl rfl (by exact QW.qr (qw_assign rfl)) ?_
      refine rg_nil ?_
      refine qg_then ?_
      refine cg_ret ?_
      refine qg_then_ret ?_
      exact qg_end_sp (.inl rfl) _ (.cons (.tmp rfl) (.cons (.tmp rfl) (.nil))) _ (cat_sub (ls' := [K02, K12]) (ls := [K2, K02, K12]) (by repeat (first | exact SubM.nil | refine SubM.cons (by repeat (first | exact Ins.here | apply Ins.there)) ?_))) (.inl ⟨by rw [hop]; exact he, by rw [hop] <;> rfl, K02, K12, rfl, by rw [hop]; exact h02, by rw [hop]; exact h12⟩)
    · intro he
      obtain rfl := Decidable.not_not.1 he
      refine rg_nil ?_
      refine qg_then ?_
      refine cg_false rfl ?_
      refine cg_skip ?_
      refine qg_then ?_
      refine cg_seq ?_
      refine cg_region ?_
      refine rg_q (.inl rfl) rfl rfl (by exact QW.qr (qw_move rfl)) ?_
      refine rg_q (.inl rfl) rfl rfl (by exact QW.qr (qw_assign rfl)) ?_
      refine rg_q (.inl rfl) rfl rfl (by exact QW.qr (qw_assign rfl)) ?_
      refine rg_nil ?_
      refine qg_then ?_
      refine cg_ret ?_
      exact qg_end (.inl rfl) _ (.cons (.tmp rfl) (.cons (.tmp rfl) (.nil))) _ (List.Sublist.refl _) (.inr ⟨by rw [hop], b18, K2, K02, K12, rfl, rfl, by rw [hop]; exact hl2, by rw [hop]; exact h02, by rw [hop]; exact h12⟩)

end Go.Proofs.YthmicniimofagaaGreat