/-
  THE WALKS of the document's logbook: its calls over two slabs, Open. Conditions: sizes.
-/
import Derived.Test.YtcbbogaanebefaaB33
namespace Go.Proofs.Ytcbbogaanebefaa
open Fw
open Go.Proofs (encStr)
set_option linter.unusedVariables false
set_option linter.unusedSimpArgs false
set_option maxRecDepth 100000
set_option maxHeartbeats 2000000

/-- The document's logbook over two slabs, in the order in which they stand. -/
def RLbIn (bl b0 b1 : Nat) (l : Lb) (K : List Blk) : Prop := (l.at_ = 0 ∨ l.at_ = 1) ∧ ∃ lv Bv, OwnL 100 encE 2 lv (srt l.has) Bv ∧ K = rlbBlk bl b0 b1 lv l :: Bv
theorem RLbIn.zero {bl b0 b1 : Nat} {l : Lb} {K : List Blk} (h : l.at_ = 0) : RLbIn bl b0 b1 l K ↔ RLbAt bl b0 b1 l K := by
  constructor
  · rintro ⟨_, lv, Bv, h1, h2⟩
    exact ⟨b0, b1, lv, Bv, .inl ⟨h, rfl, rfl⟩, h1, h2⟩
  · rintro ⟨x, y, lv, Bv, hon, h1, h2⟩
    rcases hon with ⟨_, rfl, rfl⟩ | ⟨h5, _, _⟩
    · exact ⟨.inl h, lv, Bv, h1, h2⟩
    · omega
theorem RLbIn.one {bl b0 b1 : Nat} {l : Lb} {K : List Blk} (h : l.at_ = 1) : RLbIn bl b0 b1 l K ↔ RLbAt bl b1 b0 l K := by
  constructor
  · rintro ⟨_, lv, Bv, h1, h2⟩
    exact ⟨b0, b1, lv, Bv, .inr ⟨h, rfl, rfl⟩, h1, h2⟩
  · rintro ⟨x, y, lv, Bv, hon, h1, h2⟩
    rcases hon with ⟨h5, _, _⟩ | ⟨_, rfl, rfl⟩
    · omega
    · exact ⟨.inr h, lv, Bv, h1, h2⟩
theorem rlift2 {fid : FuncId} {args : List Value} (f : Lb → Slab → Lb × Slab × Int) (bl b0 b1 : Nat) (l : Lb) (s0 s1 : Slab) (K K0 K1 : List Blk) (O : Out) (F : List Blk) (hl : RLbIn bl b0 b1 l K) (h0 : RSlabAt b0 s0 K0) (h1 : RSlabAt b1 s1 K1) (hat : (f l (actS l s0 s1)).1.at_ = l.at_)
    (hca : ∀ ba bo Ka F', RLbAt bl ba bo l K → RSlabAt ba (actS l s0 s1) Ka → CA Try.prog fid args O (cat [K, Ka] F') fun v L' => v = I (f l (actS l s0 s1)).2.2 ∧ ∃ K2 Ka2, L' = cat [K2, Ka2] F' ∧ RLbAt bl ba bo (f l (actS l s0 s1)).1 K2 ∧ RSlabAt ba (f l (actS l s0 s1)).2.1 Ka2) :
    CA Try.prog fid args O (cat [K, K0, K1] F) fun v L' => v = I (act2 f l s0 s1).2.2.2 ∧ ∃ K2 K02 K12, L' = cat [K2, K02, K12] F ∧ RLbIn bl b0 b1 (act2 f l s0 s1).1 K2 ∧ RSlabAt b0 (act2 f l s0 s1).2.1 K02 ∧ RSlabAt b1 (act2 f l s0 s1).2.2.1 K12 := by
  rcases hl.1 with hz | hz
  · have ha : actS l s0 s1 = s0 := by rw [actS, if_pos hz]
    unfold act2 setA
    rw [ha] at hca hat ⊢
    rw [if_pos hz]
    refine (hca b0 b1 K0 (cat [K1] F) ((RLbIn.zero hz).1 hl) h0).mono fun v L' ⟨h2, K2, Ka2, h3, h4, h5⟩ => ⟨h2, K2, Ka2, K1, h3, (RLbIn.zero (hat.trans hz)).2 h4, h5, h1⟩
  · have hn0 : ¬ l.at_ = 0 := by omega
    have ha : actS l s0 s1 = s1 := by rw [actS, if_neg hn0]
    unfold act2 setA
    rw [ha] at hca hat ⊢
    rw [if_neg hn0]
    refine ((hca b1 b0 K1 (cat [K0] F) ((RLbIn.one hz).1 hl) h1).pre (fun w h => h.perm (cat_perm (ls' := [K, K1, K0]) (ls := [K, K0, K1]) (by repeat (first | exact PermM.nil | refine PermM.cons (by repeat (first | exact Ins.here | apply Ins.there)) ?_))))).post fun v L' ⟨h2, K2, Ka2, h3, h4, h5⟩ => ?_
    subst h3
    exact ⟨cat [K2, K0, Ka2] F, ⟨h2, K2, K0, Ka2, rfl, (RLbIn.one (hat.trans hz)).2 h4, h0, h5⟩, cat_sub (ls' := [K2, K0, Ka2]) (ls := [K2, Ka2, K0]) (by repeat (first | exact SubM.nil | refine SubM.cons (by repeat (first | exact Ins.here | apply Ins.there)) ?_))⟩
theorem rcompact2_ca (bl b0 b1 : Nat) (l : Lb) (s0 s1 : Slab) (K K0 K1 : List Blk) (w : Nat) (O : Out) (F : List Blk) (hl : RLbIn bl b0 b1 l K) (h0 : RSlabAt b0 s0 K0) (h1 : RSlabAt b1 s1 K1) (hz0 : sizeS s0 ≤ 300000) (hz1 : sizeS s1 ≤ 300000) (hok : LbOk l w) (hw : w ≤ 500000) (hcnt : l.has.length ≤ 300000) :
    CA Try.prog 27 [PT bl] O (cat [K, K0, K1] F) fun v L' => v = I (compact2 l s0 s1).2.2.2 ∧ ∃ K2 K02 K12, L' = cat [K2, K02, K12] F ∧ RLbIn bl b0 b1 (compact2 l s0 s1).1 K2 ∧ RSlabAt b0 (compact2 l s0 s1).2.1 K02 ∧ RSlabAt b1 (compact2 l s0 s1).2.2.1 K12 := by
  have hlen : ∀ t ∈ l.has, t.1.length ≤ 100000 ∧ t.2.length ≤ 600000 := fun t ht => ⟨by have := hok.small t ht; omega, by have := weigh_one (k := t.1) (v := t.2) ht; have := hok.weight; omega⟩
  have hcb := compactB_len l hok.nd
  have hwt := hok.weight
  rcases hl.1 with hat | hat
  · have hl2 := (RLbIn.zero hat).1 hl
    have ho : othS l s0 s1 = s1 := by rw [othS, if_pos hat]
    have hc := rcompact_ca bl b0 b1 l s1 K K1 O (cat [K0] F) hl2 h1 hz1 hok.life hok.nd hcnt hlen (by omega)
    refine (hc.pre (fun w h => h.perm (cat_perm (ls' := [K, K1, K0]) (ls := [K, K0, K1]) (by repeat (first | exact PermM.nil | refine PermM.cons (by repeat (first | exact Ins.here | apply Ins.there)) ?_))))).post fun v L' ⟨h2, h3⟩ => ?_
    unfold compact2 setO
    rw [ho, if_pos hat]
    rcases h3 with ⟨he, K2, K12, rfl, h4, h5⟩ | ⟨he, K2, K12, rfl, h4, h5⟩
    · exact ⟨cat [K2, K0, K12] F, ⟨h2, K2, K0, K12, rfl, (RLbIn.zero (by rw [compact_err_at he]; exact hat)).2 h4, h0, h5⟩, cat_sub (ls' := [K2, K0, K12]) (ls := [K2, K12, K0]) (by repeat (first | exact SubM.nil | refine SubM.cons (by repeat (first | exact Ins.here | apply Ins.there)) ?_))⟩
    · exact ⟨cat [K2, K0, K12] F, ⟨h2, K2, K0, K12, rfl, (RLbIn.one (by rw [compact_ok_at he]; show 1 - l.at_ = 1; omega)).2 h4, h0, h5⟩, cat_sub (ls' := [K2, K0, K12]) (ls := [K2, K12, K0]) (by repeat (first | exact SubM.nil | refine SubM.cons (by repeat (first | exact Ins.here | apply Ins.there)) ?_))⟩
  · have hl2 := (RLbIn.one hat).1 hl
    have hn0 : ¬ l.at_ = 0 := by omega
    have ho : othS l s0 s1 = s0 := by rw [othS, if_neg hn0]
    have hc := rcompact_ca bl b1 b0 l s0 K K0 O (cat [K1] F) hl2 h0 hz0 hok.life hok.nd hcnt hlen (by omega)
    refine (hc.pre (fun w h => h)).post fun v L' ⟨h2, h3⟩ => ?_
    unfold compact2 setO
    rw [ho, if_neg hn0]
    rcases h3 with ⟨he, K2, K02, rfl, h4, h5⟩ | ⟨he, K2, K02, rfl, h4, h5⟩
    · exact ⟨cat [K2, K02, K1] F, ⟨h2, K2, K02, K1, rfl, (RLbIn.one (by rw [compact_err_at he]; exact hat)).2 h4, h5, h1⟩, SubP.of (List.Sublist.refl _)⟩
    · exact ⟨cat [K2, K02, K1] F, ⟨h2, K2, K02, K1, rfl, (RLbIn.zero (by rw [compact_ok_at he]; show 1 - l.at_ = 0; omega)).2 h4, h5, h1⟩, SubP.of (List.Sublist.refl _)⟩
theorem rreadK_ca (b0 b1 : Nat) (s0 s1 : Slab) (K0 K1 : List Blk) (k : Nat) (hk : k < 2) (h0 : RSlabAt b0 s0 K0) (h1 : RSlabAt b1 s1 K1) (hz0 : sizeS s0 ≤ 300000) (hz1 : sizeS s1 ≤ 300000) (O : Out) (F : List Blk) :
    CA Try.prog 45 [PT (bK b0 b1 k)] O (cat [K0, K1] F) fun v L' => ((sK s0 s1 k).down = true ∧ v = .tuple #[.slice none 0 0, I 5] ∧ L' = cat [K0, K1] F) ∨
      (¬ (sK s0 s1 k).down = true ∧ ∃ rv B, v = .tuple #[rv, I 0] ∧ L' = cat [B, K0, K1] F ∧ OwnL 5 encB 1 rv (bytesS (sK s0 s1 k)) B) := by
  unfold sizeS at hz0 hz1
  have h01 : k = 0 ∨ k = 1 := by omega
  rcases h01 with rfl | rfl
  · by_cases hd : s0.down = true
    · exact (rread_down b0 s0 K0 O (cat [K1] F) h0 hd).mono fun v L' ⟨h2, h3⟩ => .inl ⟨hd, h2, h3⟩
    · exact (rread_up b0 s0 K0 O (cat [K1] F) h0 hd (by omega)).mono fun v L' ⟨rv, B, h2, h3, h4⟩ => .inr ⟨hd, rv, B, h2, h3, h4⟩
  · by_cases hd : s1.down = true
    · refine ((rread_down b1 s1 K1 O (cat [K0] F) h1 hd).pre (fun w h => h.perm (cat_perm (ls' := [K1, K0]) (ls := [K0, K1]) (by repeat (first | exact PermM.nil | refine PermM.cons (by repeat (first | exact Ins.here | apply Ins.there)) ?_))))).post fun v L' ⟨h2, h3⟩ => ?_
      subst h3
      exact ⟨_, .inl ⟨hd, h2, rfl⟩, cat_sub (ls' := [K0, K1]) (ls := [K1, K0]) (by repeat (first | exact SubM.nil | refine SubM.cons (by repeat (first | exact Ins.here | apply Ins.there)) ?_))⟩
    · refine ((rread_up b1 s1 K1 O (cat [K0] F) h1 hd (by omega)).pre (fun w h => h.perm (cat_perm (ls' := [K1, K0]) (ls := [K0, K1]) (by repeat (first | exact PermM.nil | refine PermM.cons (by repeat (first | exact Ins.here | apply Ins.there)) ?_))))).post fun v L' ⟨rv, B, h2, h3, h4⟩ => ?_
      subst h3
      exact ⟨_, .inr ⟨hd, rv, B, h2, rfl, h4⟩, cat_sub (ls' := [B, K0, K1]) (ls := [B, K1, K0]) (by repeat (first | exact SubM.nil | refine SubM.cons (by repeat (first | exact Ins.here | apply Ins.there)) ?_))⟩
theorem rbK_get (b0 b1 k : Nat) (hk : k < 2) (x y z w : Value) : [PT b0, PT b1, x, y, z, w][0 + (0 : Nat) + (k : Int).toNat * 1]? = some (PT (bK b0 b1 k)) := by
  have h01 : k = 0 ∨ k = 1 := by omega
  rcases h01 with rfl | rfl <;> rfl

theorem ropen_ca (b0 b1 : Nat) (s0 s1 : Slab) (K0 K1 : List Blk) (h0 : RSlabAt b0 s0 K0) (h1 : RSlabAt b1 s1 K1) (hz0 : sizeS s0 ≤ 300000) (hz1 : sizeS s1 ≤ 300000) (O : Out) (F : List Blk) :
    CA Try.prog 23 [PT b0, PT b1] O (cat [K0, K1] F) fun v L' => ((openS s0 s1).2.2.2 ≠ 0 ∧ v = .tuple #[.pointer none, I (openS s0 s1).2.2.2] ∧ ∃ K02 K12, L' = cat [K02, K12] F ∧ RSlabAt b0 (openS s0 s1).2.1 K02 ∧ RSlabAt b1 (openS s0 s1).2.2.1 K12) ∨
      ((openS s0 s1).2.2.2 = 0 ∧ ∃ bl K2 K02 K12, v = .tuple #[PT bl, I 0] ∧ L' = cat [K2, K02, K12] F ∧ RLbIn bl b0 b1 (openS s0 s1).1 K2 ∧ RSlabAt b0 (openS s0 s1).2.1 K02 ∧ RSlabAt b1 (openS s0 s1).2.2.1 K12) := by
  have hb0 : (bytesS s0).length ≤ 300000 := by unfold sizeS at hz0; unfold bytesS; rw [List.length_append]; omega
  have hb1 : (bytesS s1).length ≤ 300000 := by unfold sizeS at hz1; unfold bytesS; rw [List.length_append]; omega
  have hpok := pickK_ok s0 s1 300000 hb0 hb1
  refine ca_enter Try.func23 rfl rfl ?_
  rw [Try.ntmps23]
  simp only [envOf]
  refine cg_seq ?_
  refine cg_region ?_
  refine rg_q (.inl rfl) rfl rfl (by exact QW.qr (qw_assign rfl)) ?_
  refine rg_q (.inl rfl) rfl rfl (by exact QW.qr (qw_assign rfl)) ?_
  refine rg_nil ?_
  refine qg_then ?_
  refine cg_seq ?_
  refine cg_region ?_
  refine rg_q (.inl rfl) rfl rfl (by exact QW.qr (qw_move rfl)) ?_
  refine rg_q (.inl rfl) rfl rfl (by exact QW.qr (qw_move rfl)) ?_
  refine rg_q (.inl rfl) rfl rfl (by exact QW.qr (qw_build_arr (.cons rfl (.cons rfl (.nil))) (.cons rfl (by first | exact CellsOf.agg | exact CellsOf.one rfl) (by repeat (first | exact SetSeg.done | apply SetSeg.take | apply SetSeg.skip)) (by rfl) (by rfl) (.cons rfl (by first | exact CellsOf.agg | exact CellsOf.one rfl) (by repeat (first | exact SetSeg.done | apply SetSeg.take | apply SetSeg.skip)) (by rfl) (by rfl) (.nil))))) ?_
  refine rg_q (.inl rfl) rfl rfl (by exact QW.qr (qw_build (.cons rfl (.cons rfl (.nil))) rfl (.cons rfl (by first | exact CellsOf.agg | exact CellsOf.one rfl) (by repeat (first | exact SetSeg.done | apply SetSeg.take | apply SetSeg.skip)) (by rfl) (by rfl) (.cons rfl (by first | exact CellsOf.agg | exact CellsOf.one rfl) (by repeat (first | exact SetSeg.done | apply SetSeg.take | apply SetSeg.skip)) (by rfl) (by rfl) (.nil))))) ?_
  refine rg_e (.inl rfl) rfl rfl (by exact ev_box rfl (by first | exact CellsOf.agg | exact CellsOf.one rfl)) ?_
  rintro _ _ ⟨b19, rfl, rfl⟩
  refine rg_q (.inl rfl) rfl rfl (by exact QW.qr (qw_assign rfl)) ?_
  refine rg_nil ?_
  refine qg_then ?_
  refine cg_seq ?_
  refine cg_region ?_
  refine rg_q (.inl rfl) rfl rfl (by exact QW.qr (qw_assign rfl)) ?_
  refine rg_nil ?_
  refine qg_then ?_
  refine cg_seq ?_
  refine cg_seq ?_
  refine cg_region ?_
  refine rg_q (.inl rfl) rfl rfl (by exact QW.qr (qw_assign rfl)) ?_
  refine rg_nil ?_
  refine qg_then ?_
  refine cg_block ?_
  refine cg_loop (fun E' L' m => ∃ (k : Nat) (found : Bool) (l : Lb) (lv : Value) (Bv : List Blk), k ≤ 2 ∧ pickK s0 s1 k = (found, l) ∧ (∀ j, j < k → ¬ (sK s0 s1 j).down = true) ∧ OwnL 100 encE 2 lv (srt l.has) Bv ∧
    E' = [(6, PT b19), (7, .bool found), (8, I k)] ∧ L' = cat [[rlbBlk b19 b0 b1 lv l], Bv, K0, K1] F ∧ m = 2 - k)
    _ _ _ ⟨0, false, ⟨1, 0, [], 0⟩, _, [], by omega, rfl, fun j h => by omega, by rw [srt_nil]; exact OwnL.nil, rfl, rfl, rfl⟩ (by repeat (first | exact Sub.nil | refine Sub.cons rfl ?_ | refine Sub.cons (congrArg (fun z => some (Value.int IntKind.i64 z)) (by omega)) ?_)) (List.Perm.refl _) ?_
  rintro _ _ _ ⟨k, found, l, lv, Bv, hk, hpk, hnd, hown, rfl, rfl, rfl⟩
  obtain ⟨pl, cl, rfl, _⟩ := id (hown.rd (fun _ => rfl) (by decide))
  unfold rlbBlk PT
  refine cg_seq ?_
  refine cg_seq ?_
  refine cg_region ?_
  refine rg_q (.inl rfl) rfl rfl (by exact QW.qr (qw_move rfl)) ?_
  refine rg_split (.inl rfl) rfl rfl (by exact qc_lss rfl rfl) ?_ ?_
  · intro hlt
    have hk2 : k < 2 := by omega
    refine rg_nil ?_
    refine qg_then ?_
    refine cg_true rfl ?_
    refine cg_skip ?_
    refine qg_then ?_
    refine cg_seq ?_
    refine cg_block ?_
    refine cg_seq ?_
    refine cg_region ?_
    refine rg_q (.inl rfl) rfl rfl (by exact QW.qr (qw_move rfl)) ?_
    refine rg_q (.inl rfl) rfl rfl (by exact QW.qr (qw_move rfl)) ?_
    refine rg_q (.inl rfl) rfl rfl (by exact QW.qr (qw_nilCheck rfl)) ?_
    refine rg_q (.inl rfl) rfl rfl (by exact QW.qr (qw_fieldAddr rfl)) ?_
    refine rg_q (.inl rfl) rfl rfl (by exact QW.qr (qw_indexAddr_arr rfl rfl (by omega) (by omega))) ?_
    refine rg_q (.inl rfl) rfl rfl (by exact qr_load1 rfl (List.Mem.head _) (rbK_get b0 b1 k hk2 _ _ _ _)) ?_
    refine rg_e (.inl rfl) rfl rfl (by exact ev_call0 rfl (.cons rfl (.nil)) ((rreadK_ca b0 b1 s0 s1 K0 K1 k hk2 h0 h1 hz0 hz1 O (cat [[rlbBlk b19 b0 b1 (.slice pl (srt l.has).length cl) l], Bv] F)).pre (fun w h => h.perm (cat_perm (ls' := [K0, K1, [rlbBlk b19 b0 b1 (.slice pl (srt l.has).length cl) l], Bv]) (ls := [[rlbBlk b19 b0 b1 (.slice pl (srt l.has).length cl) l], Bv, K0, K1]) (by repeat (first | exact PermM.nil | refine PermM.cons (by repeat (first | exact Ins.here | apply Ins.there)) ?_)))))) ?_
    rintro _ _ h
    rcases h with ⟨hdn, rfl, rfl⟩ | ⟨hdn, rv, Bp, rfl, rfl, hop⟩
    · skip
      refine rg_q (.inl rfl) rfl rfl (by exact QW.qr (qw_move rfl)) ?_
      refine rg_q (.inl rfl) rfl rfl (by exact QW.qr (qw_extract rfl rfl)) ?_
      refine rg_q (.inl rfl) rfl rfl (by exact QW.qr (qw_extract rfl rfl)) ?_
      refine rg_q (.inl rfl) rfl rfl (by exact QW.qr (qw_assign rfl)) ?_
      refine rg_q (.inl rfl) rfl rfl (by exact QW.qr (qw_assign rfl)) ?_
      refine rg_nil ?_
      refine qg_then ?_
      refine cg_seq ?_
      refine cg_seq ?_
      refine cg_region ?_
      refine rg_q (.inl rfl) rfl rfl (by exact QW.qr (qw_move rfl)) ?_
      refine rg_q (.inl rfl) rfl rfl (by exact QW.qr (qw_neq_t rfl rfl (by decide))) ?_
      refine rg_nil ?_
      refine qg_then ?_
      refine cg_true rfl ?_
      refine cg_seq ?_
      refine cg_region ?_
      refine rg_q (.inl rfl) rfl rfl (by exact QW.qr (qw_move rfl)) ?_
      refine rg_q (.inl rfl) rfl rfl (by exact QW.qr (qw_assign rfl)) ?_
      refine rg_q (.inl rfl) rfl rfl (by exact QW.qr (qw_assign rfl)) ?_
      refine rg_nil ?_
      refine qg_then ?_
      refine cg_ret ?_
      refine qg_then_ret ?_
      refine qg_block_ret ?_
      refine qg_then_ret ?_
      refine qg_then_ret ?_
      refine qg_block_ret ?_
      refine qg_then_ret ?_
      have hfin : openS s0 s1 = (⟨1, 0, [], 0⟩, s0, s1, 5) := by
        rw [openS, if_pos]
        have h01 : k = 0 ∨ k = 1 := by omega
        rcases h01 with rfl | rfl
        · exact .inl hdn
        · exact .inr hdn
      exact qg_end_sp (.inl rfl) _ (.cons (.tmp rfl) (.cons (.tmp rfl) (.nil))) _ (cat_sub (ls' := [K0, K1]) (ls := [K0, K1, [rlbBlk b19 b0 b1 _ l], Bv]) (by repeat (first | exact SubM.nil | refine SubM.cons (by repeat (first | exact Ins.here | apply Ins.there)) ?_))) (.inl ⟨by rw [hfin]; exact (by decide : (5 : Int) ≠ 0), by rw [hfin] <;> rfl, K0, K1, rfl, by rw [hfin]; exact h0, by rw [hfin]; exact h1⟩)
    · skip
      obtain ⟨pp, cp, rfl, _⟩ := id (hop.rd (fun _ => rfl) (by decide))
      unfold rlbBlk PT
      refine rg_q (.inl rfl) rfl rfl (by exact QW.qr (qw_move rfl)) ?_
      refine rg_q (.inl rfl) rfl rfl (by exact QW.qr (qw_extract rfl rfl)) ?_
      refine rg_q (.inl rfl) rfl rfl (by exact QW.qr (qw_extract rfl rfl)) ?_
      refine rg_q (.inl rfl) rfl rfl (by exact QW.qr (qw_assign rfl)) ?_
      refine rg_q (.inl rfl) rfl rfl (by exact QW.qr (qw_assign rfl)) ?_
      refine rg_nil ?_
      refine qg_then ?_
      refine cg_seq ?_
      refine cg_seq ?_
      refine cg_region ?_
      refine rg_q (.inl rfl) rfl rfl (by exact QW.qr (qw_move rfl)) ?_
      refine rg_q (.inl rfl) rfl rfl (by exact QW.qr (qw_neq_f rfl rfl (fun h => h rfl))) ?_
      refine rg_nil ?_
      refine qg_then ?_
      refine cg_false rfl ?_
      refine cg_skip ?_
      refine qg_then ?_
      refine cg_seq ?_
      refine cg_region ?_
      refine rg_q (.inl rfl) rfl rfl (by exact QW.qr (qw_move rfl)) ?_
      refine rg_e (.inl rfl) rfl rfl (by exact ev_call0 rfl (.cons rfl (.nil)) (rtell_ca (bytesS (sK s0 s1 k)) _ O _ ((hop.rd (fun _ => rfl) (by decide)).mono (fun q hq => mem_cat (ls := [Bp, K0, K1]) (s := Bp) (by repeat (first | exact List.Mem.head _ | apply List.Mem.tail)) hq)) (by have h01 : k = 0 ∨ k = 1 := (by omega); rcases h01 with rfl | rfl; exact hb0; exact hb1))) ?_
      rintro _ _ ⟨xv, Bx, rfl, hox, rfl⟩
      generalize hTT : tell (bytesS (sK s0 s1 k)) = T at hox ⊢
      obtain ⟨tl, ts, th⟩ := T
      replace hox : OwnL 100 encE 2 xv (srt th) Bx := hox
      obtain ⟨px, cx, rfl, _⟩ := id (hox.rd (fun _ => rfl) (by decide))
      have hnd2 : ∀ j, j < k + 1 → ¬ (sK s0 s1 j).down = true := (fun j hj => by rcases Nat.lt_succ_iff_lt_or_eq.1 hj with h | h; exact hnd j h; subst h; exact hdn)
      cases ts <;> cases found
      · skip
        refine rg_q (.inl rfl) rfl rfl (by exact QW.qr (qw_move rfl)) ?_
        refine rg_q (.inl rfl) rfl rfl (by exact QW.qr (qw_extract rfl rfl)) ?_
        refine rg_q (.inl rfl) rfl rfl (by exact QW.qr (qw_extract rfl rfl)) ?_
        refine rg_q (.inl rfl) rfl rfl (by exact QW.qr (qw_extract rfl rfl)) ?_
        refine rg_q (.inl rfl) rfl rfl (by exact QW.qr (qw_assign rfl)) ?_
        refine rg_q (.inl rfl) rfl rfl (by exact QW.qr (qw_assign rfl)) ?_
        refine rg_q (.inl rfl) rfl rfl (by exact QW.qr (qw_assign rfl)) ?_
        refine rg_nil ?_
        refine qg_then ?_
        refine cg_seq ?_
        refine cg_region ?_
        refine rg_q (.inl rfl) rfl rfl (by exact QW.qr (qw_move rfl)) ?_
        refine rg_q (.inl rfl) rfl rfl (by exact QW.qr (qw_move rfl)) ?_
        refine rg_s (guard_mk rfl rfl rfl rfl) rfl rfl ?_
        refine rg_s (guard_mk rfl rfl rfl rfl) rfl rfl ?_
        refine rg_s (guard_mk rfl rfl rfl rfl) rfl rfl ?_
        refine rg_s (guard_un rfl rfl rfl) rfl rfl ?_
        refine rg_s (guard_un rfl rfl rfl) rfl rfl ?_
        refine rg_s (guard_un rfl rfl rfl) rfl rfl ?_
        refine rg_s (guard_un rfl rfl rfl) rfl rfl ?_
        refine rg_s (guard_un rfl rfl rfl) rfl rfl ?_
        refine rg_s (guard_un rfl rfl rfl) rfl rfl ?_
        refine rg_s (guard_mk rfl rfl rfl rfl) rfl rfl ?_
        refine rg_q (.inl rfl) rfl rfl (by exact QW.qr (qw_pick_f rfl rfl)) ?_
        refine rg_nil ?_
        refine qg_then ?_
        refine cg_false rfl ?_
        refine cg_skip ?_
        refine qg_block ?_
        refine qg_then ?_
        refine cg_region ?_
        refine rg_q (.inl rfl) rfl rfl (by exact QW.qr (qw_move rfl)) ?_
        refine rg_q (.inl rfl) rfl rfl (by exact QW.qr (qw_add_in rfl rfl (by unfold inK; omega))) ?_
        refine rg_q (.inl rfl) rfl rfl (by exact QW.qr (qw_assign rfl)) ?_
        refine rg_nil ?_
        exact qg_round_sp _ _ _ ⟨k + 1, false, l, _, Bv, by omega, by rw [pickK, hpk, hTT]; exact pick_no (fun h => by cases h.1), hnd2, hown, rfl, rfl, rfl⟩ (by repeat (first | exact Sub.nil | refine Sub.cons rfl ?_ | refine Sub.cons (congrArg (fun z => some (Value.int IntKind.i64 z)) (by omega)) ?_)) (cat_sub (ls' := [[(b19, _)], Bv, K0, K1]) (ls := [Bx, Bp, K0, K1, [(b19, _)], Bv]) (by repeat (first | exact SubM.nil | refine SubM.cons (by repeat (first | exact Ins.here | apply Ins.there)) ?_))) (by omega)
      · skip
        refine rg_q (.inl rfl) rfl rfl (by exact QW.qr (qw_move rfl)) ?_
        refine rg_q (.inl rfl) rfl rfl (by exact QW.qr (qw_extract rfl rfl)) ?_
        refine rg_q (.inl rfl) rfl rfl (by exact QW.qr (qw_extract rfl rfl)) ?_
        refine rg_q (.inl rfl) rfl rfl (by exact QW.qr (qw_extract rfl rfl)) ?_
        refine rg_q (.inl rfl) rfl rfl (by exact QW.qr (qw_assign rfl)) ?_
        refine rg_q (.inl rfl) rfl rfl (by exact QW.qr (qw_assign rfl)) ?_
        refine rg_q (.inl rfl) rfl rfl (by exact QW.qr (qw_assign rfl)) ?_
        refine rg_nil ?_
        refine qg_then ?_
        refine cg_seq ?_
        refine cg_region ?_
        refine rg_q (.inl rfl) rfl rfl (by exact QW.qr (qw_move rfl)) ?_
        refine rg_q (.inl rfl) rfl rfl (by exact QW.qr (qw_move rfl)) ?_
        refine rg_s (guard_mk rfl rfl rfl rfl) rfl rfl ?_
        refine rg_s (guard_mk rfl rfl rfl rfl) rfl rfl ?_
        refine rg_s (guard_mk rfl rfl rfl rfl) rfl rfl ?_
        refine rg_s (guard_un rfl rfl rfl) rfl rfl ?_
        refine rg_s (guard_un rfl rfl rfl) rfl rfl ?_
        refine rg_s (guard_un rfl rfl rfl) rfl rfl ?_
        refine rg_s (guard_un rfl rfl rfl) rfl rfl ?_
        refine rg_s (guard_un rfl rfl rfl) rfl rfl ?_
        refine rg_s (guard_un rfl rfl rfl) rfl rfl ?_
        refine rg_s (guard_mk rfl rfl rfl rfl) rfl rfl ?_
        refine rg_q (.inl rfl) rfl rfl (by exact QW.qr (qw_pick_f rfl rfl)) ?_
        refine rg_nil ?_
        refine qg_then ?_
        refine cg_false rfl ?_
        refine cg_skip ?_
        refine qg_block ?_
        refine qg_then ?_
        refine cg_region ?_
        refine rg_q (.inl rfl) rfl rfl (by exact QW.qr (qw_move rfl)) ?_
        refine rg_q (.inl rfl) rfl rfl (by exact QW.qr (qw_add_in rfl rfl (by unfold inK; omega))) ?_
        refine rg_q (.inl rfl) rfl rfl (by exact QW.qr (qw_assign rfl)) ?_
        refine rg_nil ?_
        exact qg_round_sp _ _ _ ⟨k + 1, true, l, _, Bv, by omega, by rw [pickK, hpk, hTT]; exact pick_no (fun h => by cases h.1), hnd2, hown, rfl, rfl, rfl⟩ (by repeat (first | exact Sub.nil | refine Sub.cons rfl ?_ | refine Sub.cons (congrArg (fun z => some (Value.int IntKind.i64 z)) (by omega)) ?_)) (cat_sub (ls' := [[(b19, _)], Bv, K0, K1]) (ls := [Bx, Bp, K0, K1, [(b19, _)], Bv]) (by repeat (first | exact SubM.nil | refine SubM.cons (by repeat (first | exact Ins.here | apply Ins.there)) ?_))) (by omega)
      · skip
        refine rg_q (.inl rfl) rfl rfl (by exact QW.qr (qw_move rfl)) ?_
        refine rg_q (.inl rfl) rfl rfl (by exact QW.qr (qw_extract rfl rfl)) ?_
        refine rg_q (.inl rfl) rfl rfl (by exact QW.qr (qw_extract rfl rfl)) ?_
        refine rg_q (.inl rfl) rfl rfl (by exact QW.qr (qw_extract rfl rfl)) ?_
        refine rg_q (.inl rfl) rfl rfl (by exact QW.qr (qw_assign rfl)) ?_
        refine rg_q (.inl rfl) rfl rfl (by exact QW.qr (qw_assign rfl)) ?_
        refine rg_q (.inl rfl) rfl rfl (by exact QW.qr (qw_assign rfl)) ?_
        refine rg_nil ?_
        refine qg_then ?_
        refine cg_seq ?_
        refine cg_region ?_
        refine rg_q (.inl rfl) rfl rfl (by exact QW.qr (qw_move rfl)) ?_
        refine rg_q (.inl rfl) rfl rfl (by exact QW.qr (qw_move rfl)) ?_
        refine rg_q (.inr (guard_mk rfl rfl rfl rfl)) rfl rfl (by exact QW.qr (qw_move rfl)) ?_
        refine rg_q (.inr (guard_mk rfl rfl rfl rfl)) rfl rfl (by exact QW.qr (qw_not rfl)) ?_
        refine rg_q (.inr (guard_mk rfl rfl rfl rfl)) rfl rfl (by exact QW.qr (qw_move rfl)) ?_
        refine rg_s (guard_mk rfl rfl rfl rfl) rfl rfl ?_
        refine rg_s (guard_mk rfl rfl rfl rfl) rfl rfl ?_
        refine rg_s (guard_mk rfl rfl rfl rfl) rfl rfl ?_
        refine rg_s (guard_mk rfl rfl rfl rfl) rfl rfl ?_
        refine rg_s (guard_mk rfl rfl rfl rfl) rfl rfl ?_
        refine rg_s (guard_mk rfl rfl rfl rfl) rfl rfl ?_
        refine rg_q (.inr (guard_mk rfl rfl rfl rfl)) rfl rfl (by exact QW.qr (qw_pick_t rfl rfl)) ?_
        refine rg_q (.inl rfl) rfl rfl (by exact QW.qr (qw_pick_t rfl rfl)) ?_
        refine rg_nil ?_
        refine qg_then ?_
        refine cg_true rfl ?_
        refine cg_seq ?_
        refine cg_region ?_
        refine rg_q (.inl rfl) rfl rfl (by exact QW.qr (qw_assign rfl)) ?_
        refine rg_nil ?_
        refine qg_then ?_
        refine cg_seq ?_
        refine cg_region ?_
        refine rg_q (.inl rfl) rfl rfl (by exact QW.qr (qw_move rfl)) ?_
        refine rg_q (.inl rfl) rfl rfl (by exact QW.qr (qw_move rfl)) ?_
        refine rg_q (.inl rfl) rfl rfl (by exact QW.qr (qw_nilCheck rfl)) ?_
        refine rg_q (.inl rfl) rfl rfl (by exact QW.qr (qw_fieldAddr rfl)) ?_
        refine rg_e0 (.inl rfl) rfl (by exact ev_store rfl rfl (by first | exact CellsOf.agg | exact CellsOf.one rfl) (by repeat (first | exact List.Mem.head _ | apply List.Mem.tail | apply List.mem_append_right | assumption)) (by repeat (first | exact SetSeg.done | apply SetSeg.take | apply SetSeg.skip)) rfl rfl (by repeat (first | exact Upd.here | apply Upd.there | apply Upd.app)) (by first | exact Or.inl ⟨inferInstance, rfl⟩ | exact Or.inr inferInstance)) ?_
        rintro _ _ ⟨rfl, rfl⟩
        refine rg_nil ?_
        refine qg_then ?_
        refine cg_seq ?_
        refine cg_region ?_
        refine rg_q (.inl rfl) rfl rfl (by exact QW.qr (qw_move rfl)) ?_
        refine rg_q (.inl rfl) rfl rfl (by exact QW.qr (qw_move rfl)) ?_
        refine rg_q (.inl rfl) rfl rfl (by exact QW.qr (qw_nilCheck rfl)) ?_
        refine rg_q (.inl rfl) rfl rfl (by exact QW.qr (qw_fieldAddr rfl)) ?_
        refine rg_e0 (.inl rfl) rfl (by exact ev_store rfl rfl (by first | exact CellsOf.agg | exact CellsOf.one rfl) (by repeat (first | exact List.Mem.head _ | apply List.Mem.tail | apply List.mem_append_right | assumption)) (by repeat (first | exact SetSeg.done | apply SetSeg.take | apply SetSeg.skip)) rfl rfl (by repeat (first | exact Upd.here | apply Upd.there | apply Upd.app)) (by first | exact Or.inl ⟨inferInstance, rfl⟩ | exact Or.inr inferInstance)) ?_
        rintro _ _ ⟨rfl, rfl⟩
        refine rg_nil ?_
        refine qg_then ?_
        refine cg_region ?_
        refine rg_q (.inl rfl) rfl rfl (by exact QW.qr (qw_move rfl)) ?_
        refine rg_q (.inl rfl) rfl rfl (by exact QW.qr (qw_move rfl)) ?_
        refine rg_q (.inl rfl) rfl rfl (by exact QW.qr (qw_nilCheck rfl)) ?_
        refine rg_q (.inl rfl) rfl rfl (by exact QW.qr (qw_fieldAddr rfl)) ?_
        refine rg_e0 (.inl rfl) rfl (by exact ev_store rfl rfl (by first | exact CellsOf.agg | exact CellsOf.one rfl) (by repeat (first | exact List.Mem.head _ | apply List.Mem.tail | apply List.mem_append_right | assumption)) (by repeat (first | exact SetSeg.done | apply SetSeg.take | apply SetSeg.skip)) rfl rfl (by repeat (first | exact Upd.here | apply Upd.there | apply Upd.app)) (by first | exact Or.inl ⟨inferInstance, rfl⟩ | exact Or.inr inferInstance)) ?_
        rintro _ _ ⟨rfl, rfl⟩
        refine rg_nil ?_
        refine qg_block ?_
        refine qg_then ?_
        refine cg_region ?_
        refine rg_q (.inl rfl) rfl rfl (by exact QW.qr (qw_move rfl)) ?_
        refine rg_q (.inl rfl) rfl rfl (by exact QW.qr (qw_add_in rfl rfl (by unfold inK; omega))) ?_
        refine rg_q (.inl rfl) rfl rfl (by exact QW.qr (qw_assign rfl)) ?_
        refine rg_nil ?_
        exact qg_round_sp _ _ _ ⟨k + 1, true, ⟨k, tl, th, l.dead⟩, _, Bx, by omega, by rw [pickK, hpk, hTT]; exact pick_yes rfl (.inl rfl), hnd2, hox, rfl, rfl, rfl⟩ (by repeat (first | exact Sub.nil | refine Sub.cons rfl ?_ | refine Sub.cons (congrArg (fun z => some (Value.int IntKind.i64 z)) (by omega)) ?_)) (cat_sub (ls' := [[(b19, _)], Bx, K0, K1]) (ls := [Bx, Bp, K0, K1, [(b19, _)], Bv]) (by repeat (first | exact SubM.nil | refine SubM.cons (by repeat (first | exact Ins.here | apply Ins.there)) ?_))) (by omega)
      · skip
        refine rg_q (.inl rfl) rfl rfl (by exact QW.qr (qw_move rfl)) ?_
        refine rg_q (.inl rfl) rfl rfl (by exact QW.qr (qw_extract rfl rfl)) ?_
        refine rg_q (.inl rfl) rfl rfl (by exact QW.qr (qw_extract rfl rfl)) ?_
        refine rg_q (.inl rfl) rfl rfl (by exact QW.qr (qw_extract rfl rfl)) ?_
        refine rg_q (.inl rfl) rfl rfl (by exact QW.qr (qw_assign rfl)) ?_
        refine rg_q (.inl rfl) rfl rfl (by exact QW.qr (qw_assign rfl)) ?_
        refine rg_q (.inl rfl) rfl rfl (by exact QW.qr (qw_assign rfl)) ?_
        refine rg_nil ?_
        refine qg_then ?_
        refine cg_seq ?_
        refine cg_region ?_
        refine rg_q (.inl rfl) rfl rfl (by exact QW.qr (qw_move rfl)) ?_
        refine rg_q (.inl rfl) rfl rfl (by exact QW.qr (qw_move rfl)) ?_
        refine rg_q (.inr (guard_mk rfl rfl rfl rfl)) rfl rfl (by exact QW.qr (qw_move rfl)) ?_
        refine rg_q (.inr (guard_mk rfl rfl rfl rfl)) rfl rfl (by exact QW.qr (qw_not rfl)) ?_
        refine rg_q (.inr (guard_mk rfl rfl rfl rfl)) rfl rfl (by exact QW.qr (qw_move rfl)) ?_
        refine rg_q (.inr (guard_mk rfl rfl rfl rfl)) rfl rfl (by exact QW.qr (qw_move rfl)) ?_
        refine rg_q (.inr (guard_mk rfl rfl rfl rfl)) rfl rfl (by exact QW.qr (qw_move rfl)) ?_
        refine rg_q (.inr (guard_mk rfl rfl rfl rfl)) rfl rfl (by exact QW.qr (qw_nilCheck rfl)) ?_
        refine rg_q (.inr (guard_mk rfl rfl rfl rfl)) rfl rfl (by exact QW.qr (qw_fieldAddr rfl)) ?_
        refine rg_q (.inr (guard_mk rfl rfl rfl rfl)) rfl rfl (by exact qr_load1 rfl (by repeat (first | exact List.Mem.head _ | apply List.Mem.tail | apply List.mem_append_right | assumption)) rfl) ?_
        refine rg_split (.inr (guard_mk rfl rfl rfl rfl)) rfl rfl (by exact qc_gtr rfl rfl) ?_ ?_
        · intro hgt
          refine rg_q (.inr (guard_mk rfl rfl rfl rfl)) rfl rfl (by exact QW.qr (qw_pick_f rfl rfl)) ?_
          refine rg_q (.inl rfl) rfl rfl (by exact QW.qr (qw_pick_t rfl rfl)) ?_
          refine rg_nil ?_
          refine qg_then ?_
          refine cg_true rfl ?_
          refine cg_seq ?_
          refine cg_region ?_
          refine rg_q (.inl rfl) rfl rfl (by exact QW.qr (qw_assign rfl)) ?_
          refine rg_nil ?_
          refine qg_then ?_
          refine cg_seq ?_
          refine cg_region ?_
          refine rg_q (.inl rfl) rfl rfl (by exact QW.qr (qw_move rfl)) ?_
          refine rg_q (.inl rfl) rfl rfl (by exact QW.qr (qw_move rfl)) ?_
          refine rg_q (.inl rfl) rfl rfl (by exact QW.qr (qw_nilCheck rfl)) ?_
          refine rg_q (.inl rfl) rfl rfl (by exact QW.qr (qw_fieldAddr rfl)) ?_
          refine rg_e0 (.inl rfl) rfl (by exact ev_store rfl rfl (by first | exact CellsOf.agg | exact CellsOf.one rfl) (by repeat (first | exact List.Mem.head _ | apply List.Mem.tail | apply List.mem_append_right | assumption)) (by repeat (first | exact SetSeg.done | apply SetSeg.take | apply SetSeg.skip)) rfl rfl (by repeat (first | exact Upd.here | apply Upd.there | apply Upd.app)) (by first | exact Or.inl ⟨inferInstance, rfl⟩ | exact Or.inr inferInstance)) ?_
          rintro _ _ ⟨rfl, rfl⟩
          refine rg_nil ?_
          refine qg_then ?_
          refine cg_seq ?_
          refine cg_region ?_
          refine rg_q (.inl rfl) rfl rfl (by exact QW.qr (qw_move rfl)) ?_
          refine rg_q (.inl rfl) rfl rfl (by exact QW.qr (qw_move rfl)) ?_
          refine rg_q (.inl rfl) rfl rfl (by exact QW.qr (qw_nilCheck rfl)) ?_
          refine rg_q (.inl rfl) rfl rfl (by exact QW.qr (qw_fieldAddr rfl)) ?_
          refine rg_e0 (.inl rfl) rfl (by exact ev_store rfl rfl (by first | exact CellsOf.agg | exact CellsOf.one rfl) (by repeat (first | exact List.Mem.head _ | apply List.Mem.tail | apply List.mem_append_right | assumption)) (by repeat (first | exact SetSeg.done | apply SetSeg.take | apply SetSeg.skip)) rfl rfl (by repeat (first | exact Upd.here | apply Upd.there | apply Upd.app)) (by first | exact Or.inl ⟨inferInstance, rfl⟩ | exact Or.inr inferInstance)) ?_
          rintro _ _ ⟨rfl, rfl⟩
          refine rg_nil ?_
          refine qg_then ?_
          refine cg_region ?_
          refine rg_q (.inl rfl) rfl rfl (by exact QW.qr (qw_move rfl)) ?_
          refine rg_q (.inl rfl) rfl rfl (by exact QW.qr (qw_move rfl)) ?_
          refine rg_q (.inl rfl) rfl rfl (by exact QW.qr (qw_nilCheck rfl)) ?_
          refine rg_q (.inl rfl) rfl rfl (by exact QW.qr (qw_fieldAddr rfl)) ?_
          refine rg_e0 (.inl rfl) rfl (by exact ev_store rfl rfl (by first | exact CellsOf.agg | exact CellsOf.one rfl) (by repeat (first | exact List.Mem.head _ | apply List.Mem.tail | apply List.mem_append_right | assumption)) (by repeat (first | exact SetSeg.done | apply SetSeg.take | apply SetSeg.skip)) rfl rfl (by repeat (first | exact Upd.here | apply Upd.there | apply Upd.app)) (by first | exact Or.inl ⟨inferInstance, rfl⟩ | exact Or.inr inferInstance)) ?_
          rintro _ _ ⟨rfl, rfl⟩
          refine rg_nil ?_
          refine qg_block ?_
          refine qg_then ?_
          refine cg_region ?_
          refine rg_q (.inl rfl) rfl rfl (by exact QW.qr (qw_move rfl)) ?_
          refine rg_q (.inl rfl) rfl rfl (by exact QW.qr (qw_add_in rfl rfl (by unfold inK; omega))) ?_
          refine rg_q (.inl rfl) rfl rfl (by exact QW.qr (qw_assign rfl)) ?_
          refine rg_nil ?_
          exact qg_round_sp _ _ _ ⟨k + 1, true, ⟨k, tl, th, l.dead⟩, _, Bx, by omega, by rw [pickK, hpk, hTT]; exact pick_yes rfl (.inr hgt), hnd2, hox, rfl, rfl, rfl⟩ (by repeat (first | exact Sub.nil | refine Sub.cons rfl ?_ | refine Sub.cons (congrArg (fun z => some (Value.int IntKind.i64 z)) (by omega)) ?_)) (cat_sub (ls' := [[(b19, _)], Bx, K0, K1]) (ls := [Bx, Bp, K0, K1, [(b19, _)], Bv]) (by repeat (first | exact SubM.nil | refine SubM.cons (by repeat (first | exact Ins.here | apply Ins.there)) ?_))) (by omega)
        · intro hgt
          refine rg_q (.inr (guard_mk rfl rfl rfl rfl)) rfl rfl (by exact QW.qr (qw_pick_f rfl rfl)) ?_
          refine rg_q (.inl rfl) rfl rfl (by exact QW.qr (qw_pick_t rfl rfl)) ?_
          refine rg_nil ?_
          refine qg_then ?_
          refine cg_false rfl ?_
          refine cg_skip ?_
          refine qg_block ?_
          refine qg_then ?_
          refine cg_region ?_
          refine rg_q (.inl rfl) rfl rfl (by exact QW.qr (qw_move rfl)) ?_
          refine rg_q (.inl rfl) rfl rfl (by exact QW.qr (qw_add_in rfl rfl (by unfold inK; omega))) ?_
          refine rg_q (.inl rfl) rfl rfl (by exact QW.qr (qw_assign rfl)) ?_
          refine rg_nil ?_
          exact qg_round_sp _ _ _ ⟨k + 1, true, l, _, Bv, by omega, by rw [pickK, hpk, hTT]; exact pick_no (fun h => by rcases h.2 with h | h; cases h; exact hgt h), hnd2, hown, rfl, rfl, rfl⟩ (by repeat (first | exact Sub.nil | refine Sub.cons rfl ?_ | refine Sub.cons (congrArg (fun z => some (Value.int IntKind.i64 z)) (by omega)) ?_)) (cat_sub (ls' := [[(b19, _)], Bv, K0, K1]) (ls := [Bx, Bp, K0, K1, [(b19, _)], Bv]) (by repeat (first | exact SubM.nil | refine SubM.cons (by repeat (first | exact Ins.here | apply Ins.there)) ?_))) (by omega)
  · intro hlt
    obtain rfl : k = 2 := by omega
    refine rg_nil ?_
    refine qg_then ?_
    refine cg_false rfl ?_
    refine cg_exit ?_
    refine qg_then_exit ?_
    refine qg_then_exit ?_
    refine qg_block_here ?_
    refine qg_then ?_
    refine cg_seq ?_
    have hok := hpok 2 (Nat.le_refl 2)
    rw [hpk] at hok
    replace hok : LbOk l 300000 := hok
    have hcnt := weigh_count l.has
    have hwt := hok.weight
    have hop : openS s0 s1 = compact2 l s0 s1 := by
      rw [openS, if_neg (fun h => by rcases h with h | h; exact hnd 0 (by omega) h; exact hnd 1 (by omega) h), hpk]
    have hlin : RLbIn b19 b0 b1 l (rlbBlk b19 b0 b1 (.slice pl (srt l.has).length cl) l :: Bv) := ⟨hok.at_, _, Bv, hown, rfl⟩
    refine cg_region ?_
    refine rg_q (.inl rfl) rfl rfl (by exact QW.qr (qw_move rfl)) ?_
    refine rg_e (.inl rfl) rfl rfl (by exact ev_call0 rfl (.cons rfl (.nil)) (rcompact2_ca b19 b0 b1 l s0 s1 _ K0 K1 300000 O F hlin h0 h1 hz0 hz1 hok (by decide) (by omega))) ?_
    rintro _ _ ⟨rfl, K2, K02, K12, rfl, hl2, h02, h12⟩
    generalize hr : compact2 l s0 s1 = r at hl2 h02 h12 hop ⊢
    obtain ⟨l2, s02, s12, e⟩ := r
    refine rg_q (.inl rfl) rfl rfl (by exact QW.qr (qw_assign rfl)) ?_
    refine rg_nil ?_
    refine qg_then ?_
    refine cg_seq ?_
    refine cg_seq ?_
    refine cg_region ?_
    refine rg_q (.inl rfl) rfl rfl (by exact QW.qr (qw_move rfl)) ?_
    refine rg_split (.inl rfl) rfl rfl (by exact qc_neq rfl rfl) ?_ ?_
    · intro he
      refine rg_nil ?_
      refine qg_then ?_
      refine cg_true rfl ?_
      refine cg_seq ?_
      refine cg_region ?_
      refine rg_q (.inl rfl) rfl rfl (by exact QW.qr (qw_move rfl)) ?_
      refine rg_q (.inl rfl) rfl rfl (by exact QW.qr (qw_assign rfl)) ?_
      refine rg_q (.inl rfl) rfl rfl (by exact QW.qr (qw_assign rfl)) ?_
      refine rg_nil ?_
      refine qg_then ?_
      refine cg_ret ?_
      refine qg_then_ret ?_
      exact qg_end_sp (.inl rfl) _ (.cons (.tmp rfl) (.cons (.tmp rfl) (.nil))) _ (cat_sub (ls' := [K02, K12]) (ls := [K2, K02, K12]) (by repeat (first | exact SubM.nil | refine SubM.cons (by repeat (first | exact Ins.here | apply Ins.there)) ?_))) (.inl ⟨by rw [hop]; exact he, by rw [hop] <;> rfl, K02, K12, rfl, by rw [hop]; exact h02, by rw [hop]; exact h12⟩)
    · intro he
      obtain rfl := Decidable.not_not.1 he
      refine rg_nil ?_
      refine qg_then ?_
      refine cg_false rfl ?_
      refine cg_skip ?_
      refine qg_then ?_
      refine cg_seq ?_
      refine cg_region ?_
      refine rg_q (.inl rfl) rfl rfl (by exact QW.qr (qw_move rfl)) ?_
      refine rg_q (.inl rfl) rfl rfl (by exact QW.qr (qw_assign rfl)) ?_
      refine rg_q (.inl rfl) rfl rfl (by exact QW.qr (qw_assign rfl)) ?_
      refine rg_nil ?_
      refine qg_then ?_
      refine cg_ret ?_
      exact qg_end (.inl rfl) _ (.cons (.tmp rfl) (.cons (.tmp rfl) (.nil))) _ (List.Sublist.refl _) (.inr ⟨by rw [hop], b19, K2, K02, K12, rfl, rfl, by rw [hop]; exact hl2, by rw [hop]; exact h02, by rw [hop]; exact h12⟩)

end Go.Proofs.Ytcbbogaanebefaa