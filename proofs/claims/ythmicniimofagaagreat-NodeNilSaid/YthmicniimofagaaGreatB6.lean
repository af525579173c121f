/-
  THE WALKS of logbook's small functions: up, fail, write, Put, Drop, Sync, Life, Dead, Get, Names. Conditions: sizes.
-/
import Derived.Test.YthmicniimofagaaGreatB5
import Derived.Test.YthmicniimofagaaGreatB0
namespace Go.Proofs.YthmicniimofagaaGreat
open Fw
open Go.Proofs (encStr)
set_option linter.unusedVariables false
set_option maxRecDepth 100000
set_option maxHeartbeats 1000000

/-- A logbook: on which slab it is, its life, what it has, by what it is dead. -/
structure Lb where
  at_ : Int
  life : Int
  has : List (Bytes × Bytes)
  dead : Int
def lbBlk (bl b0 b1 bm : Nat) (l : Lb) : Blk := (bl, .cells [PT b0, PT b1, I l.at_, U32 l.life, .map (some bm), I l.dead].toArray 245 (0, 0))
/-- The slab on which it is, and the other one. -/
def onAt (l : Lb) (ba bo b0 b1 : Nat) : Prop := (l.at_ = 0 ∧ b0 = ba ∧ b1 = bo) ∨ (l.at_ = 1 ∧ b0 = bo ∧ b1 = ba)
def LbAt (bl ba bo : Nat) (l : Lb) (K : List Blk) : Prop := ∃ b0 b1 bm es c ms Bv, onAt l ba bo b0 b1 ∧ MapS es c vOf ms ∧ ValsAt Bv ms ∧ plain ms = l.has ∧ K = lbBlk bl b0 b1 bm l :: (bm, .map es c) :: Bv
theorem lb_open {x y : Blk} {Bv : List Blk} {l : List (List Blk)} {F : List Blk} : cat ((x :: y :: Bv) :: l) F = cat ([x] :: [y] :: Bv :: l) F := rfl
def failL (l : Lb) (e : Int) : Lb := ⟨l.at_, l.life, l.has, if e ≠ 0 then e else l.dead⟩
theorem failL_at (l : Lb) (e : Int) {ba bo b0 b1 : Nat} : onAt (failL l e) ba bo b0 b1 ↔ onAt l ba bo b0 b1 := Iff.rfl
theorem failL_zero (l : Lb) : failL l 0 = l := by unfold failL; rw [if_neg (fun h => h rfl)]
theorem onAt_get {l : Lb} {ba bo b0 b1 bm : Nat} (h : onAt l ba bo b0 b1) : [PT b0, PT b1, I l.at_, U32 l.life, .map (some bm), I l.dead][0 + (0 : Nat) + l.at_.toNat * 1]? = some (PT ba) ∧ [PT b0, PT b1, I l.at_, U32 l.life, .map (some bm), I l.dead][0 + (0 : Nat) + (1 - l.at_).toNat * 1]? = some (PT bo) ∧ 0 ≤ l.at_ ∧ l.at_ < 2 := by
  rcases h with ⟨h, rfl, rfl⟩ | ⟨h, rfl, rfl⟩ <;> rw [h] <;> exact ⟨rfl, rfl, by decide, by decide⟩

theorem up_nil (O : Out) (L : List Blk) : CA Tryz.prog 166 [.pointer none] O L fun v L' => v = I 2 ∧ L' = L := by
  refine ca_enter Tryz.func166 rfl rfl ?_
  rw [Tryz.ntmps166]
  simp only [envOf]
  refine cg_seq ?_
  refine cg_region ?_
  refine rg_q (.inl rfl) rfl rfl (by exact QW.qr (qw_assign rfl)) ?_
  refine rg_nil ?_
  refine qg_then ?_
  refine cg_seq ?_
  refine cg_seq ?_
  refine cg_region ?_
  refine rg_q (.inl rfl) rfl rfl (by exact QW.qr (qw_move rfl)) ?_
  refine rg_q (.inl rfl) rfl rfl (by exact QW.qr (qw_eql_nil (e := 245) rfl rfl)) ?_
  refine rg_nil ?_
  refine qg_then ?_
  refine cg_true rfl ?_
  refine cg_seq ?_
  refine cg_region ?_
  refine rg_q (.inl rfl) rfl rfl (by exact QW.qr (qw_assign rfl)) ?_
  refine rg_nil ?_
  refine qg_then ?_
  refine cg_ret ?_
  refine qg_then_ret ?_
  exact qg_end (.inl rfl) _ (.cons (.tmp rfl) (.nil)) _ (by repeat (first | exact List.Sublist.refl _ | exact List.nil_sublist _ | exact List.sublist_append_right _ _ | apply List.Sublist.cons_cons | apply List.Sublist.cons | refine List.Sublist.trans ?_ (List.sublist_append_right _ _))) ⟨rfl, rfl⟩

theorem up_ca (bl b0 b1 bm : Nat) (l : Lb) (O : Out) (L : List Blk) (hm : lbBlk bl b0 b1 bm l ∈ L) : CA Tryz.prog 166 [PT bl] O L fun v L' => v = I l.dead ∧ L' = L := by
  unfold lbBlk at hm
  unfold PT
  refine ca_enter Tryz.func166 rfl rfl ?_
  rw [Tryz.ntmps166]
  simp only [envOf]
  refine cg_seq ?_
  refine cg_region ?_
  refine rg_q (.inl rfl) rfl rfl (by exact QW.qr (qw_assign rfl)) ?_
  refine rg_nil ?_
  refine qg_then ?_
  refine cg_seq ?_
  refine cg_seq ?_
  refine cg_region ?_
  refine rg_q (.inl rfl) rfl rfl (by exact QW.qr (qw_move rfl)) ?_
  refine rg_q (.inl rfl) rfl rfl (by exact QW.qr (qw_eql_ptr (e := 245) rfl rfl)) ?_
  refine rg_nil ?_
  refine qg_then ?_
  refine cg_false rfl ?_
  refine cg_skip ?_
  refine qg_then ?_
  refine cg_seq ?_
  refine cg_region ?_
  refine rg_q (.inl rfl) rfl rfl (by exact QW.qr (qw_move rfl)) ?_
  refine rg_q (.inl rfl) rfl rfl (by exact QW.qr (qw_nilCheck rfl)) ?_
  refine rg_q (.inl rfl) rfl rfl (by exact QW.qr (qw_fieldAddr rfl)) ?_
  refine rg_q (.inl rfl) rfl rfl (by exact qr_load1 rfl hm rfl) ?_
  refine rg_q (.inl rfl) rfl rfl (by exact QW.qr (qw_assign rfl)) ?_
  refine rg_nil ?_
  refine qg_then ?_
  refine cg_ret ?_
  exact qg_end (.inl rfl) _ (.cons (.tmp rfl) (.nil)) _ (by repeat (first | exact List.Sublist.refl _ | exact List.nil_sublist _ | exact List.sublist_append_right _ _ | apply List.Sublist.cons_cons | apply List.Sublist.cons | refine List.Sublist.trans ?_ (List.sublist_append_right _ _))) ⟨rfl, rfl⟩

theorem fail_ca (bl b0 b1 bm : Nat) (l : Lb) (e : Int) (O : Out) (L : List Blk) : CA Tryz.prog 167 [PT bl, I e] O (lbBlk bl b0 b1 bm l :: L) fun v L' => v = I e ∧ L' = lbBlk bl b0 b1 bm (failL l e) :: L := by
  unfold lbBlk PT
  refine ca_enter Tryz.func167 rfl rfl ?_
  rw [Tryz.ntmps167]
  simp only [envOf]
  refine cg_seq ?_
  refine cg_region ?_
  refine rg_q (.inl rfl) rfl rfl (by exact QW.qr (qw_assign rfl)) ?_
  refine rg_nil ?_
  refine qg_then ?_
  refine cg_seq ?_
  refine cg_seq ?_
  refine cg_region ?_
  refine rg_q (.inl rfl) rfl rfl (by exact QW.qr (qw_move rfl)) ?_
  refine rg_split (.inl rfl) rfl rfl (by exact qc_neq rfl rfl) ?_ ?_
  · intro he
    have hfin : failL l e = ⟨l.at_, l.life, l.has, e⟩ := by rw [failL, if_pos he]
    refine rg_nil ?_
    refine qg_then ?_
    refine cg_true rfl ?_
    refine cg_region ?_
    refine rg_q (.inl rfl) rfl rfl (by exact QW.qr (qw_move rfl)) ?_
    refine rg_q (.inl rfl) rfl rfl (by exact QW.qr (qw_move rfl)) ?_
    refine rg_q (.inl rfl) rfl rfl (by exact QW.qr (qw_nilCheck rfl)) ?_
    refine rg_q (.inl rfl) rfl rfl (by exact QW.qr (qw_fieldAddr rfl)) ?_
    refine rg_e0 (.inl rfl) rfl (by exact ev_store rfl rfl (by first | exact CellsOf.agg | exact CellsOf.one rfl) (by repeat (first | exact List.Mem.head _ | apply List.Mem.tail | apply List.mem_append_right | assumption)) (by repeat (first | exact SetSeg.done | apply SetSeg.take | apply SetSeg.skip)) rfl rfl (by repeat (first | exact Upd.here | apply Upd.there | apply Upd.app)) (by first | exact Or.inl ⟨inferInstance, rfl⟩ | exact Or.inr inferInstance)) ?_
    rintro _ _ ⟨rfl, rfl⟩
    refine rg_nil ?_
    refine qg_then ?_
    refine cg_seq ?_
    refine cg_region ?_
    refine rg_q (.inl rfl) rfl rfl (by exact QW.qr (qw_move rfl)) ?_
    refine rg_q (.inl rfl) rfl rfl (by exact QW.qr (qw_assign rfl)) ?_
    refine rg_nil ?_
    refine qg_then ?_
    refine cg_ret ?_
    exact qg_end (.inl rfl) _ (.cons (.tmp rfl) (.nil)) _ (List.Sublist.refl _) ⟨rfl, by rw [hfin] <;> rfl⟩
  · intro he
    have hfin : failL l e = l := by rw [failL, if_neg he]
    refine rg_nil ?_
    refine qg_then ?_
    refine cg_false rfl ?_
    refine cg_skip ?_
    refine qg_then ?_
    refine cg_seq ?_
    refine cg_region ?_
    refine rg_q (.inl rfl) rfl rfl (by exact QW.qr (qw_move rfl)) ?_
    refine rg_q (.inl rfl) rfl rfl (by exact QW.qr (qw_assign rfl)) ?_
    refine rg_nil ?_
    refine qg_then ?_
    refine cg_ret ?_
    exact qg_end (.inl rfl) _ (.cons (.tmp rfl) (.nil)) _ (List.Sublist.refl _) ⟨rfl, by rw [hfin] <;> rfl⟩

theorem write_ca (bl ba bo : Nat) (l : Lb) (sa : Slab) (K Ka : List Blk) (p : Bytes) (pv : Value) (O : Out) (F : List Blk) (hl : LbAt bl ba bo l K) (hs : SlabAt ba sa Ka) (hp : RdL F encB 1 pv p) (hsz : sa.sure.length + sa.loose.length ≤ 300000) (hpl_ : p.length ≤ 600000) :
    CA Tryz.prog 187 [PT bl, pv] O (cat [K, Ka] F) fun v L' => v = I (appendS sa p).2 ∧ ∃ K2 Ka2, L' = cat [K2, Ka2] F ∧ LbAt bl ba bo (failL l (appendS sa p).2) K2 ∧ SlabAt ba (appendS sa p).1 Ka2 := by
  obtain ⟨b0, b1, bm, es, c, ms, Bv, hon, hms, hva, hpl, rfl⟩ := hl
  obtain ⟨hga, hgo, ha0, ha2⟩ := onAt_get (bm := bm) hon
  rw [lb_open]
  obtain ⟨pp, cp, rfl, _⟩ := id hp
  refine ca_enter Tryz.func187 rfl rfl ?_
  rw [Tryz.ntmps187]
  simp only [envOf]
  refine cg_seq ?_
  refine cg_region ?_
  refine rg_q (.inl rfl) rfl rfl (by exact QW.qr (qw_assign rfl)) ?_
  refine rg_nil ?_
  refine qg_then ?_
  refine cg_seq ?_
  unfold lbBlk PT
  refine cg_draw follows (.op 0 false (.op 1 false (.op 2 false (.op 3 false (.op 4 false (.op 5 false (.op 6 false (.op 7 false (.op 8 false (.op 9 false (.op 10 false (.op 11 false (.op 12 false (.op 13 false .done)))))))))))))) _ (by kernel_rfl) (SubP.of (List.Sublist.refl _)) ?_
  refine dg_w rfl rfl (.inl rfl) rfl rfl (by exact qw_move rfl) ?_
  refine dg_w rfl rfl (.inl rfl) rfl rfl (by exact qw_move rfl) ?_
  refine dg_w rfl rfl (.inl rfl) rfl rfl (by exact qw_move rfl) ?_
  refine dg_w rfl rfl (.inl rfl) rfl rfl (by exact qw_nilCheck rfl) ?_
  refine dg_w rfl rfl (.inl rfl) rfl rfl (by exact qw_fieldAddr rfl) ?_
  refine dg_r rfl rfl rfl (.inl rfl) rfl rfl (by exact qr_load1 rfl (by repeat (first | exact List.Mem.head _ | apply List.Mem.tail | apply List.mem_append_right | assumption)) rfl) ?_
  refine dg_w rfl rfl (.inl rfl) rfl rfl (by exact qw_nilCheck rfl) ?_
  refine dg_w rfl rfl (.inl rfl) rfl rfl (by exact qw_fieldAddr rfl) ?_
  refine dg_w rfl rfl (.inl rfl) rfl rfl (by exact qw_indexAddr_arr rfl rfl (by omega) (by omega)) ?_
  refine dg_r rfl rfl rfl (.inl rfl) rfl rfl (by exact qr_load1 rfl (List.Mem.head _) (by exact hga)) ?_
  refine dg_w rfl rfl (.inl rfl) rfl rfl (by exact qw_move rfl) ?_
  refine dg_g rfl rfl (.inl rfl) rfl rfl (by exact ev_call0 rfl (.cons rfl (.cons rfl (.nil))) ((append_ca ba sa Ka p _ O (cat [[lbBlk bl b0 b1 bm l], [(bm, .map es c)], Bv] F) hs (hp.mono (fun q hq => mem_catF hq)) hsz hpl_).pre (fun w h => h.perm (cat_perm (ls' := [Ka, [lbBlk bl b0 b1 bm l], [(bm, .map es c)], Bv]) (ls := [[lbBlk bl b0 b1 bm l], [(bm, .map es c)], Bv, Ka]) (by repeat (first | exact PermM.nil | refine PermM.cons (by repeat (first | exact Ins.here | apply Ins.there)) ?_)))))) ?_
  rintro _ _ ⟨rfl, Ka2, rfl, hs2⟩
  generalize hr : appendS sa p = r at hs2 ⊢
  obtain ⟨s2, e⟩ := r
  refine dg_g rfl rfl (.inl rfl) rfl rfl (by exact ev_call0 rfl (.cons rfl (.cons rfl (.nil))) ((fail_ca bl b0 b1 bm l e O _).pre (fun w h => h.perm (cat_perm (ls' := [[lbBlk bl b0 b1 bm l], Ka2, [(bm, _)], Bv]) (ls := [Ka2, [lbBlk bl b0 b1 bm l], [(bm, _)], Bv]) (by repeat (first | exact PermM.nil | refine PermM.cons (by repeat (first | exact Ins.here | apply Ins.there)) ?_)))))) ?_
  rintro _ _ ⟨rfl, rfl⟩
  refine dg_w rfl rfl (.inl rfl) rfl rfl (by exact qw_assign rfl) ?_
  refine dg_nil ?_
  refine qg_then ?_
  refine cg_ret ?_
  exact qg_end_sp (.inl rfl) _ (.cons (.tmp rfl) (.nil)) _ (cat_sub (ls' := [[_], [_], Bv, Ka2]) (ls := [[_], Ka2, [_], Bv]) (by repeat (first | exact SubM.nil | refine SubM.cons (by repeat (first | exact Ins.here | apply Ins.there)) ?_))) ⟨rfl, _, Ka2, rfl, ⟨b0, b1, bm, es, c, ms, Bv, hon, hms, hva, hpl, rfl⟩, hs2⟩

end Go.Proofs.YthmicniimofagaaGreat