/-
  THE WALKS of logbook's Put, Drop, Sync, Get, Names. Conditions: sizes.
-/
import Derived.Test.YthmicniimofagaaGreatB6
namespace Go.Proofs.YthmicniimofagaaGreat
open Fw
open Go.Proofs (encStr)
set_option linter.unusedVariables false
set_option maxRecDepth 100000
set_option maxHeartbeats 1000000

theorem Fw.qr_val {P : Program} {E : Env} {O : Out} {L : List Blk} {o : Oper} {v v2 : Value} (h : QR P o E O L v) (e : v = v2) : QR P o E O L v2 := e ▸ h
def putL (l : Lb) (sa : Slab) (name val : Bytes) : Lb × Slab × Int :=
  if l.dead ≠ 0 then (l, sa, l.dead) else if (name.length : Int) > 255 ∨ (val.length : Int) > 4096 then (l, sa, 8)
  else if (appendS sa (recF 2 name val)).2 ≠ 0 then (failL l (appendS sa (recF 2 name val)).2, (appendS sa (recF 2 name val)).1, (appendS sa (recF 2 name val)).2)
  else (⟨l.at_, l.life, putG l.has name val, l.dead⟩, (appendS sa (recF 2 name val)).1, 0)
def dropL (l : Lb) (sa : Slab) (name : Bytes) : Lb × Slab × Int :=
  if l.dead ≠ 0 then (l, sa, l.dead) else if ¬ hasG l.has name = true then (l, sa, 6)
  else if (appendS sa (recF 3 name [])).2 ≠ 0 then (failL l (appendS sa (recF 3 name [])).2, (appendS sa (recF 3 name [])).1, (appendS sa (recF 3 name [])).2)
  else (⟨l.at_, l.life, delG l.has name, l.dead⟩, (appendS sa (recF 3 name [])).1, 0)
def syncL (l : Lb) (sa : Slab) : Lb × Slab × Int := if l.dead ≠ 0 then (l, sa, l.dead) else (failL l (syncS sa).2, (syncS sa).1, (syncS sa).2)
theorem plain_has (ms : List (Bytes × (Bytes × Value))) (k : Bytes) : hasG (plain ms) k = hasG ms k := mapG_has (fun g : Bytes × Value => g.1) ms k
theorem plain_get (ms : List (Bytes × (Bytes × Value))) (k : Bytes) : getG (plain ms) k = (getG ms k).map (·.1) := mapG_get (fun g : Bytes × Value => g.1) ms k
theorem plain_keys (ms : List (Bytes × (Bytes × Value))) : (plain ms).map Prod.fst = ms.map Prod.fst := by
  unfold plain
  rw [List.map_map]
  rfl
theorem plain_names (ms : List (Bytes × (Bytes × Value))) : namesOf (plain ms) = namesOf ms := by
  unfold namesOf
  rw [plain_keys]
theorem rdl_nilB {L : List Blk} : RdL L encB 1 (.slice none 0 0) [] := ⟨none, 0, rfl, by simp, Nat.le_refl 0, ⟨fun q h => (by cases h), fun _ => rfl⟩, fun h => absurd rfl h⟩

theorem put_ca (bl ba bo : Nat) (l : Lb) (sa : Slab) (K Ka : List Blk) (name val : Bytes) (vv : Value) (O : Out) (F : List Blk) (hl : LbAt bl ba bo l K) (hs : SlabAt ba sa Ka) (hsz : sa.sure.length + sa.loose.length ≤ 300000) (hv : RdL F encB 1 vv val) :
    CA Tryz.prog 127 [PT bl, encStr name, vv] O (cat [K, Ka] F) fun v L' => v = I (putL l sa name val).2.2 ∧ ∃ K2 Ka2, L' = cat [K2, Ka2] F ∧ LbAt bl ba bo (putL l sa name val).1 K2 ∧ SlabAt ba (putL l sa name val).2.1 Ka2 := by
  obtain ⟨b0, b1, bm, es, c, ms, Bv, hon, hms, hva, hpl, rfl⟩ := id hl
  rw [lb_open]
  obtain ⟨pp, cp, rfl, _⟩ := id hv
  refine ca_enter Tryz.func127 rfl rfl ?_
  rw [Tryz.ntmps127]
  simp only [envOf]
  refine cg_seq ?_
  refine cg_region ?_
  refine rg_q (.inl rfl) rfl rfl (by exact QW.qr (qw_assign rfl)) ?_
  refine rg_nil ?_
  refine qg_then ?_
  refine cg_seq ?_
  refine cg_seq ?_
  refine cg_region ?_
  refine rg_q (.inl rfl) rfl rfl (by exact QW.qr (qw_move rfl)) ?_
  refine rg_e (.inl rfl) rfl rfl (by exact ev_call0 rfl (.cons rfl (.nil)) (up_ca bl b0 b1 bm l O _ (List.Mem.head _))) ?_
  rintro _ _ ⟨rfl, rfl⟩
  refine rg_q (.inl rfl) rfl rfl (by exact QW.qr (qw_assign rfl)) ?_
  refine rg_nil ?_
  refine qg_then ?_
  refine cg_seq ?_
  refine cg_region ?_
  refine rg_q (.inl rfl) rfl rfl (by exact QW.qr (qw_move rfl)) ?_
  refine rg_split (.inl rfl) rfl rfl (by exact qc_neq rfl rfl) ?_ ?_
  · intro hd
    have hfin : putL l sa name val = (l, sa, l.dead) := by rw [putL, if_pos hd]
    refine rg_nil ?_
    refine qg_then ?_
    refine cg_true rfl ?_
    refine cg_seq ?_
    refine cg_region ?_
    refine rg_q (.inl rfl) rfl rfl (by exact QW.qr (qw_move rfl)) ?_
    refine rg_q (.inl rfl) rfl rfl (by exact QW.qr (qw_assign rfl)) ?_
    refine rg_nil ?_
    refine qg_then ?_
    refine cg_ret ?_
    refine qg_then_ret ?_
    exact qg_end (.inl rfl) _ (.cons (.tmp rfl) (.nil)) _ (List.Sublist.refl _) ⟨by rw [hfin] <;> rfl, _, Ka, rfl, by rw [hfin]; exact hl, by rw [hfin]; exact hs⟩
  · intro hd
    refine rg_nil ?_
    refine qg_then ?_
    refine cg_false rfl ?_
    refine cg_skip ?_
    refine qg_then ?_
    refine cg_seq ?_
    refine cg_seq ?_
    refine cg_region ?_
    refine rg_q (.inl rfl) rfl rfl (by exact QW.qr (qw_move rfl)) ?_
    refine rg_q (.inl rfl) rfl rfl (by exact QW.qr (qw_len_enc (t := 9) (.cons rfl .nil) rfl)) ?_
    refine rg_split (.inl rfl) rfl rfl (by exact qc_gtr rfl rfl) ?_ ?_
    · intro h1
      have hfin : putL l sa name val = (l, sa, 8) := by rw [putL, if_neg hd, if_pos (.inl h1)]
      refine rg_q (.inl rfl) rfl rfl (by exact QW.qr (qw_move rfl)) ?_
      refine rg_s (guard_mk rfl rfl rfl rfl) rfl rfl ?_
      refine rg_s (guard_mk rfl rfl rfl rfl) rfl rfl ?_
      refine rg_s (guard_mk rfl rfl rfl rfl) rfl rfl ?_
      refine rg_q (.inl rfl) rfl rfl (by exact QW.qr (qw_pick_t rfl rfl)) ?_
      refine rg_nil ?_
      refine qg_then ?_
      refine cg_true rfl ?_
      refine cg_seq ?_
      refine cg_region ?_
      refine rg_q (.inl rfl) rfl rfl (by exact QW.qr (qw_assign rfl)) ?_
      refine rg_nil ?_
      refine qg_then ?_
      refine cg_ret ?_
      refine qg_then_ret ?_
      exact qg_end (.inl rfl) _ (.cons (.tmp rfl) (.nil)) _ (List.Sublist.refl _) ⟨by rw [hfin] <;> rfl, _, Ka, rfl, by rw [hfin]; exact hl, by rw [hfin]; exact hs⟩
    · intro h1
      refine rg_q (.inl rfl) rfl rfl (by exact QW.qr (qw_move rfl)) ?_
      refine rg_q (.inr (guard_mk rfl rfl rfl rfl)) rfl rfl (by exact QW.qr (qw_move rfl)) ?_
      refine rg_q (.inr (guard_mk rfl rfl rfl rfl)) rfl rfl (by exact QW.qr (qw_len_slice (t := 39) (.cons rfl (.nil)) rfl)) ?_
      refine rg_split (.inr (guard_mk rfl rfl rfl rfl)) rfl rfl (by exact qc_gtr rfl rfl) ?_ ?_
      · intro h2
        have hfin : putL l sa name val = (l, sa, 8) := by rw [putL, if_neg hd, if_pos (.inr h2)]
        refine rg_q (.inl rfl) rfl rfl (by exact QW.qr (qw_pick_f rfl rfl)) ?_
        refine rg_nil ?_
        refine qg_then ?_
        refine cg_true rfl ?_
        refine cg_seq ?_
        refine cg_region ?_
        refine rg_q (.inl rfl) rfl rfl (by exact QW.qr (qw_assign rfl)) ?_
        refine rg_nil ?_
        refine qg_then ?_
        refine cg_ret ?_
        refine qg_then_ret ?_
        exact qg_end (.inl rfl) _ (.cons (.tmp rfl) (.nil)) _ (List.Sublist.refl _) ⟨by rw [hfin] <;> rfl, _, Ka, rfl, by rw [hfin]; exact hl, by rw [hfin]; exact hs⟩
      · intro h2
        have h12 : ¬ ((name.length : Int) > 255 ∨ (val.length : Int) > 4096) := by omega
        have hrl := recF_len 2 name val
        refine rg_q (.inl rfl) rfl rfl (by exact QW.qr (qw_pick_f rfl rfl)) ?_
        refine rg_nil ?_
        refine qg_then ?_
        refine cg_false rfl ?_
        refine cg_skip ?_
        refine qg_then ?_
        refine cg_seq ?_
        refine cg_seq ?_
        refine cg_region ?_
        refine rg_q (.inl rfl) rfl rfl (by exact QW.qr (qw_move rfl)) ?_
        refine rg_q (.inl rfl) rfl rfl (by exact QW.qr (qw_move rfl)) ?_
        refine rg_q (.inl rfl) rfl rfl (by exact QW.qr (qw_move rfl)) ?_
        refine rg_e (.inl rfl) rfl rfl (by exact ev_call0 rfl (.cons rfl (.cons rfl (.cons rfl (.nil)))) (record_ca 2 name val _ (by omega) (by omega) O _ (hv.mono (fun q hq => mem_catF hq)))) ?_
        rintro rv _ ⟨B, ho, rfl⟩
        refine rg_e (.inl rfl) rfl rfl (by exact ev_call0 rfl (.cons rfl (.cons rfl (.nil))) ((write_ca bl ba bo l sa _ Ka (recF 2 name val) rv O (cat [B] F) hl hs ((ho.rd (fun _ => rfl) (by decide)).mono (fun q hq => List.mem_append_left _ hq)) hsz (by omega)).pre (fun w h => h.perm (cat_perm (ls' := [[lbBlk bl b0 b1 bm l], [(bm, .map es c)], Bv, Ka, B]) (ls := [B, [lbBlk bl b0 b1 bm l], [(bm, .map es c)], Bv, Ka]) (by repeat (first | exact PermM.nil | refine PermM.cons (by repeat (first | exact Ins.here | apply Ins.there)) ?_)))))) ?_
        rintro _ _ ⟨rfl, K2, Ka2, rfl, hl2, hs2⟩
        generalize hr : appendS sa (recF 2 name val) = r at hl2 hs2 ⊢
        obtain ⟨s2, e⟩ := r
        refine rg_q (.inl rfl) rfl rfl (by exact QW.qr (qw_assign rfl)) ?_
        refine rg_nil ?_
        refine qg_then ?_
        refine cg_seq ?_
        refine cg_region ?_
        refine rg_q (.inl rfl) rfl rfl (by exact QW.qr (qw_move rfl)) ?_
        refine rg_split (.inl rfl) rfl rfl (by exact qc_neq rfl rfl) ?_ ?_
        · intro he
          have hfin : putL l sa name val = (failL l e, s2, e) := by rw [putL, if_neg hd, if_neg h12, hr, if_pos he]
          refine rg_nil ?_
          refine qg_then ?_
          refine cg_true rfl ?_
          refine cg_seq ?_
          refine cg_region ?_
          refine rg_q (.inl rfl) rfl rfl (by exact QW.qr (qw_move rfl)) ?_
          refine rg_q (.inl rfl) rfl rfl (by exact QW.qr (qw_assign rfl)) ?_
          refine rg_nil ?_
          refine qg_then ?_
          refine cg_ret ?_
          refine qg_then_ret ?_
          exact qg_end_sp (.inl rfl) _ (.cons (.tmp rfl) (.nil)) _ (cat_sub (ls' := [K2, Ka2]) (ls := [K2, Ka2, B]) (by repeat (first | exact SubM.nil | refine SubM.cons (by repeat (first | exact Ins.here | apply Ins.there)) ?_))) ⟨by rw [hfin] <;> rfl, K2, Ka2, rfl, by rw [hfin]; exact hl2, by rw [hfin]; exact hs2⟩
        · intro he
          obtain rfl := Decidable.not_not.1 he
          have hfin : putL l sa name val = (⟨l.at_, l.life, putG l.has name val, l.dead⟩, s2, 0) := by rw [putL, if_neg hd, if_neg h12, hr, if_neg (fun h => h rfl)]
          replace hl2 : LbAt bl ba bo l K2 := by have h := hl2; rwa [failL_zero] at h
          replace hs2 : SlabAt ba s2 Ka2 := hs2
          obtain ⟨b0', b1', bm2, es2, c2, ms2, Bv2, hon2, hms2, hva2, hpl2, rfl⟩ := hl2
          rw [lb_open]
          refine rg_nil ?_
          refine qg_then ?_
          refine cg_false rfl ?_
          refine cg_skip ?_
          refine qg_then ?_
          refine cg_seq ?_
          unfold lbBlk PT
          refine cg_draw follows (.op 0 false (.op 1 false (.op 2 false (.op 3 false (.op 4 false (.op 5 false (.op 6 true (.op 7 false .done)))))))) _ (by kernel_rfl) (SubP.of (List.Sublist.refl _)) ?_
          refine dg_w rfl rfl (.inl rfl) rfl rfl (by exact qw_move rfl) ?_
          refine dg_w rfl rfl (.inl rfl) rfl rfl (by exact qw_nilCheck rfl) ?_
          refine dg_w rfl rfl (.inl rfl) rfl rfl (by exact qw_fieldAddr rfl) ?_
          refine dg_r rfl rfl rfl (.inl rfl) rfl rfl (by exact qr_load1 rfl (by repeat (first | exact List.Mem.head _ | apply List.Mem.tail | apply List.mem_append_right | assumption)) rfl) ?_
          refine dg_w rfl rfl (.inl rfl) rfl rfl (by exact qw_move rfl) ?_
          refine dg_w rfl rfl (.inl rfl) rfl rfl (by exact qw_move rfl) ?_
          refine dg_e rfl rfl (.inl rfl) rfl rfl (by exact ev_call0 rfl (.cons rfl (.nil)) (cloneB_ca val _ O _ (hv.mono (fun q hq => mem_catF (mem_catF hq))) (by omega))) ?_
          rintro cv _ ⟨Bc, hoc, rfl⟩
          refine ⟨(SubP.of (by repeat (first | exact List.Sublist.refl _ | exact List.nil_sublist _ | exact List.sublist_append_right _ _ | apply List.Sublist.cons_cons | apply List.Sublist.cons | refine List.Sublist.trans ?_ (List.sublist_append_right _ _)))), ?_⟩
          refine dg_g0 rfl rfl (.inl rfl) rfl (by exact ev_mapUpdateS (t := (val, cv)) (L' := fun es c => cat [Bc, [lbBlk bl b0' b1' bm2 l], [(bm2, .map es c)], Bv2, Ka2] (cat [B] F)) rfl rfl rfl hms2 (fun _ _ => (by repeat (first | exact Upd.here | apply Upd.there | apply Upd.app)))) ?_
          rintro _ _ ⟨rfl, es3, c3, rfl, hms3⟩
          refine dg_nil ?_
          refine qg_then ?_
          refine cg_seq ?_
          refine cg_region ?_
          refine rg_q (.inl rfl) rfl rfl (by exact QW.qr (qw_assign rfl)) ?_
          refine rg_nil ?_
          refine qg_then ?_
          refine cg_ret ?_
          exact qg_end_sp (.inl rfl) _ (.cons (.tmp rfl) (.nil)) _ (by rw [lb_open, slab_app]; exact cat_sub (ls' := [[lbBlk bl b0' b1' bm2 l], [(bm2, .map es3 c3)], Bc, Bv2, Ka2]) (ls := [Bc, [lbBlk bl b0' b1' bm2 l], [(bm2, .map es3 c3)], Bv2, Ka2, B]) (by repeat (first | exact SubM.nil | refine SubM.cons (by repeat (first | exact Ins.here | apply Ins.there)) ?_))) ⟨by rw [hfin] <;> rfl, _, Ka2, rfl, by rw [hfin]; exact ⟨b0', b1', bm2, es3, c3, _, Bc ++ Bv2, hon2, hms3, hva2.put (hoc.rd (fun _ => rfl) (by decide)), by rw [plain_put, hpl2], rfl⟩, by rw [hfin]; exact hs2⟩

theorem lbSync_ca (bl ba bo : Nat) (l : Lb) (sa : Slab) (K Ka : List Blk) (O : Out) (F : List Blk) (hl : LbAt bl ba bo l K) (hs : SlabAt ba sa Ka) (hsz : sa.sure.length + sa.loose.length ≤ 300000) :
    CA Tryz.prog 105 [PT bl] O (cat [K, Ka] F) fun v L' => v = I (syncL l sa).2.2 ∧ ∃ K2 Ka2, L' = cat [K2, Ka2] F ∧ LbAt bl ba bo (syncL l sa).1 K2 ∧ SlabAt ba (syncL l sa).2.1 Ka2 := by
  obtain ⟨b0, b1, bm, es, c, ms, Bv, hon, hms, hva, hpl, rfl⟩ := id hl
  rw [lb_open]
  obtain ⟨hga, hgo, ha0, ha2⟩ := onAt_get (bm := bm) hon
  refine ca_enter Tryz.func105 rfl rfl ?_
  rw [Tryz.ntmps105]
  simp only [envOf]
  refine cg_seq ?_
  refine cg_region ?_
  refine rg_q (.inl rfl) rfl rfl (by exact QW.qr (qw_assign rfl)) ?_
  refine rg_nil ?_
  refine qg_then ?_
  refine cg_seq ?_
  refine cg_seq ?_
  refine cg_region ?_
  refine rg_q (.inl rfl) rfl rfl (by exact QW.qr (qw_move rfl)) ?_
  refine rg_e (.inl rfl) rfl rfl (by exact ev_call0 rfl (.cons rfl (.nil)) (up_ca bl b0 b1 bm l O _ (List.Mem.head _))) ?_
  rintro _ _ ⟨rfl, rfl⟩
  refine rg_q (.inl rfl) rfl rfl (by exact QW.qr (qw_assign rfl)) ?_
  refine rg_nil ?_
  refine qg_then ?_
  refine cg_seq ?_
  refine cg_region ?_
  refine rg_q (.inl rfl) rfl rfl (by exact QW.qr (qw_move rfl)) ?_
  refine rg_split (.inl rfl) rfl rfl (by exact qc_neq rfl rfl) ?_ ?_
  · intro hd
    have hfin : syncL l sa = (l, sa, l.dead) := by rw [syncL, if_pos hd]
    refine rg_nil ?_
    refine qg_then ?_
    refine cg_true rfl ?_
    refine cg_seq ?_
    refine cg_region ?_
    refine rg_q (.inl rfl) rfl rfl (by exact QW.qr (qw_move rfl)) ?_
    refine rg_q (.inl rfl) rfl rfl (by exact QW.qr (qw_assign rfl)) ?_
    refine rg_nil ?_
    refine qg_then ?_
    refine cg_ret ?_
    refine qg_then_ret ?_
    exact qg_end (.inl rfl) _ (.cons (.tmp rfl) (.nil)) _ (List.Sublist.refl _) ⟨by rw [hfin] <;> rfl, _, Ka, rfl, by rw [hfin]; exact hl, by rw [hfin]; exact hs⟩
  · intro hd
    refine rg_nil ?_
    refine qg_then ?_
    refine cg_false rfl ?_
    refine cg_skip ?_
    refine qg_then ?_
    refine cg_seq ?_
    unfold lbBlk PT
    refine cg_draw follows (.op 0 false (.op 1 false (.op 2 false (.op 3 false (.op 4 false (.op 5 false (.op 6 false (.op 7 false (.op 8 false (.op 9 false (.op 10 false (.op 11 false (.op 12 false .done))))))))))))) _ (by kernel_rfl) (SubP.of (List.Sublist.refl _)) ?_
    refine dg_w rfl rfl (.inl rfl) rfl rfl (by exact qw_move rfl) ?_
    refine dg_w rfl rfl (.inl rfl) rfl rfl (by exact qw_move rfl) ?_
    refine dg_w rfl rfl (.inl rfl) rfl rfl (by exact qw_move rfl) ?_
    refine dg_w rfl rfl (.inl rfl) rfl rfl (by exact qw_nilCheck rfl) ?_
    refine dg_w rfl rfl (.inl rfl) rfl rfl (by exact qw_fieldAddr rfl) ?_
    refine dg_r rfl rfl rfl (.inl rfl) rfl rfl (by exact qr_load1 rfl (by repeat (first | exact List.Mem.head _ | apply List.Mem.tail | apply List.mem_append_right | assumption)) rfl) ?_
    refine dg_w rfl rfl (.inl rfl) rfl rfl (by exact qw_nilCheck rfl) ?_
    refine dg_w rfl rfl (.inl rfl) rfl rfl (by exact qw_fieldAddr rfl) ?_
    refine dg_w rfl rfl (.inl rfl) rfl rfl (by exact qw_indexAddr_arr rfl rfl (by omega) (by omega)) ?_
    refine dg_r rfl rfl rfl (.inl rfl) rfl rfl (by exact qr_load1 rfl (List.Mem.head _) (by exact hga)) ?_
    refine dg_g rfl rfl (.inl rfl) rfl rfl (by exact ev_call0 rfl (.cons rfl (.nil)) ((sync_ca ba sa Ka O (cat [[lbBlk bl b0 b1 bm l], [(bm, .map es c)], Bv] F) hs (by omega)).pre (fun w h => h.perm (cat_perm (ls' := [Ka, [lbBlk bl b0 b1 bm l], [(bm, .map es c)], Bv]) (ls := [[lbBlk bl b0 b1 bm l], [(bm, .map es c)], Bv, Ka]) (by repeat (first | exact PermM.nil | refine PermM.cons (by repeat (first | exact Ins.here | apply Ins.there)) ?_)))))) ?_
    rintro _ _ ⟨rfl, Ka2, rfl, hs2⟩
    have hfin : syncL l sa = (failL l (syncS sa).2, (syncS sa).1, (syncS sa).2) := by rw [syncL, if_neg hd]
    generalize hr : syncS sa = r at hs2 hfin ⊢
    obtain ⟨s2, e⟩ := r
    refine dg_g rfl rfl (.inl rfl) rfl rfl (by exact ev_call0 rfl (.cons rfl (.cons rfl (.nil))) ((fail_ca bl b0 b1 bm l e O _).pre (fun w h => h.perm (cat_perm (ls' := [[lbBlk bl b0 b1 bm l], Ka2, [(bm, _)], Bv]) (ls := [Ka2, [lbBlk bl b0 b1 bm l], [(bm, _)], Bv]) (by repeat (first | exact PermM.nil | refine PermM.cons (by repeat (first | exact Ins.here | apply Ins.there)) ?_)))))) ?_
    rintro _ _ ⟨rfl, rfl⟩
    refine dg_w rfl rfl (.inl rfl) rfl rfl (by exact qw_assign rfl) ?_
    refine dg_nil ?_
    refine qg_then ?_
    refine cg_ret ?_
    exact qg_end_sp (.inl rfl) _ (.cons (.tmp rfl) (.nil)) _ (cat_sub (ls' := [[_], [_], Bv, Ka2]) (ls := [[_], Ka2, [_], Bv]) (by repeat (first | exact SubM.nil | refine SubM.cons (by repeat (first | exact Ins.here | apply Ins.there)) ?_))) ⟨by rw [hfin] <;> rfl, _, Ka2, rfl, by rw [hfin]; exact ⟨b0, b1, bm, es, c, ms, Bv, hon, hms, hva, hpl, rfl⟩, by rw [hfin]; exact hs2⟩

theorem put_nil (nv vv : Value) (O : Out) (L : List Blk) : CA Tryz.prog 127 [.pointer none, nv, vv] O L fun v L' => v = I 2 ∧ L' = L := by
  refine ca_enter Tryz.func127 rfl rfl ?_
  rw [Tryz.ntmps127]
  simp only [envOf]
  refine cg_seq ?_
  refine cg_region ?_
  refine rg_q (.inl rfl) rfl rfl (by exact QW.qr (qw_assign rfl)) ?_
  refine rg_nil ?_
  refine qg_then ?_
  refine cg_seq ?_
  refine cg_seq ?_
  refine cg_region ?_
  refine rg_q (.inl rfl) rfl rfl (by exact QW.qr (qw_move rfl)) ?_
  refine rg_e (.inl rfl) rfl rfl (by exact ev_call0 rfl (.cons rfl (.nil)) (up_nil O _)) ?_
  rintro _ _ ⟨rfl, rfl⟩
  refine rg_q (.inl rfl) rfl rfl (by exact QW.qr (qw_assign rfl)) ?_
  refine rg_nil ?_
  refine qg_then ?_
  refine cg_seq ?_
  refine cg_region ?_
  refine rg_q (.inl rfl) rfl rfl (by exact QW.qr (qw_move rfl)) ?_
  refine rg_q (.inl rfl) rfl rfl (by exact QW.qr (qw_neq_t rfl rfl (by decide))) ?_
  refine rg_nil ?_
  refine qg_then ?_
  refine cg_true rfl ?_
  refine cg_seq ?_
  refine cg_region ?_
  refine rg_q (.inl rfl) rfl rfl (by exact QW.qr (qw_move rfl)) ?_
  refine rg_q (.inl rfl) rfl rfl (by exact QW.qr (qw_assign rfl)) ?_
  refine rg_nil ?_
  refine qg_then ?_
  refine cg_ret ?_
  refine qg_then_ret ?_
  exact qg_end (.inl rfl) _ (.cons (.tmp rfl) (.nil)) _ (by repeat (first | exact List.Sublist.refl _ | exact List.nil_sublist _ | exact List.sublist_append_right _ _ | apply List.Sublist.cons_cons | apply List.Sublist.cons | refine List.Sublist.trans ?_ (List.sublist_append_right _ _))) ⟨rfl, rfl⟩

theorem lbSync_nil (O : Out) (L : List Blk) : CA Tryz.prog 105 [.pointer none] O L fun v L' => v = I 2 ∧ L' = L := by
  refine ca_enter Tryz.func105 rfl rfl ?_
  rw [Tryz.ntmps105]
  simp only [envOf]
  refine cg_seq ?_
  refine cg_region ?_
  refine rg_q (.inl rfl) rfl rfl (by exact QW.qr (qw_assign rfl)) ?_
  refine rg_nil ?_
  refine qg_then ?_
  refine cg_seq ?_
  refine cg_seq ?_
  refine cg_region ?_
  refine rg_q (.inl rfl) rfl rfl (by exact QW.qr (qw_move rfl)) ?_
  refine rg_e (.inl rfl) rfl rfl (by exact ev_call0 rfl (.cons rfl (.nil)) (up_nil O _)) ?_
  rintro _ _ ⟨rfl, rfl⟩
  refine rg_q (.inl rfl) rfl rfl (by exact QW.qr (qw_assign rfl)) ?_
  refine rg_nil ?_
  refine qg_then ?_
  refine cg_seq ?_
  refine cg_region ?_
  refine rg_q (.inl rfl) rfl rfl (by exact QW.qr (qw_move rfl)) ?_
  refine rg_q (.inl rfl) rfl rfl (by exact QW.qr (qw_neq_t rfl rfl (by decide))) ?_
  refine rg_nil ?_
  refine qg_then ?_
  refine cg_true rfl ?_
  refine cg_seq ?_
  refine cg_region ?_
  refine rg_q (.inl rfl) rfl rfl (by exact QW.qr (qw_move rfl)) ?_
  refine rg_q (.inl rfl) rfl rfl (by exact QW.qr (qw_assign rfl)) ?_
  refine rg_nil ?_
  refine qg_then ?_
  refine cg_ret ?_
  refine qg_then_ret ?_
  exact qg_end (.inl rfl) _ (.cons (.tmp rfl) (.nil)) _ (by repeat (first | exact List.Sublist.refl _ | exact List.nil_sublist _ | exact List.sublist_append_right _ _ | apply List.Sublist.cons_cons | apply List.Sublist.cons | refine List.Sublist.trans ?_ (List.sublist_append_right _ _))) ⟨rfl, rfl⟩

theorem compact_nil (O : Out) (L : List Blk) : CA Tryz.prog 106 [.pointer none] O L fun v L' => v = I 2 ∧ L' = L := by
  refine ca_enter Tryz.func106 rfl rfl ?_
  rw [Tryz.ntmps106]
  simp only [envOf]
  refine cg_seq ?_
  refine cg_region ?_
  refine rg_q (.inl rfl) rfl rfl (by exact QW.qr (qw_assign rfl)) ?_
  refine rg_nil ?_
  refine qg_then ?_
  refine cg_seq ?_
  refine cg_seq ?_
  refine cg_region ?_
  refine rg_q (.inl rfl) rfl rfl (by exact QW.qr (qw_move rfl)) ?_
  refine rg_e (.inl rfl) rfl rfl (by exact ev_call0 rfl (.cons rfl (.nil)) (up_nil O _)) ?_
  rintro _ _ ⟨rfl, rfl⟩
  refine rg_q (.inl rfl) rfl rfl (by exact QW.qr (qw_assign rfl)) ?_
  refine rg_nil ?_
  refine qg_then ?_
  refine cg_seq ?_
  refine cg_region ?_
  refine rg_q (.inl rfl) rfl rfl (by exact QW.qr (qw_move rfl)) ?_
  refine rg_q (.inl rfl) rfl rfl (by exact QW.qr (qw_neq_t rfl rfl (by decide))) ?_
  refine rg_nil ?_
  refine qg_then ?_
  refine cg_true rfl ?_
  refine cg_seq ?_
  refine cg_region ?_
  refine rg_q (.inl rfl) rfl rfl (by exact QW.qr (qw_move rfl)) ?_
  refine rg_q (.inl rfl) rfl rfl (by exact QW.qr (qw_assign rfl)) ?_
  refine rg_nil ?_
  refine qg_then ?_
  refine cg_ret ?_
  refine qg_then_ret ?_
  exact qg_end (.inl rfl) _ (.cons (.tmp rfl) (.nil)) _ (by repeat (first | exact List.Sublist.refl _ | exact List.nil_sublist _ | exact List.sublist_append_right _ _ | apply List.Sublist.cons_cons | apply List.Sublist.cons | refine List.Sublist.trans ?_ (List.sublist_append_right _ _))) ⟨rfl, rfl⟩

theorem names_nil (O : Out) (L : List Blk) : CA Tryz.prog 57 [.pointer none] O L fun v L' => v = .slice none 0 0 ∧ L' = L := by
  refine ca_enter Tryz.func57 rfl rfl ?_
  rw [Tryz.ntmps57]
  simp only [envOf]
  refine cg_seq ?_
  refine cg_region ?_
  refine rg_q (.inl rfl) rfl rfl (by exact QW.qr (qw_assign rfl)) ?_
  refine rg_nil ?_
  refine qg_then ?_
  refine cg_seq ?_
  refine cg_seq ?_
  refine cg_region ?_
  refine rg_q (.inl rfl) rfl rfl (by exact QW.qr (qw_move rfl)) ?_
  refine rg_q (.inl rfl) rfl rfl (by exact QW.qr (qw_eql_nil (e := 245) rfl rfl)) ?_
  refine rg_nil ?_
  refine qg_then ?_
  refine cg_true rfl ?_
  refine cg_seq ?_
  refine cg_region ?_
  refine rg_q (.inl rfl) rfl rfl (by exact QW.qr (qw_assign rfl)) ?_
  refine rg_nil ?_
  refine qg_then ?_
  refine cg_ret ?_
  refine qg_then_ret ?_
  exact qg_end (.inl rfl) _ (.cons (.tmp rfl) (.nil)) _ (by repeat (first | exact List.Sublist.refl _ | exact List.nil_sublist _ | exact List.sublist_append_right _ _ | apply List.Sublist.cons_cons | apply List.Sublist.cons | refine List.Sublist.trans ?_ (List.sublist_append_right _ _))) ⟨rfl, rfl⟩

theorem get_nil (nv : Value) (O : Out) (L : List Blk) : CA Tryz.prog 58 [.pointer none, nv] O L fun v L' => v = .tuple #[.slice none 0 0, .bool false] ∧ L' = L := by
  refine ca_enter Tryz.func58 rfl rfl ?_
  rw [Tryz.ntmps58]
  simp only [envOf]
  refine cg_seq ?_
  refine cg_region ?_
  refine rg_q (.inl rfl) rfl rfl (by exact QW.qr (qw_assign rfl)) ?_
  refine rg_q (.inl rfl) rfl rfl (by exact QW.qr (qw_assign rfl)) ?_
  refine rg_nil ?_
  refine qg_then ?_
  refine cg_seq ?_
  refine cg_seq ?_
  refine cg_region ?_
  refine rg_q (.inl rfl) rfl rfl (by exact QW.qr (qw_move rfl)) ?_
  refine rg_q (.inl rfl) rfl rfl (by exact QW.qr (qw_eql_nil (e := 245) rfl rfl)) ?_
  refine rg_nil ?_
  refine qg_then ?_
  refine cg_true rfl ?_
  refine cg_seq ?_
  refine cg_region ?_
  refine rg_q (.inl rfl) rfl rfl (by exact QW.qr (qw_assign rfl)) ?_
  refine rg_q (.inl rfl) rfl rfl (by exact QW.qr (qw_assign rfl)) ?_
  refine rg_nil ?_
  refine qg_then ?_
  refine cg_ret ?_
  refine qg_then_ret ?_
  exact qg_end (.inl rfl) _ (.cons (.tmp rfl) (.cons (.tmp rfl) (.nil))) _ (by repeat (first | exact List.Sublist.refl _ | exact List.nil_sublist _ | exact List.sublist_append_right _ _ | apply List.Sublist.cons_cons | apply List.Sublist.cons | refine List.Sublist.trans ?_ (List.sublist_append_right _ _))) ⟨rfl, rfl⟩

theorem keys_ca (bm : Nat) (O : Out) (L : List Blk) : CA Tryz.prog 130 [.map (some bm)] O L fun v L' => ∃ bk, v = .func (.func 192) #[] #[.pointer (some ⟨bk, 0, none⟩)] ∧ L' = (bk, .cells #[.map (some bm)] 243 (0, 0)) :: L := by
  refine ca_enter Tryz.func130 rfl rfl ?_
  rw [Tryz.ntmps130]
  simp only [envOf]
  refine cg_seq ?_
  refine cg_region ?_
  refine rg_e (.inl rfl) rfl rfl (by exact ev_box rfl (by first | exact CellsOf.agg | exact CellsOf.one rfl)) ?_
  rintro _ _ ⟨b1, rfl, rfl⟩
  refine rg_q (.inl rfl) rfl rfl (by exact QW.qr (qw_assign rfl)) ?_
  refine rg_nil ?_
  refine qg_then ?_
  refine cg_seq ?_
  refine cg_region ?_
  refine rg_q (.inl rfl) rfl rfl (by exact QW.qr (qw_makeFunc (.nil) (.cons rfl (.nil)))) ?_
  refine rg_q (.inl rfl) rfl rfl (by exact QW.qr (qw_assign rfl)) ?_
  refine rg_nil ?_
  refine qg_then ?_
  refine cg_ret ?_
  exact qg_end (.inl rfl) _ (.cons (.tmp rfl) (.nil)) _ (List.Sublist.refl _) ⟨b1, rfl, rfl⟩

theorem names_ca (bl ba bo : Nat) (l : Lb) (K : List Blk) (O : Out) (F : List Blk) (hl : LbAt bl ba bo l K) (hsz : l.has.length ≤ 1000000) (hlen : ∀ t ∈ l.has, t.1.length ≤ 1000000) :
    CA Tryz.prog 57 [PT bl] O (cat [K] F) fun v L' => ∃ B, OwnL 9 encN 1 v (namesOf l.has) B ∧ L' = B ++ cat [K] F := by
  obtain ⟨b0, b1, bm, es, c, ms, Bv, hon, hms, hva, hpl, rfl⟩ := id hl
  rw [lb_open]
  have hsz2 : ms.length ≤ 1000000 := by
    have := congrArg List.length (plain_keys ms)
    rw [List.length_map, List.length_map, hpl] at this
    omega
  have hlen2 : ∀ t ∈ ms, t.1.length ≤ 1000000 := by
    intro t ht
    exact hlen (t.1, t.2.1) (by rw [← hpl]; exact List.mem_map.2 ⟨t, ht, rfl⟩)
  rw [← hpl, plain_names]
  refine ca_enter Tryz.func57 rfl rfl ?_
  rw [Tryz.ntmps57]
  simp only [envOf]
  refine cg_seq ?_
  refine cg_region ?_
  refine rg_q (.inl rfl) rfl rfl (by exact QW.qr (qw_assign rfl)) ?_
  refine rg_nil ?_
  refine qg_then ?_
  refine cg_seq ?_
  refine cg_seq ?_
  refine cg_region ?_
  refine rg_q (.inl rfl) rfl rfl (by exact QW.qr (qw_move rfl)) ?_
  refine rg_q (.inl rfl) rfl rfl (by exact QW.qr (qw_eql_ptr (e := 245) rfl rfl)) ?_
  refine rg_nil ?_
  refine qg_then ?_
  refine cg_false rfl ?_
  refine cg_skip ?_
  refine qg_then ?_
  refine cg_seq ?_
  unfold lbBlk PT
  refine cg_region ?_
  refine rg_q (.inl rfl) rfl rfl (by exact QW.qr (qw_move rfl)) ?_
  refine rg_q (.inl rfl) rfl rfl (by exact QW.qr (qw_nilCheck rfl)) ?_
  refine rg_q (.inl rfl) rfl rfl (by exact QW.qr (qw_fieldAddr rfl)) ?_
  refine rg_q (.inl rfl) rfl rfl (by exact qr_load1 rfl (by repeat (first | exact List.Mem.head _ | apply List.Mem.tail | apply List.mem_append_right | assumption)) rfl) ?_
  refine rg_e (.inl rfl) rfl rfl (by exact ev_call0 rfl (.cons rfl (.nil)) (keys_ca bm O _)) ?_
  rintro _ _ ⟨bk, rfl, rfl⟩
  refine rg_e (.inl rfl) rfl rfl (by exact ev_call0 rfl (.cons rfl (.nil)) (sorted_ca (bk := bk) (bm := bm) (val := vOf) (ms := ms) O _ (List.Mem.head _) (by repeat (first | exact List.Mem.head _ | apply List.Mem.tail | apply List.mem_append_right | assumption)) hms hsz2 hlen2)) ?_
  rintro nv _ ⟨B, ho, rfl⟩
  refine rg_q (.inl rfl) rfl rfl (by exact QW.qr (qw_assign rfl)) ?_
  refine rg_nil ?_
  refine qg_then ?_
  refine cg_ret ?_
  exact qg_end_sp (.inl rfl) _ (.cons (.tmp rfl) (.nil)) _ (cat_sub (ls' := [B, [(bl, _)], [(bm, _)], Bv]) (ls := [B, [(bk, _)], [(bl, _)], [(bm, _)], Bv]) (by repeat (first | exact SubM.nil | refine SubM.cons (by repeat (first | exact Ins.here | apply Ins.there)) ?_))) ⟨B, ho, rfl⟩

theorem get_some (bl b0 b1 bm : Nat) (l : Lb) (es : Array MapEntry) (c : Nat) (ms : List (Bytes × (Bytes × Value))) (Bv : List Blk) (name : Bytes) (g : Bytes × Value) (hgs : getG ms name = some g) (hgl : g.1.length ≤ 1000000) (hms : MapS es c vOf ms) (hva : ValsAt Bv ms) (O : Out) (F : List Blk) :
    CA Tryz.prog 58 [PT bl, encStr name] O (cat [[lbBlk bl b0 b1 bm l], [(bm, .map es c)], Bv] F) fun v L' => ∃ gv B, v = .tuple #[gv, .bool true] ∧ L' = B ++ cat [[lbBlk bl b0 b1 bm l], [(bm, .map es c)], Bv] F ∧ RdL B encB 1 gv g.1 := by
  have hrd : RdL Bv encB 1 (vOf g) g.1 := hva (name, g) ((getG_some hms.nd).1 hgs)
  obtain ⟨pg, cg, hge, _⟩ := id hrd
  unfold lbBlk PT
  refine ca_enter Tryz.func58 rfl rfl ?_
  rw [Tryz.ntmps58]
  simp only [envOf]
  refine cg_seq ?_
  refine cg_region ?_
  refine rg_q (.inl rfl) rfl rfl (by exact QW.qr (qw_assign rfl)) ?_
  refine rg_q (.inl rfl) rfl rfl (by exact QW.qr (qw_assign rfl)) ?_
  refine rg_nil ?_
  refine qg_then ?_
  refine cg_seq ?_
  refine cg_seq ?_
  refine cg_region ?_
  refine rg_q (.inl rfl) rfl rfl (by exact QW.qr (qw_move rfl)) ?_
  refine rg_q (.inl rfl) rfl rfl (by exact QW.qr (qw_eql_ptr (e := 245) rfl rfl)) ?_
  refine rg_nil ?_
  refine qg_then ?_
  refine cg_false rfl ?_
  refine cg_skip ?_
  refine qg_then ?_
  refine cg_seq ?_
  refine cg_region ?_
  refine rg_q (.inl rfl) rfl rfl (by exact QW.qr (qw_move rfl)) ?_
  refine rg_q (.inl rfl) rfl rfl (by exact QW.qr (qw_nilCheck rfl)) ?_
  refine rg_q (.inl rfl) rfl rfl (by exact QW.qr (qw_fieldAddr rfl)) ?_
  refine rg_q (.inl rfl) rfl rfl (by exact qr_load1 rfl (by repeat (first | exact List.Mem.head _ | apply List.Mem.tail | apply List.mem_append_right | assumption)) rfl) ?_
  refine rg_q (.inl rfl) rfl rfl (by exact QW.qr (qw_move rfl)) ?_
  refine rg_q (.inl rfl) rfl rfl (by exact qr_val (qr_lookupS2 (ms := ms) rfl rfl (by repeat (first | exact List.Mem.head _ | apply List.Mem.tail | apply List.mem_append_right | assumption)) hms) (v2 := .tuple #[vOf g, .bool true]) (by rw [hgs]; rfl)) ?_
  refine rg_q (.inl rfl) rfl rfl (by exact QW.qr (qw_move rfl)) ?_
  refine rg_q (.inl rfl) rfl rfl (by exact QW.qr (qw_extract rfl rfl)) ?_
  refine rg_q (.inl rfl) rfl rfl (by exact QW.qr (qw_extract rfl rfl)) ?_
  refine rg_q (.inl rfl) rfl rfl (by exact QW.qr (qw_assign rfl)) ?_
  refine rg_q (.inl rfl) rfl rfl (by exact QW.qr (qw_assign rfl)) ?_
  refine rg_nil ?_
  refine qg_then ?_
  refine cg_seq ?_
  refine cg_region ?_
  refine rg_q (.inl rfl) rfl rfl (by exact QW.qr (qw_move rfl)) ?_
  refine rg_e (.inl rfl) rfl rfl (by exact ev_call0 rfl (.cons rfl (.nil)) (cloneB_ca g.1 _ O _ (hrd.mono (fun q hq => mem_cat (s := Bv) (by repeat (first | exact List.Mem.head _ | apply List.Mem.tail)) hq)) hgl)) ?_
  rintro gv _ ⟨B, ho, rfl⟩
  refine rg_q (.inl rfl) rfl rfl (by exact QW.qr (qw_move rfl)) ?_
  refine rg_q (.inl rfl) rfl rfl (by exact QW.qr (qw_assign rfl)) ?_
  refine rg_q (.inl rfl) rfl rfl (by exact QW.qr (qw_assign rfl)) ?_
  refine rg_nil ?_
  refine qg_then ?_
  refine cg_ret ?_
  exact qg_end (.inl rfl) _ (.cons (.tmp rfl) (.cons (.tmp rfl) (.nil))) _ (List.Sublist.refl _) ⟨gv, B, rfl, rfl, ho.rd (fun _ => rfl) (by decide)⟩

theorem get_none (bl b0 b1 bm : Nat) (l : Lb) (es : Array MapEntry) (c : Nat) (ms : List (Bytes × (Bytes × Value))) (Bv : List Blk) (name : Bytes) (hgs : getG ms name = none)  (hms : MapS es c vOf ms) (hva : ValsAt Bv ms) (O : Out) (F : List Blk) :
    CA Tryz.prog 58 [PT bl, encStr name] O (cat [[lbBlk bl b0 b1 bm l], [(bm, .map es c)], Bv] F) fun v L' => ∃ gv B, v = .tuple #[gv, .bool false] ∧ L' = B ++ cat [[lbBlk bl b0 b1 bm l], [(bm, .map es c)], Bv] F ∧ RdL B encB 1 gv [] := by
  unfold lbBlk PT
  refine ca_enter Tryz.func58 rfl rfl ?_
  rw [Tryz.ntmps58]
  simp only [envOf]
  refine cg_seq ?_
  refine cg_region ?_
  refine rg_q (.inl rfl) rfl rfl (by exact QW.qr (qw_assign rfl)) ?_
  refine rg_q (.inl rfl) rfl rfl (by exact QW.qr (qw_assign rfl)) ?_
  refine rg_nil ?_
  refine qg_then ?_
  refine cg_seq ?_
  refine cg_seq ?_
  refine cg_region ?_
  refine rg_q (.inl rfl) rfl rfl (by exact QW.qr (qw_move rfl)) ?_
  refine rg_q (.inl rfl) rfl rfl (by exact QW.qr (qw_eql_ptr (e := 245) rfl rfl)) ?_
  refine rg_nil ?_
  refine qg_then ?_
  refine cg_false rfl ?_
  refine cg_skip ?_
  refine qg_then ?_
  refine cg_seq ?_
  refine cg_region ?_
  refine rg_q (.inl rfl) rfl rfl (by exact QW.qr (qw_move rfl)) ?_
  refine rg_q (.inl rfl) rfl rfl (by exact QW.qr (qw_nilCheck rfl)) ?_
  refine rg_q (.inl rfl) rfl rfl (by exact QW.qr (qw_fieldAddr rfl)) ?_
  refine rg_q (.inl rfl) rfl rfl (by exact qr_load1 rfl (by repeat (first | exact List.Mem.head _ | apply List.Mem.tail | apply List.mem_append_right | assumption)) rfl) ?_
  refine rg_q (.inl rfl) rfl rfl (by exact QW.qr (qw_move rfl)) ?_
  refine rg_q (.inl rfl) rfl rfl (by exact qr_val (qr_lookupS2 (ms := ms) rfl rfl (by repeat (first | exact List.Mem.head _ | apply List.Mem.tail | apply List.mem_append_right | assumption)) hms) (v2 := .tuple #[.slice none 0 0, .bool false]) (by rw [hgs]; rfl)) ?_
  refine rg_q (.inl rfl) rfl rfl (by exact QW.qr (qw_move rfl)) ?_
  refine rg_q (.inl rfl) rfl rfl (by exact QW.qr (qw_extract rfl rfl)) ?_
  refine rg_q (.inl rfl) rfl rfl (by exact QW.qr (qw_extract rfl rfl)) ?_
  refine rg_q (.inl rfl) rfl rfl (by exact QW.qr (qw_assign rfl)) ?_
  refine rg_q (.inl rfl) rfl rfl (by exact QW.qr (qw_assign rfl)) ?_
  refine rg_nil ?_
  refine qg_then ?_
  refine cg_seq ?_
  refine cg_region ?_
  refine rg_q (.inl rfl) rfl rfl (by exact QW.qr (qw_move rfl)) ?_
  refine rg_e (.inl rfl) rfl rfl (by exact ev_call0 rfl (.cons rfl (.nil)) (cloneB_ca [] _ O _ rdl_nilB (by decide))) ?_
  rintro gv _ ⟨B, ho, rfl⟩
  refine rg_q (.inl rfl) rfl rfl (by exact QW.qr (qw_move rfl)) ?_
  refine rg_q (.inl rfl) rfl rfl (by exact QW.qr (qw_assign rfl)) ?_
  refine rg_q (.inl rfl) rfl rfl (by exact QW.qr (qw_assign rfl)) ?_
  refine rg_nil ?_
  refine qg_then ?_
  refine cg_ret ?_
  exact qg_end (.inl rfl) _ (.cons (.tmp rfl) (.cons (.tmp rfl) (.nil))) _ (List.Sublist.refl _) ⟨gv, B, rfl, rfl, ho.rd (fun _ => rfl) (by decide)⟩

theorem get_ca (bl ba bo : Nat) (l : Lb) (K : List Blk) (name : Bytes) (O : Out) (F : List Blk) (hl : LbAt bl ba bo l K) (hv : ∀ t ∈ l.has, t.2.length ≤ 1000000) :
    CA Tryz.prog 58 [PT bl, encStr name] O (cat [K] F) fun v L' => ∃ gv B, v = .tuple #[gv, .bool (getG l.has name).isSome] ∧ L' = B ++ cat [K] F ∧ RdL B encB 1 gv ((getG l.has name).getD []) := by
  obtain ⟨b0, b1, bm, es, c, ms, Bv, hon, hms, hva, hpl, rfl⟩ := hl
  rw [← hpl, plain_get]
  cases hg : getG ms name with
  | none => exact (get_none bl b0 b1 bm l es c ms Bv name hg hms hva O F)
  | some g => exact (get_some bl b0 b1 bm l es c ms Bv name g hg (hv (name, g.1) (by rw [← hpl]; exact List.mem_map.2 ⟨_, (getG_some hms.nd).1 hg, rfl⟩)) hms hva O F)

end Go.Proofs.YthmicniimofagaaGreat