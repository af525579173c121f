/-
  THE WALKS of the document's logbook: fail, Put, Drop, Sync, Compact. Conditions: sizes.
-/
import Derived.Test.YtcbbogaanebefaaB31
namespace Go.Proofs.Ytcbbogaanebefaa
open Fw
open Go.Proofs (encStr)
set_option linter.unusedVariables false
set_option linter.unusedSimpArgs false
set_option maxRecDepth 100000
set_option maxHeartbeats 2000000

def rlbBlk (bl b0 b1 : Nat) (lv : Value) (l : Lb) : Blk := (bl, .cells [PT b0, PT b1, I l.at_, U32 l.life, lv, I l.dead].toArray 91 (0, 0))
/-- The document's logbook in memory: on slab ba, the other one bo. -/
def RLbAt (bl ba bo : Nat) (l : Lb) (K : List Blk) : Prop := ∃ b0 b1 lv Bv, onAt l ba bo b0 b1 ∧ OwnL 100 encE 2 lv (srt l.has) Bv ∧ K = rlbBlk bl b0 b1 lv l :: Bv
theorem rlb_open {x : Blk} {Bv : List Blk} {l : List (List Blk)} {F : List Blk} : cat ((x :: Bv) :: l) F = cat ([x] :: Bv :: l) F := rfl
theorem ronAt_get {l : Lb} {ba bo b0 b1 : Nat} {lv : Value} (h : onAt l ba bo b0 b1) : [PT b0, PT b1, I l.at_, U32 l.life, lv, I l.dead][0 + (0 : Nat) + l.at_.toNat * 1]? = some (PT ba) ∧ [PT b0, PT b1, I l.at_, U32 l.life, lv, I l.dead][0 + (0 : Nat) + (1 - l.at_).toNat * 1]? = some (PT bo) ∧ 0 ≤ l.at_ ∧ l.at_ < 2 := by
  rcases h with ⟨h, rfl, rfl⟩ | ⟨h, rfl, rfl⟩ <;> rw [h] <;> exact ⟨rfl, rfl, by decide, by decide⟩

theorem rfail_ca (bl b0 b1 : Nat) (lv : Value) (l : Lb) (e : Int) (O : Out) (L : List Blk) : CA Try.prog 50 [PT bl, I e] O (rlbBlk bl b0 b1 lv l :: L) fun v L' => v = I e ∧ L' = rlbBlk bl b0 b1 lv (failL l e) :: L := by
  unfold rlbBlk PT
  refine ca_enter Try.func50 rfl rfl ?_
  rw [Try.ntmps50]
  simp only [envOf]
  refine cg_seq ?_
  refine cg_region ?_
  refine rg_q (.inl rfl) rfl rfl (by exact QW.qr (qw_assign rfl)) ?_
  refine rg_nil ?_
  refine qg_then ?_
  refine cg_seq ?_
  refine cg_seq ?_
  refine cg_region ?_
  refine rg_q (.inl rfl) rfl rfl (by exact QW.qr (qw_move rfl)) ?_
  refine rg_split (.inl rfl) rfl rfl (by exact qc_neq rfl rfl) ?_ ?_
  · intro he
    have hfin : failL l e = ⟨l.at_, l.life, l.has, e⟩ := by rw [failL, if_pos he]
    refine rg_nil ?_
    refine qg_then ?_
    refine cg_true rfl ?_
    refine cg_region ?_
    refine rg_q (.inl rfl) rfl rfl (by exact QW.qr (qw_move rfl)) ?_
    refine rg_q (.inl rfl) rfl rfl (by exact QW.qr (qw_move rfl)) ?_
    refine rg_q (.inl rfl) rfl rfl (by exact QW.qr (qw_nilCheck rfl)) ?_
    refine rg_q (.inl rfl) rfl rfl (by exact QW.qr (qw_fieldAddr rfl)) ?_
    refine rg_e0 (.inl rfl) rfl (by exact ev_store rfl rfl (by first | exact CellsOf.agg | exact CellsOf.one rfl) (by repeat (first | exact List.Mem.head _ | apply List.Mem.tail | apply List.mem_append_right | assumption)) (by repeat (first | exact SetSeg.done | apply SetSeg.take | apply SetSeg.skip)) rfl rfl (by repeat (first | exact Upd.here | apply Upd.there | apply Upd.app)) (by first | exact Or.inl ⟨inferInstance, rfl⟩ | exact Or.inr inferInstance)) ?_
    rintro _ _ ⟨rfl, rfl⟩
    refine rg_nil ?_
    refine qg_then ?_
    refine cg_seq ?_
    refine cg_region ?_
    refine rg_q (.inl rfl) rfl rfl (by exact QW.qr (qw_move rfl)) ?_
    refine rg_q (.inl rfl) rfl rfl (by exact QW.qr (qw_assign rfl)) ?_
    refine rg_nil ?_
    refine qg_then ?_
    refine cg_ret ?_
    exact qg_end (.inl rfl) _ (.cons (.tmp rfl) (.nil)) _ (List.Sublist.refl _) ⟨rfl, by rw [hfin] <;> rfl⟩
  · intro he
    have hfin : failL l e = l := by rw [failL, if_neg he]
    refine rg_nil ?_
    refine qg_then ?_
    refine cg_false rfl ?_
    refine cg_skip ?_
    refine qg_then ?_
    refine cg_seq ?_
    refine cg_region ?_
    refine rg_q (.inl rfl) rfl rfl (by exact QW.qr (qw_move rfl)) ?_
    refine rg_q (.inl rfl) rfl rfl (by exact QW.qr (qw_assign rfl)) ?_
    refine rg_nil ?_
    refine qg_then ?_
    refine cg_ret ?_
    exact qg_end (.inl rfl) _ (.cons (.tmp rfl) (.nil)) _ (List.Sublist.refl _) ⟨rfl, by rw [hfin] <;> rfl⟩

theorem rput_ca (bl ba bo : Nat) (l : Lb) (sa : Slab) (K Ka : List Blk) (name val : Bytes) (O : Out) (F : List Blk) (hl : RLbAt bl ba bo l K) (hs : RSlabAt ba sa Ka) (hsz : sa.sure.length + sa.loose.length ≤ 300000) (hnd : (l.has.map Prod.fst).Nodup) (hcnt : l.has.length ≤ 300000) :
    CA Try.prog 24 [PT bl, encStr name, encStr val] O (cat [K, Ka] F) fun v L' => v = I (putL l sa name val).2.2 ∧ ∃ K2 Ka2, L' = cat [K2, Ka2] F ∧ RLbAt bl ba bo (putL l sa name val).1 K2 ∧ RSlabAt ba (putL l sa name val).2.1 Ka2 := by
  obtain ⟨b0, b1, lv, Bv, hon, hown, rfl⟩ := id hl
  rw [rlb_open]
  obtain ⟨hga, hgo, ha0, ha2⟩ := ronAt_get (lv := lv) hon
  unfold rlbBlk PT
  refine ca_enter Try.func24 rfl rfl ?_
  rw [Try.ntmps24]
  simp only [envOf]
  refine cg_seq ?_
  refine cg_region ?_
  refine rg_q (.inl rfl) rfl rfl (by exact QW.qr (qw_assign rfl)) ?_
  refine rg_nil ?_
  refine qg_then ?_
  refine cg_seq ?_
  refine cg_seq ?_
  refine cg_region ?_
  refine rg_q (.inl rfl) rfl rfl (by exact QW.qr (qw_move rfl)) ?_
  refine rg_q (.inl rfl) rfl rfl (by exact QW.qr (qw_nilCheck rfl)) ?_
  refine rg_q (.inl rfl) rfl rfl (by exact QW.qr (qw_fieldAddr rfl)) ?_
  refine rg_q (.inl rfl) rfl rfl (by exact qr_load1 rfl (by repeat (first | exact List.Mem.head _ | apply List.Mem.tail | apply List.mem_append_right | assumption)) rfl) ?_
  refine rg_split (.inl rfl) rfl rfl (by exact qc_neq rfl rfl) ?_ ?_
  · intro hd
    have hfin : putL l sa name val = (l, sa, l.dead) := by rw [putL, if_pos hd]
    refine rg_nil ?_
    refine qg_then ?_
    refine cg_true rfl ?_
    refine cg_seq ?_
    refine cg_region ?_
    refine rg_q (.inl rfl) rfl rfl (by exact QW.qr (qw_move rfl)) ?_
    refine rg_q (.inl rfl) rfl rfl (by exact QW.qr (qw_nilCheck rfl)) ?_
    refine rg_q (.inl rfl) rfl rfl (by exact QW.qr (qw_fieldAddr rfl)) ?_
    refine rg_q (.inl rfl) rfl rfl (by exact qr_load1 rfl (by repeat (first | exact List.Mem.head _ | apply List.Mem.tail | apply List.mem_append_right | assumption)) rfl) ?_
    refine rg_q (.inl rfl) rfl rfl (by exact QW.qr (qw_assign rfl)) ?_
    refine rg_nil ?_
    refine qg_then ?_
    refine cg_ret ?_
    refine qg_then_ret ?_
    exact qg_end (.inl rfl) _ (.cons (.tmp rfl) (.nil)) _ (List.Sublist.refl _) ⟨by rw [hfin] <;> rfl, _, Ka, rfl, by rw [hfin]; exact hl, by rw [hfin]; exact hs⟩
  · intro hd
    refine rg_nil ?_
    refine qg_then ?_
    refine cg_false rfl ?_
    refine cg_skip ?_
    refine qg_then ?_
    refine cg_seq ?_
    refine cg_seq ?_
    refine cg_region ?_
    refine rg_q (.inl rfl) rfl rfl (by exact QW.qr (qw_move rfl)) ?_
    refine rg_q (.inl rfl) rfl rfl (by exact QW.qr (qw_len_enc (t := 9) (.cons rfl .nil) rfl)) ?_
    refine rg_split (.inl rfl) rfl rfl (by exact qc_gtr rfl rfl) ?_ ?_
    · intro h1
      have hfin : putL l sa name val = (l, sa, 8) := by rw [putL, if_neg hd, if_pos (.inl h1)]
      refine rg_q (.inl rfl) rfl rfl (by exact QW.qr (qw_move rfl)) ?_
      refine rg_s (guard_mk rfl rfl rfl rfl) rfl rfl ?_
      refine rg_s (guard_mk rfl rfl rfl rfl) rfl rfl ?_
      refine rg_s (guard_mk rfl rfl rfl rfl) rfl rfl ?_
      refine rg_q (.inl rfl) rfl rfl (by exact QW.qr (qw_pick_t rfl rfl)) ?_
      refine rg_nil ?_
      refine qg_then ?_
      refine cg_true rfl ?_
      refine cg_seq ?_
      refine cg_region ?_
      refine rg_q (.inl rfl) rfl rfl (by exact QW.qr (qw_assign rfl)) ?_
      refine rg_nil ?_
      refine qg_then ?_
      refine cg_ret ?_
      refine qg_then_ret ?_
      exact qg_end (.inl rfl) _ (.cons (.tmp rfl) (.nil)) _ (List.Sublist.refl _) ⟨by rw [hfin] <;> rfl, _, Ka, rfl, by rw [hfin]; exact hl, by rw [hfin]; exact hs⟩
    · intro h1
      refine rg_q (.inl rfl) rfl rfl (by exact QW.qr (qw_move rfl)) ?_
      refine rg_q (.inr (guard_mk rfl rfl rfl rfl)) rfl rfl (by exact QW.qr (qw_move rfl)) ?_
      refine rg_q (.inr (guard_mk rfl rfl rfl rfl)) rfl rfl (by exact QW.qr (qw_len_enc (t := 9) (.cons rfl .nil) rfl)) ?_
      refine rg_split (.inr (guard_mk rfl rfl rfl rfl)) rfl rfl (by exact qc_gtr rfl rfl) ?_ ?_
      · intro h2
        have hfin : putL l sa name val = (l, sa, 8) := by rw [putL, if_neg hd, if_pos (.inr h2)]
        refine rg_q (.inl rfl) rfl rfl (by exact QW.qr (qw_pick_f rfl rfl)) ?_
        refine rg_nil ?_
        refine qg_then ?_
        refine cg_true rfl ?_
        refine cg_seq ?_
        refine cg_region ?_
        refine rg_q (.inl rfl) rfl rfl (by exact QW.qr (qw_assign rfl)) ?_
        refine rg_nil ?_
        refine qg_then ?_
        refine cg_ret ?_
        refine qg_then_ret ?_
        exact qg_end (.inl rfl) _ (.cons (.tmp rfl) (.nil)) _ (List.Sublist.refl _) ⟨by rw [hfin] <;> rfl, _, Ka, rfl, by rw [hfin]; exact hl, by rw [hfin]; exact hs⟩
      · intro h2
        have h12 : ¬ ((name.length : Int) > 255 ∨ (val.length : Int) > 4096) := by omega
        have hrl := recF_len 2 name val
        refine rg_q (.inl rfl) rfl rfl (by exact QW.qr (qw_pick_f rfl rfl)) ?_
        refine rg_nil ?_
        refine qg_then ?_
        refine cg_false rfl ?_
        refine cg_skip ?_
        refine qg_then ?_
        refine cg_seq ?_
        refine cg_draw follows (.op 0 false (.op 1 false (.op 2 false (.op 3 false (.op 4 false (.op 5 false (.op 6 false (.op 7 false (.op 8 false (.op 9 false (.op 10 false (.op 11 true (.op 12 false (.op 13 false .done)))))))))))))) _ (by kernel_rfl) (SubP.of (List.Sublist.refl _)) ?_
        refine dg_w rfl rfl (.inl rfl) rfl rfl (by exact qw_move rfl) ?_
        refine dg_w rfl rfl (.inl rfl) rfl rfl (by exact qw_move rfl) ?_
        refine dg_w rfl rfl (.inl rfl) rfl rfl (by exact qw_nilCheck rfl) ?_
        refine dg_w rfl rfl (.inl rfl) rfl rfl (by exact qw_fieldAddr rfl) ?_
        refine dg_r rfl rfl rfl (.inl rfl) rfl rfl (by exact qr_load1 rfl (by repeat (first | exact List.Mem.head _ | apply List.Mem.tail | apply List.mem_append_right | assumption)) rfl) ?_
        refine dg_w rfl rfl (.inl rfl) rfl rfl (by exact qw_nilCheck rfl) ?_
        refine dg_w rfl rfl (.inl rfl) rfl rfl (by exact qw_fieldAddr rfl) ?_
        refine dg_w rfl rfl (.inl rfl) rfl rfl (by exact qw_indexAddr_arr rfl rfl (by omega) (by omega)) ?_
        refine dg_r rfl rfl rfl (.inl rfl) rfl rfl (by exact qr_load1 rfl (by repeat (first | exact List.Mem.head _ | apply List.Mem.tail | apply List.mem_append_right | assumption)) (by exact hga)) ?_
        refine dg_w rfl rfl (.inl rfl) rfl rfl (by exact qw_move rfl) ?_
        refine dg_w rfl rfl (.inl rfl) rfl rfl (by exact qw_move rfl) ?_
        refine dg_e rfl rfl (.inl rfl) rfl rfl (by exact ev_call0 rfl (.cons rfl (.cons rfl (.cons rfl (.nil)))) (rrecord_ca 2 name val (by omega) (by omega) O _)) ?_
        rintro rv _ ⟨Br, ho, rfl⟩
        refine ⟨(SubP.of (by repeat (first | exact List.Sublist.refl _ | exact List.nil_sublist _ | exact List.sublist_append_right _ _ | apply List.Sublist.cons_cons | apply List.Sublist.cons | refine List.Sublist.trans ?_ (List.sublist_append_right _ _)))), ?_⟩
        refine dg_g rfl rfl (.inl rfl) rfl rfl (by exact ev_call0 rfl (.cons rfl (.cons rfl (.nil))) ((rappend_ca ba sa Ka (recF 2 name val) _ O (cat [Br, [rlbBlk bl b0 b1 lv l], Bv] F) hs ((ho.rd (fun _ => rfl) (by decide)).mono (fun q hq => mem_cat (s := Br) (by repeat (first | exact List.Mem.head _ | apply List.Mem.tail)) hq)) hsz (by omega)).pre (fun w h => h.perm (cat_perm (ls' := [Ka, Br, [rlbBlk bl b0 b1 lv l], Bv]) (ls := [Br, [rlbBlk bl b0 b1 lv l], Bv, Ka]) (by repeat (first | exact PermM.nil | refine PermM.cons (by repeat (first | exact Ins.here | apply Ins.there)) ?_)))))) ?_
        rintro _ _ ⟨rfl, Ka2, rfl, hs2⟩
        generalize hr : appendS sa (recF 2 name val) = r at hs2 ⊢
        obtain ⟨s2, e⟩ := r
        refine dg_w rfl rfl (.inl rfl) rfl rfl (by exact qw_assign rfl) ?_
        refine dg_nil ?_
        refine qg_then ?_
        refine cg_seq ?_
        refine cg_seq ?_
        refine cg_region ?_
        refine rg_q (.inl rfl) rfl rfl (by exact QW.qr (qw_move rfl)) ?_
        refine rg_split (.inl rfl) rfl rfl (by exact qc_eql rfl rfl) ?_ ?_
        · intro he
          obtain rfl := he
          have hfin : putL l sa name val = (⟨l.at_, l.life, putG l.has name val, l.dead⟩, s2, 0) := by rw [putL, if_neg hd, if_neg h12, hr, if_neg (fun h => h rfl)]
          replace hs2 : RSlabAt ba s2 Ka2 := hs2
          have hsl := srt_len l.has
          refine rg_nil ?_
          refine qg_then ?_
          refine cg_true rfl ?_
          unfold rlbBlk PT
          refine cg_region ?_
          refine rg_q (.inl rfl) rfl rfl (by exact QW.qr (qw_move rfl)) ?_
          refine rg_q (.inl rfl) rfl rfl (by exact QW.qr (qw_move rfl)) ?_
          refine rg_q (.inl rfl) rfl rfl (by exact QW.qr (qw_nilCheck rfl)) ?_
          refine rg_q (.inl rfl) rfl rfl (by exact QW.qr (qw_fieldAddr rfl)) ?_
          refine rg_q (.inl rfl) rfl rfl (by exact qr_load1 rfl (by repeat (first | exact List.Mem.head _ | apply List.Mem.tail | apply List.mem_append_right | assumption)) rfl) ?_
          refine rg_q (.inl rfl) rfl rfl (by exact QW.qr (qw_move rfl)) ?_
          refine rg_q (.inl rfl) rfl rfl (by exact QW.qr (qw_move rfl)) ?_
          refine rg_q (.inl rfl) rfl rfl (by exact QW.qr (qw_build (.cons rfl (.cons rfl (.nil))) rfl (.cons rfl (by first | exact CellsOf.agg | exact CellsOf.one rfl) (by repeat (first | exact SetSeg.done | apply SetSeg.take | apply SetSeg.skip)) (by rfl) (by rfl) (.cons rfl (by first | exact CellsOf.agg | exact CellsOf.one rfl) (by repeat (first | exact SetSeg.done | apply SetSeg.take | apply SetSeg.skip)) (by rfl) (by rfl) (.nil))))) ?_
          refine rg_e (.inl rfl) rfl rfl (by exact ev_call0 rfl (.cons rfl (.cons rfl (.nil))) (rputE_ca (name, val) (srt l.has) lv O _ ((hown.rd (fun _ => rfl) (by decide)).mono (fun q hq => mem_cat (ls := [Ka2, Br, [_], Bv]) (s := Bv) (by repeat (first | exact List.Mem.head _ | apply List.Mem.tail)) hq)) (by omega))) ?_
          rintro lv2 _ ⟨B2, hown2, rfl⟩
          rw [srt_put _ hnd] at hown2
          obtain ⟨p2, c2, rfl, _⟩ := id (hown2.rd (fun _ => rfl) (by decide))
          refine rg_q (.inl rfl) rfl rfl (by exact QW.qr (qw_nilCheck rfl)) ?_
          refine rg_q (.inl rfl) rfl rfl (by exact QW.qr (qw_fieldAddr rfl)) ?_
          refine rg_e0 (.inl rfl) rfl (by exact ev_store rfl rfl (by first | exact CellsOf.agg | exact CellsOf.one rfl) (by repeat (first | exact List.Mem.head _ | apply List.Mem.tail | apply List.mem_append_right | assumption)) (by repeat (first | exact SetSeg.done | apply SetSeg.take | apply SetSeg.skip)) rfl rfl (by repeat (first | exact Upd.here | apply Upd.there | apply Upd.app)) (by first | exact Or.inl ⟨inferInstance, rfl⟩ | exact Or.inr inferInstance)) ?_
          rintro _ _ ⟨rfl, rfl⟩
          refine rg_nil ?_
          refine qg_then ?_
          refine cg_seq ?_
          refine cg_region ?_
          refine rg_q (.inl rfl) rfl rfl (by exact QW.qr (qw_move rfl)) ?_
          refine rg_q (.inl rfl) rfl rfl (by exact QW.qr (qw_move rfl)) ?_
          refine rg_e (.inl rfl) rfl rfl (by exact ev_call0 rfl (.cons rfl (.cons rfl (.nil))) ((rfail_ca bl b0 b1 _ ⟨l.at_, l.life, putG l.has name val, l.dead⟩ 0 O _).pre (fun w h => h.perm (cat_perm (ls' := [[rlbBlk bl b0 b1 _ ⟨l.at_, l.life, putG l.has name val, l.dead⟩], B2, Ka2, Br, Bv]) (ls := [B2, Ka2, Br, [rlbBlk bl b0 b1 _ ⟨l.at_, l.life, putG l.has name val, l.dead⟩], Bv]) (by repeat (first | exact PermM.nil | refine PermM.cons (by repeat (first | exact Ins.here | apply Ins.there)) ?_)))))) ?_
          rintro _ _ ⟨rfl, rfl⟩
          rw [failL_zero]
          refine rg_q (.inl rfl) rfl rfl (by exact QW.qr (qw_assign rfl)) ?_
          refine rg_nil ?_
          refine qg_then ?_
          refine cg_ret ?_
          exact qg_end_sp (.inl rfl) _ (.cons (.tmp rfl) (.nil)) _ (cat_sub (ls' := [[_], B2, Ka2]) (ls := [[_], B2, Ka2, Br, Bv]) (by repeat (first | exact SubM.nil | refine SubM.cons (by repeat (first | exact Ins.here | apply Ins.there)) ?_))) ⟨by rw [hfin] <;> rfl, _, Ka2, rfl, by rw [hfin]; exact ⟨b0, b1, _, B2, hon, hown2, rfl⟩, by rw [hfin]; exact hs2⟩
        · intro he
          have hfin : putL l sa name val = (failL l e, s2, e) := by rw [putL, if_neg hd, if_neg h12, hr, if_pos he]
          replace hs2 : RSlabAt ba s2 Ka2 := hs2
          refine rg_nil ?_
          refine qg_then ?_
          refine cg_false rfl ?_
          refine cg_skip ?_
          refine qg_then ?_
          refine cg_seq ?_
          refine cg_region ?_
          refine rg_q (.inl rfl) rfl rfl (by exact QW.qr (qw_move rfl)) ?_
          refine rg_q (.inl rfl) rfl rfl (by exact QW.qr (qw_move rfl)) ?_
          refine rg_e (.inl rfl) rfl rfl (by exact ev_call0 rfl (.cons rfl (.cons rfl (.nil))) ((rfail_ca bl b0 b1 lv l e O _).pre (fun w h => h.perm (cat_perm (ls' := [[rlbBlk bl b0 b1 lv l], Ka2, Br, Bv]) (ls := [Ka2, Br, [rlbBlk bl b0 b1 lv l], Bv]) (by repeat (first | exact PermM.nil | refine PermM.cons (by repeat (first | exact Ins.here | apply Ins.there)) ?_)))))) ?_
          rintro _ _ ⟨rfl, rfl⟩
          refine rg_q (.inl rfl) rfl rfl (by exact QW.qr (qw_assign rfl)) ?_
          refine rg_nil ?_
          refine qg_then ?_
          refine cg_ret ?_
          exact qg_end_sp (.inl rfl) _ (.cons (.tmp rfl) (.nil)) _ (cat_sub (ls' := [[_], Bv, Ka2]) (ls := [[_], Ka2, Br, Bv]) (by repeat (first | exact SubM.nil | refine SubM.cons (by repeat (first | exact Ins.here | apply Ins.there)) ?_))) ⟨by rw [hfin] <;> rfl, _, Ka2, rfl, by rw [hfin]; exact ⟨b0, b1, lv, Bv, hon, hown, rfl⟩, by rw [hfin]; exact hs2⟩

theorem rdrop_ca (bl ba bo : Nat) (l : Lb) (sa : Slab) (K Ka : List Blk) (name : Bytes) (O : Out) (F : List Blk) (hl : RLbAt bl ba bo l K) (hs : RSlabAt ba sa Ka) (hsz : sa.sure.length + sa.loose.length ≤ 300000) (hnd : (l.has.map Prod.fst).Nodup) (hcnt : l.has.length ≤ 300000) (hnl : name.length ≤ 100000) :
    CA Try.prog 25 [PT bl, encStr name] O (cat [K, Ka] F) fun v L' => v = I (dropL l sa name).2.2 ∧ ∃ K2 Ka2, L' = cat [K2, Ka2] F ∧ RLbAt bl ba bo (dropL l sa name).1 K2 ∧ RSlabAt ba (dropL l sa name).2.1 Ka2 := by
  obtain ⟨b0, b1, lv, Bv, hon, hown, rfl⟩ := id hl
  rw [rlb_open]
  obtain ⟨hga, hgo, ha0, ha2⟩ := ronAt_get (lv := lv) hon
  have hsl := srt_len l.has
  unfold rlbBlk PT
  refine ca_enter Try.func25 rfl rfl ?_
  rw [Try.ntmps25]
  simp only [envOf]
  refine cg_seq ?_
  refine cg_region ?_
  refine rg_q (.inl rfl) rfl rfl (by exact QW.qr (qw_assign rfl)) ?_
  refine rg_nil ?_
  refine qg_then ?_
  refine cg_seq ?_
  refine cg_seq ?_
  refine cg_region ?_
  refine rg_q (.inl rfl) rfl rfl (by exact QW.qr (qw_move rfl)) ?_
  refine rg_q (.inl rfl) rfl rfl (by exact QW.qr (qw_nilCheck rfl)) ?_
  refine rg_q (.inl rfl) rfl rfl (by exact QW.qr (qw_fieldAddr rfl)) ?_
  refine rg_q (.inl rfl) rfl rfl (by exact qr_load1 rfl (by repeat (first | exact List.Mem.head _ | apply List.Mem.tail | apply List.mem_append_right | assumption)) rfl) ?_
  refine rg_split (.inl rfl) rfl rfl (by exact qc_neq rfl rfl) ?_ ?_
  · intro hd
    have hfin : dropL l sa name = (l, sa, l.dead) := by rw [dropL, if_pos hd]
    refine rg_nil ?_
    refine qg_then ?_
    refine cg_true rfl ?_
    refine cg_seq ?_
    refine cg_region ?_
    refine rg_q (.inl rfl) rfl rfl (by exact QW.qr (qw_move rfl)) ?_
    refine rg_q (.inl rfl) rfl rfl (by exact QW.qr (qw_nilCheck rfl)) ?_
    refine rg_q (.inl rfl) rfl rfl (by exact QW.qr (qw_fieldAddr rfl)) ?_
    refine rg_q (.inl rfl) rfl rfl (by exact qr_load1 rfl (by repeat (first | exact List.Mem.head _ | apply List.Mem.tail | apply List.mem_append_right | assumption)) rfl) ?_
    refine rg_q (.inl rfl) rfl rfl (by exact QW.qr (qw_assign rfl)) ?_
    refine rg_nil ?_
    refine qg_then ?_
    refine cg_ret ?_
    refine qg_then_ret ?_
    exact qg_end (.inl rfl) _ (.cons (.tmp rfl) (.nil)) _ (List.Sublist.refl _) ⟨by rw [hfin] <;> rfl, _, Ka, rfl, by rw [hfin]; exact hl, by rw [hfin]; exact hs⟩
  · intro hd
    refine rg_nil ?_
    refine qg_then ?_
    refine cg_false rfl ?_
    refine cg_skip ?_
    refine qg_then ?_
    refine cg_seq ?_
    refine cg_region ?_
    refine rg_q (.inl rfl) rfl rfl (by exact QW.qr (qw_move rfl)) ?_
    refine rg_q (.inl rfl) rfl rfl (by exact QW.qr (qw_nilCheck rfl)) ?_
    refine rg_q (.inl rfl) rfl rfl (by exact QW.qr (qw_fieldAddr rfl)) ?_
    refine rg_q (.inl rfl) rfl rfl (by exact qr_load1 rfl (by repeat (first | exact List.Mem.head _ | apply List.Mem.tail | apply List.mem_append_right | assumption)) rfl) ?_
    refine rg_q (.inl rfl) rfl rfl (by exact QW.qr (qw_move rfl)) ?_
    refine rg_e (.inl rfl) rfl rfl (by exact ev_call0 rfl (.cons rfl (.cons rfl (.nil))) (rfind_ca name (srt l.has) lv O _ ((hown.rd (fun _ => rfl) (by decide)).mono (fun q hq => mem_cat (s := Bv) (by repeat (first | exact List.Mem.head _ | apply List.Mem.tail)) hq)) (by omega))) ?_
    rintro _ _ ⟨⟨sv, rfl⟩, rfl⟩
    rw [srt_has _ hnd]
    have hrl := recF_len 3 name []
    rcases Bool.eq_false_or_eq_true (hasG l.has name) with hh | hh
    · skip
      rw [hh]
      have hyes : ¬ ¬ hasG l.has name = true := fun h => h hh
      refine rg_q (.inl rfl) rfl rfl (by exact QW.qr (qw_move rfl)) ?_
      refine rg_q (.inl rfl) rfl rfl (by exact QW.qr (qw_extract rfl rfl)) ?_
      refine rg_q (.inl rfl) rfl rfl (by exact QW.qr (qw_extract rfl rfl)) ?_
      refine rg_q (.inl rfl) rfl rfl (by exact QW.qr (qw_assign rfl)) ?_
      refine rg_q (.inl rfl) rfl rfl (by exact QW.qr (qw_assign rfl)) ?_
      refine rg_nil ?_
      refine qg_then ?_
      refine cg_seq ?_
      refine cg_seq ?_
      refine cg_region ?_
      refine rg_q (.inl rfl) rfl rfl (by exact QW.qr (qw_move rfl)) ?_
      refine rg_q (.inl rfl) rfl rfl (by exact QW.qr (qw_not rfl)) ?_
      refine rg_nil ?_
      refine qg_then ?_
      refine cg_false rfl ?_
      refine cg_skip ?_
      refine qg_then ?_
      refine cg_seq ?_
      refine cg_draw follows (.op 0 false (.op 1 false (.op 2 false (.op 3 false (.op 4 false (.op 5 false (.op 6 false (.op 7 false (.op 8 false (.op 9 false (.op 10 true (.op 11 false (.op 12 false .done))))))))))))) _ (by kernel_rfl) (SubP.of (List.Sublist.refl _)) ?_
      refine dg_w rfl rfl (.inl rfl) rfl rfl (by exact qw_move rfl) ?_
      refine dg_w rfl rfl (.inl rfl) rfl rfl (by exact qw_move rfl) ?_
      refine dg_w rfl rfl (.inl rfl) rfl rfl (by exact qw_nilCheck rfl) ?_
      refine dg_w rfl rfl (.inl rfl) rfl rfl (by exact qw_fieldAddr rfl) ?_
      refine dg_r rfl rfl rfl (.inl rfl) rfl rfl (by exact qr_load1 rfl (by repeat (first | exact List.Mem.head _ | apply List.Mem.tail | apply List.mem_append_right | assumption)) rfl) ?_
      refine dg_w rfl rfl (.inl rfl) rfl rfl (by exact qw_nilCheck rfl) ?_
      refine dg_w rfl rfl (.inl rfl) rfl rfl (by exact qw_fieldAddr rfl) ?_
      refine dg_w rfl rfl (.inl rfl) rfl rfl (by exact qw_indexAddr_arr rfl rfl (by omega) (by omega)) ?_
      refine dg_r rfl rfl rfl (.inl rfl) rfl rfl (by exact qr_load1 rfl (by repeat (first | exact List.Mem.head _ | apply List.Mem.tail | apply List.mem_append_right | assumption)) (by exact hga)) ?_
      refine dg_w rfl rfl (.inl rfl) rfl rfl (by exact qw_move rfl) ?_
      refine dg_e rfl rfl (.inl rfl) rfl rfl (by exact ev_call0 rfl (.cons rfl (.cons rfl (.cons rfl (.nil)))) (rrecord_ca 3 name [] hnl (by decide) O _)) ?_
      rintro rv _ ⟨Br, ho, rfl⟩
      simp only [List.length_nil] at hrl
      refine ⟨(SubP.of (by repeat (first | exact List.Sublist.refl _ | exact List.nil_sublist _ | exact List.sublist_append_right _ _ | apply List.Sublist.cons_cons | apply List.Sublist.cons | refine List.Sublist.trans ?_ (List.sublist_append_right _ _)))), ?_⟩
      refine dg_g rfl rfl (.inl rfl) rfl rfl (by exact ev_call0 rfl (.cons rfl (.cons rfl (.nil))) ((rappend_ca ba sa Ka (recF 3 name []) _ O (cat [Br, [rlbBlk bl b0 b1 lv l], Bv] F) hs ((ho.rd (fun _ => rfl) (by decide)).mono (fun q hq => mem_cat (s := Br) (by repeat (first | exact List.Mem.head _ | apply List.Mem.tail)) hq)) hsz (by omega)).pre (fun w h => h.perm (cat_perm (ls' := [Ka, Br, [rlbBlk bl b0 b1 lv l], Bv]) (ls := [Br, [rlbBlk bl b0 b1 lv l], Bv, Ka]) (by repeat (first | exact PermM.nil | refine PermM.cons (by repeat (first | exact Ins.here | apply Ins.there)) ?_)))))) ?_
      rintro _ _ ⟨rfl, Ka2, rfl, hs2⟩
      generalize hr : appendS sa (recF 3 name []) = r at hs2 ⊢
      obtain ⟨s2, e⟩ := r
      refine dg_w rfl rfl (.inl rfl) rfl rfl (by exact qw_assign rfl) ?_
      refine dg_nil ?_
      refine qg_then ?_
      refine cg_seq ?_
      refine cg_seq ?_
      refine cg_region ?_
      refine rg_q (.inl rfl) rfl rfl (by exact QW.qr (qw_move rfl)) ?_
      refine rg_split (.inl rfl) rfl rfl (by exact qc_eql rfl rfl) ?_ ?_
      · intro he
        obtain rfl := he
        have hfin : dropL l sa name = (⟨l.at_, l.life, delG l.has name, l.dead⟩, s2, 0) := by rw [dropL, if_neg hd, if_neg hyes, hr, if_neg (fun h => h rfl)]
        replace hs2 : RSlabAt ba s2 Ka2 := hs2
        refine rg_nil ?_
        refine qg_then ?_
        refine cg_true rfl ?_
        unfold rlbBlk PT
        refine cg_region ?_
        refine rg_q (.inl rfl) rfl rfl (by exact QW.qr (qw_move rfl)) ?_
        refine rg_q (.inl rfl) rfl rfl (by exact QW.qr (qw_move rfl)) ?_
        refine rg_q (.inl rfl) rfl rfl (by exact QW.qr (qw_nilCheck rfl)) ?_
        refine rg_q (.inl rfl) rfl rfl (by exact QW.qr (qw_fieldAddr rfl)) ?_
        refine rg_q (.inl rfl) rfl rfl (by exact qr_load1 rfl (by repeat (first | exact List.Mem.head _ | apply List.Mem.tail | apply List.mem_append_right | assumption)) rfl) ?_
        refine rg_q (.inl rfl) rfl rfl (by exact QW.qr (qw_move rfl)) ?_
        refine rg_e (.inl rfl) rfl rfl (by exact ev_call0 rfl (.cons rfl (.cons rfl (.nil))) (rdropE_ca name (srt l.has) lv O _ ((hown.rd (fun _ => rfl) (by decide)).mono (fun q hq => mem_cat (ls := [Ka2, Br, [_], Bv]) (s := Bv) (by repeat (first | exact List.Mem.head _ | apply List.Mem.tail)) hq)) (by omega))) ?_
        rintro lv2 _ ⟨B2, hown2, rfl⟩
        rw [srt_del _ hnd] at hown2
        obtain ⟨p2, c2, rfl, _⟩ := id (hown2.rd (fun _ => rfl) (by decide))
        refine rg_q (.inl rfl) rfl rfl (by exact QW.qr (qw_nilCheck rfl)) ?_
        refine rg_q (.inl rfl) rfl rfl (by exact QW.qr (qw_fieldAddr rfl)) ?_
        refine rg_e0 (.inl rfl) rfl (by exact ev_store rfl rfl (by first | exact CellsOf.agg | exact CellsOf.one rfl) (by repeat (first | exact List.Mem.head _ | apply List.Mem.tail | apply List.mem_append_right | assumption)) (by repeat (first | exact SetSeg.done | apply SetSeg.take | apply SetSeg.skip)) rfl rfl (by repeat (first | exact Upd.here | apply Upd.there | apply Upd.app)) (by first | exact Or.inl ⟨inferInstance, rfl⟩ | exact Or.inr inferInstance)) ?_
        rintro _ _ ⟨rfl, rfl⟩
        refine rg_nil ?_
        refine qg_then ?_
        refine cg_seq ?_
        refine cg_region ?_
        refine rg_q (.inl rfl) rfl rfl (by exact QW.qr (qw_move rfl)) ?_
        refine rg_q (.inl rfl) rfl rfl (by exact QW.qr (qw_move rfl)) ?_
        refine rg_e (.inl rfl) rfl rfl (by exact ev_call0 rfl (.cons rfl (.cons rfl (.nil))) ((rfail_ca bl b0 b1 _ ⟨l.at_, l.life, delG l.has name, l.dead⟩ 0 O _).pre (fun w h => h.perm (cat_perm (ls' := [[rlbBlk bl b0 b1 _ ⟨l.at_, l.life, delG l.has name, l.dead⟩], B2, Ka2, Br, Bv]) (ls := [B2, Ka2, Br, [rlbBlk bl b0 b1 _ ⟨l.at_, l.life, delG l.has name, l.dead⟩], Bv]) (by repeat (first | exact PermM.nil | refine PermM.cons (by repeat (first | exact Ins.here | apply Ins.there)) ?_)))))) ?_
        rintro _ _ ⟨rfl, rfl⟩
        rw [failL_zero]
        refine rg_q (.inl rfl) rfl rfl (by exact QW.qr (qw_assign rfl)) ?_
        refine rg_nil ?_
        refine qg_then ?_
        refine cg_ret ?_
        exact qg_end_sp (.inl rfl) _ (.cons (.tmp rfl) (.nil)) _ (cat_sub (ls' := [[_], B2, Ka2]) (ls := [[_], B2, Ka2, Br, Bv]) (by repeat (first | exact SubM.nil | refine SubM.cons (by repeat (first | exact Ins.here | apply Ins.there)) ?_))) ⟨by rw [hfin] <;> rfl, _, Ka2, rfl, by rw [hfin]; exact ⟨b0, b1, _, B2, hon, hown2, rfl⟩, by rw [hfin]; exact hs2⟩
      · intro he
        have hfin : dropL l sa name = (failL l e, s2, e) := by rw [dropL, if_neg hd, if_neg hyes, hr, if_pos he]
        replace hs2 : RSlabAt ba s2 Ka2 := hs2
        refine rg_nil ?_
        refine qg_then ?_
        refine cg_false rfl ?_
        refine cg_skip ?_
        refine qg_then ?_
        refine cg_seq ?_
        refine cg_region ?_
        refine rg_q (.inl rfl) rfl rfl (by exact QW.qr (qw_move rfl)) ?_
        refine rg_q (.inl rfl) rfl rfl (by exact QW.qr (qw_move rfl)) ?_
        refine rg_e (.inl rfl) rfl rfl (by exact ev_call0 rfl (.cons rfl (.cons rfl (.nil))) ((rfail_ca bl b0 b1 lv l e O _).pre (fun w h => h.perm (cat_perm (ls' := [[rlbBlk bl b0 b1 lv l], Ka2, Br, Bv]) (ls := [Ka2, Br, [rlbBlk bl b0 b1 lv l], Bv]) (by repeat (first | exact PermM.nil | refine PermM.cons (by repeat (first | exact Ins.here | apply Ins.there)) ?_)))))) ?_
        rintro _ _ ⟨rfl, rfl⟩
        refine rg_q (.inl rfl) rfl rfl (by exact QW.qr (qw_assign rfl)) ?_
        refine rg_nil ?_
        refine qg_then ?_
        refine cg_ret ?_
        exact qg_end_sp (.inl rfl) _ (.cons (.tmp rfl) (.nil)) _ (cat_sub (ls' := [[_], Bv, Ka2]) (ls := [[_], Ka2, Br, Bv]) (by repeat (first | exact SubM.nil | refine SubM.cons (by repeat (first | exact Ins.here | apply Ins.there)) ?_))) ⟨by rw [hfin] <;> rfl, _, Ka2, rfl, by rw [hfin]; exact ⟨b0, b1, lv, Bv, hon, hown, rfl⟩, by rw [hfin]; exact hs2⟩
    · skip
      rw [hh]
      have hfin : dropL l sa name = (l, sa, 6) := by rw [dropL, if_neg hd, if_pos (by rw [hh]; decide)]
      refine rg_q (.inl rfl) rfl rfl (by exact QW.qr (qw_move rfl)) ?_
      refine rg_q (.inl rfl) rfl rfl (by exact QW.qr (qw_extract rfl rfl)) ?_
      refine rg_q (.inl rfl) rfl rfl (by exact QW.qr (qw_extract rfl rfl)) ?_
      refine rg_q (.inl rfl) rfl rfl (by exact QW.qr (qw_assign rfl)) ?_
      refine rg_q (.inl rfl) rfl rfl (by exact QW.qr (qw_assign rfl)) ?_
      refine rg_nil ?_
      refine qg_then ?_
      refine cg_seq ?_
      refine cg_seq ?_
      refine cg_region ?_
      refine rg_q (.inl rfl) rfl rfl (by exact QW.qr (qw_move rfl)) ?_
      refine rg_q (.inl rfl) rfl rfl (by exact QW.qr (qw_not rfl)) ?_
      refine rg_nil ?_
      refine qg_then ?_
      refine cg_true rfl ?_
      refine cg_seq ?_
      refine cg_region ?_
      refine rg_q (.inl rfl) rfl rfl (by exact QW.qr (qw_assign rfl)) ?_
      refine rg_nil ?_
      refine qg_then ?_
      refine cg_ret ?_
      refine qg_then_ret ?_
      exact qg_end (.inl rfl) _ (.cons (.tmp rfl) (.nil)) _ (List.Sublist.refl _) ⟨by rw [hfin] <;> rfl, _, Ka, rfl, by rw [hfin]; exact hl, by rw [hfin]; exact hs⟩

theorem rlbSync_ca (bl ba bo : Nat) (l : Lb) (sa : Slab) (K Ka : List Blk) (O : Out) (F : List Blk) (hl : RLbAt bl ba bo l K) (hs : RSlabAt ba sa Ka) (hsz : sa.sure.length + sa.loose.length ≤ 300000) (hnd : (l.has.map Prod.fst).Nodup) (hcnt : l.has.length ≤ 300000) :
    CA Try.prog 26 [PT bl] O (cat [K, Ka] F) fun v L' => v = I (syncL l sa).2.2 ∧ ∃ K2 Ka2, L' = cat [K2, Ka2] F ∧ RLbAt bl ba bo (syncL l sa).1 K2 ∧ RSlabAt ba (syncL l sa).2.1 Ka2 := by
  obtain ⟨b0, b1, lv, Bv, hon, hown, rfl⟩ := id hl
  rw [rlb_open]
  obtain ⟨hga, hgo, ha0, ha2⟩ := ronAt_get (lv := lv) hon
  unfold rlbBlk PT
  refine ca_enter Try.func26 rfl rfl ?_
  rw [Try.ntmps26]
  simp only [envOf]
  refine cg_seq ?_
  refine cg_region ?_
  refine rg_q (.inl rfl) rfl rfl (by exact QW.qr (qw_assign rfl)) ?_
  refine rg_nil ?_
  refine qg_then ?_
  refine cg_seq ?_
  refine cg_seq ?_
  refine cg_region ?_
  refine rg_q (.inl rfl) rfl rfl (by exact QW.qr (qw_move rfl)) ?_
  refine rg_q (.inl rfl) rfl rfl (by exact QW.qr (qw_nilCheck rfl)) ?_
  refine rg_q (.inl rfl) rfl rfl (by exact QW.qr (qw_fieldAddr rfl)) ?_
  refine rg_q (.inl rfl) rfl rfl (by exact qr_load1 rfl (by repeat (first | exact List.Mem.head _ | apply List.Mem.tail | apply List.mem_append_right | assumption)) rfl) ?_
  refine rg_split (.inl rfl) rfl rfl (by exact qc_neq rfl rfl) ?_ ?_
  · intro hd
    have hfin : syncL l sa = (l, sa, l.dead) := by rw [syncL, if_pos hd]
    refine rg_nil ?_
    refine qg_then ?_
    refine cg_true rfl ?_
    refine cg_seq ?_
    refine cg_region ?_
    refine rg_q (.inl rfl) rfl rfl (by exact QW.qr (qw_move rfl)) ?_
    refine rg_q (.inl rfl) rfl rfl (by exact QW.qr (qw_nilCheck rfl)) ?_
    refine rg_q (.inl rfl) rfl rfl (by exact QW.qr (qw_fieldAddr rfl)) ?_
    refine rg_q (.inl rfl) rfl rfl (by exact qr_load1 rfl (by repeat (first | exact List.Mem.head _ | apply List.Mem.tail | apply List.mem_append_right | assumption)) rfl) ?_
    refine rg_q (.inl rfl) rfl rfl (by exact QW.qr (qw_assign rfl)) ?_
    refine rg_nil ?_
    refine qg_then ?_
    refine cg_ret ?_
    refine qg_then_ret ?_
    exact qg_end (.inl rfl) _ (.cons (.tmp rfl) (.nil)) _ (List.Sublist.refl _) ⟨by rw [hfin] <;> rfl, _, Ka, rfl, by rw [hfin]; exact hl, by rw [hfin]; exact hs⟩
  · intro hd
    refine rg_nil ?_
    refine qg_then ?_
    refine cg_false rfl ?_
    refine cg_skip ?_
    refine qg_then ?_
    refine cg_seq ?_
    refine cg_draw follows (.op 0 false (.op 1 false (.op 2 false (.op 3 false (.op 4 false (.op 5 false (.op 6 false (.op 7 false (.op 8 false (.op 9 false (.op 10 false (.op 11 false (.op 12 false .done))))))))))))) _ (by kernel_rfl) (SubP.of (List.Sublist.refl _)) ?_
    refine dg_w rfl rfl (.inl rfl) rfl rfl (by exact qw_move rfl) ?_
    refine dg_w rfl rfl (.inl rfl) rfl rfl (by exact qw_move rfl) ?_
    refine dg_w rfl rfl (.inl rfl) rfl rfl (by exact qw_move rfl) ?_
    refine dg_w rfl rfl (.inl rfl) rfl rfl (by exact qw_nilCheck rfl) ?_
    refine dg_w rfl rfl (.inl rfl) rfl rfl (by exact qw_fieldAddr rfl) ?_
    refine dg_r rfl rfl rfl (.inl rfl) rfl rfl (by exact qr_load1 rfl (by repeat (first | exact List.Mem.head _ | apply List.Mem.tail | apply List.mem_append_right | assumption)) rfl) ?_
    refine dg_w rfl rfl (.inl rfl) rfl rfl (by exact qw_nilCheck rfl) ?_
    refine dg_w rfl rfl (.inl rfl) rfl rfl (by exact qw_fieldAddr rfl) ?_
    refine dg_w rfl rfl (.inl rfl) rfl rfl (by exact qw_indexAddr_arr rfl rfl (by omega) (by omega)) ?_
    refine dg_r rfl rfl rfl (.inl rfl) rfl rfl (by exact qr_load1 rfl (by repeat (first | exact List.Mem.head _ | apply List.Mem.tail | apply List.mem_append_right | assumption)) (by exact hga)) ?_
    refine dg_g rfl rfl (.inl rfl) rfl rfl (by exact ev_call0 rfl (.cons rfl (.nil)) ((rsync_ca ba sa Ka O (cat [[rlbBlk bl b0 b1 lv l], Bv] F) hs (by omega)).pre (fun w h => h.perm (cat_perm (ls' := [Ka, [rlbBlk bl b0 b1 lv l], Bv]) (ls := [[rlbBlk bl b0 b1 lv l], Bv, Ka]) (by repeat (first | exact PermM.nil | refine PermM.cons (by repeat (first | exact Ins.here | apply Ins.there)) ?_)))))) ?_
    rintro _ _ ⟨rfl, Ka2, rfl, hs2⟩
    have hfin : syncL l sa = (failL l (syncS sa).2, (syncS sa).1, (syncS sa).2) := by rw [syncL, if_neg hd]
    generalize hr : syncS sa = r at hs2 hfin ⊢
    obtain ⟨s2, e⟩ := r
    refine dg_g rfl rfl (.inl rfl) rfl rfl (by exact ev_call0 rfl (.cons rfl (.cons rfl (.nil))) ((rfail_ca bl b0 b1 lv l e O _).pre (fun w h => h.perm (cat_perm (ls' := [[rlbBlk bl b0 b1 lv l], Ka2, Bv]) (ls := [Ka2, [rlbBlk bl b0 b1 lv l], Bv]) (by repeat (first | exact PermM.nil | refine PermM.cons (by repeat (first | exact Ins.here | apply Ins.there)) ?_)))))) ?_
    rintro _ _ ⟨rfl, rfl⟩
    refine dg_w rfl rfl (.inl rfl) rfl rfl (by exact qw_assign rfl) ?_
    refine dg_nil ?_
    refine qg_then ?_
    refine cg_ret ?_
    exact qg_end_sp (.inl rfl) _ (.cons (.tmp rfl) (.nil)) _ (cat_sub (ls' := [[_], Bv, Ka2]) (ls := [[_], Ka2, Bv]) (by repeat (first | exact SubM.nil | refine SubM.cons (by repeat (first | exact Ins.here | apply Ins.there)) ?_))) ⟨by rw [hfin] <;> rfl, _, Ka2, rfl, by rw [hfin]; exact ⟨b0, b1, lv, Bv, hon, hown, rfl⟩, by rw [hfin]; exact hs2⟩

end Go.Proofs.Ytcbbogaanebefaa