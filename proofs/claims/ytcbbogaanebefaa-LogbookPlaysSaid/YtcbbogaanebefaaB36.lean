/-
  THE WALKS of the laws' Is and same: a slab, a logbook held against the document's. Conditions: sizes.
-/
import Derived.Test.YtcbbogaanebefaaB35
namespace Go.Proofs.Ytcbbogaanebefaa
open Fw
open Go.Proofs (encStr)
set_option linter.unusedVariables false
set_option linter.unusedSimpArgs false
set_option maxRecDepth 100000
set_option maxHeartbeats 2000000

theorem is_ca (b rb : Nat) (s : Slab) (K R : List Blk) (O : Out) (F : List Blk) (hs : SlabAt b s K) (hr : RSlabAt rb s R) (hsz : sizeS s ≤ 300000) :
    CA Try.prog 29 [PT b, PT rb] O (cat [K, R] F) fun v L' => v = .bool true ∧ L' = cat [K, R] F := by
  unfold sizeS at hsz
  obtain ⟨rsv, rlv, rBs, rBl, hros, hrol, hR⟩ := id hr
  have hmr : rslabBlk rb rsv rlv s ∈ R := by rw [hR]; exact List.Mem.head _
  obtain ⟨prs, crs, rfl, _⟩ := id (hros.rd (fun _ => rfl) (by decide))
  obtain ⟨prl, crl, rfl, _⟩ := id (hrol.rd (fun _ => rfl) (by decide))
  unfold rslabBlk at hmr
  refine ca_enter Try.func29 rfl rfl ?_
  rw [Try.ntmps29]
  simp only [envOf]
  refine cg_seq ?_
  refine cg_region ?_
  refine rg_q (.inl rfl) rfl rfl (by exact QW.qr (qw_assign rfl)) ?_
  refine rg_nil ?_
  refine qg_then ?_
  refine cg_seq ?_
  refine cg_region ?_
  refine rg_q (.inl rfl) rfl rfl (by exact QW.qr (qw_move rfl)) ?_
  refine rg_e (.inl rfl) rfl rfl (by exact ev_call0 rfl (.cons rfl (.nil)) (read_ca b s K O (cat [R] F) hs (by omega))) ?_
  rintro _ _ (⟨hdn, rfl, rfl⟩ | ⟨hdn, rv, B, rfl, rfl, hor⟩)
  · skip
    refine rg_q (.inl rfl) rfl rfl (by exact QW.qr (qw_move rfl)) ?_
    refine rg_q (.inl rfl) rfl rfl (by exact QW.qr (qw_extract rfl rfl)) ?_
    refine rg_q (.inl rfl) rfl rfl (by exact QW.qr (qw_extract rfl rfl)) ?_
    refine rg_q (.inl rfl) rfl rfl (by exact QW.qr (qw_assign rfl)) ?_
    refine rg_q (.inl rfl) rfl rfl (by exact QW.qr (qw_assign rfl)) ?_
    refine rg_nil ?_
    refine qg_then ?_
    refine cg_seq ?_
    refine cg_region ?_
    refine rg_q (.inl rfl) rfl rfl (by exact QW.qr (qw_move rfl)) ?_
    refine rg_e (.inl rfl) rfl rfl (by exact ev_call0 rfl (.cons rfl (.nil)) ((rread_down rb s R O (cat [K] F) hr hdn).pre (fun w h => h.perm (cat_perm (ls' := [R, K]) (ls := [K, R]) (by repeat (first | exact PermM.nil | refine PermM.cons (by repeat (first | exact Ins.here | apply Ins.there)) ?_)))))) ?_
    rintro _ _ ⟨rfl, rfl⟩
    unfold PT
    refine rg_q (.inl rfl) rfl rfl (by exact QW.qr (qw_move rfl)) ?_
    refine rg_q (.inl rfl) rfl rfl (by exact QW.qr (qw_extract rfl rfl)) ?_
    refine rg_q (.inl rfl) rfl rfl (by exact QW.qr (qw_extract rfl rfl)) ?_
    refine rg_q (.inl rfl) rfl rfl (by exact QW.qr (qw_assign rfl)) ?_
    refine rg_q (.inl rfl) rfl rfl (by exact QW.qr (qw_assign rfl)) ?_
    refine rg_nil ?_
    refine qg_then ?_
    refine cg_seq ?_
    refine cg_draw follows (.op 0 false (.op 1 false (.op 2 false (.op 3 false (.op 4 false (.op 5 false (.op 6 false (.op 7 false (.op 8 false (.op 9 false (.op 10 false (.op 11 false (.op 13 false (.op 14 false (.op 15 false (.op 16 false (.op 17 false (.op 12 true (.op 18 false (.op 19 false (.op 20 false (.op 21 false (.op 23 false (.op 24 false (.op 25 false (.op 26 false (.op 22 true (.op 27 false (.op 28 false (.op 29 false (.op 30 false (.op 32 false (.op 33 false (.op 34 false (.op 35 false (.op 31 true (.op 36 false (.op 37 false (.op 38 false .done))))))))))))))))))))))))))))))))))))))) _ (by kernel_rfl) (SubP.of (List.Sublist.refl _)) ?_
    refine dg_w rfl rfl (.inl rfl) rfl rfl (by exact qw_move rfl) ?_
    refine dg_r rfl rfl rfl (.inl rfl) rfl rfl (by exact qr_bytesToStr (e := 5) (bs := []) rfl rdl_nilB.w) ?_
    refine dg_w rfl rfl (.inl rfl) rfl rfl (by exact qw_move rfl) ?_
    refine dg_r rfl rfl rfl (.inl rfl) rfl rfl (by exact qr_bytesToStr (e := 5) (bs := []) rfl rdl_nilB.w) ?_
    refine dg_w rfl rfl (.inl rfl) rfl rfl (by exact qw_val (v' := .bool true) (qw_eql_str rfl rfl) (by simp)) ?_
    refine dg_w rfl rfl (.inl rfl) rfl rfl (by exact qw_move rfl) ?_
    refine dg_w rfl rfl (.inr (guard_mk rfl rfl rfl rfl)) rfl rfl (by exact qw_move rfl) ?_
    refine dg_w rfl rfl (.inr (guard_mk rfl rfl rfl rfl)) rfl rfl (by exact qw_move rfl) ?_
    refine dg_w rfl rfl (.inr (guard_mk rfl rfl rfl rfl)) rfl rfl (by exact qw_eql_t rfl rfl rfl) ?_
    refine dg_w rfl rfl (.inl rfl) rfl rfl (by exact qw_pick_t rfl rfl) ?_
    refine dg_w rfl rfl (.inl rfl) rfl rfl (by exact qw_move rfl) ?_
    refine dg_w rfl rfl (.inr (guard_mk rfl rfl rfl rfl)) rfl rfl (by exact qw_move rfl) ?_
    refine dg_w rfl rfl (.inr (guard_mk rfl rfl rfl rfl)) rfl rfl (by exact qw_move rfl) ?_
    refine dg_w rfl rfl (.inr (guard_mk rfl rfl rfl rfl)) rfl rfl (by exact qw_nilCheck rfl) ?_
    refine dg_w rfl rfl (.inr (guard_mk rfl rfl rfl rfl)) rfl rfl (by exact qw_fieldAddr rfl) ?_
    refine dg_r rfl rfl rfl (.inr (guard_mk rfl rfl rfl rfl)) rfl rfl (by exact qr_load1 rfl (by repeat (first | exact hmr | exact List.mem_append_left _ hmr | apply List.mem_append_right)) rfl) ?_
    refine dg_w rfl rfl (.inr (guard_mk rfl rfl rfl rfl)) rfl rfl (by exact qw_len_slice (t := 36) (.cons rfl (.nil)) rfl) ?_
    refine dg_e rfl rfl (.inr (guard_mk rfl rfl rfl rfl)) rfl rfl (by exact ev_call0 rfl (.cons rfl (.nil)) (loose_ca b s K O _ hs (fun q hq => by repeat (first | exact hq | exact List.mem_append_left _ hq | apply List.mem_append_right)))) ?_
    rintro _ _ ⟨rfl, rfl⟩
    refine ⟨(SubP.of (by repeat (first | exact List.Sublist.refl _ | exact List.nil_sublist _ | exact List.sublist_append_right _ _ | apply List.Sublist.cons_cons | apply List.Sublist.cons | refine List.Sublist.trans ?_ (List.sublist_append_right _ _)))), ?_⟩
    refine dg_w rfl rfl (.inr (guard_mk rfl rfl rfl rfl)) rfl rfl (by exact qw_eql_t rfl rfl rfl) ?_
    refine dg_w rfl rfl (.inl rfl) rfl rfl (by exact qw_pick_t rfl rfl) ?_
    refine dg_w rfl rfl (.inl rfl) rfl rfl (by exact qw_move rfl) ?_
    refine dg_w rfl rfl (.inr (guard_mk rfl rfl rfl rfl)) rfl rfl (by exact qw_move rfl) ?_
    refine dg_w rfl rfl (.inr (guard_mk rfl rfl rfl rfl)) rfl rfl (by exact qw_move rfl) ?_
    refine dg_w rfl rfl (.inr (guard_mk rfl rfl rfl rfl)) rfl rfl (by exact qw_nilCheck rfl) ?_
    refine dg_w rfl rfl (.inr (guard_mk rfl rfl rfl rfl)) rfl rfl (by exact qw_fieldAddr rfl) ?_
    refine dg_r rfl rfl rfl (.inr (guard_mk rfl rfl rfl rfl)) rfl rfl (by exact qr_load1 rfl (by repeat (first | exact hmr | exact List.mem_append_left _ hmr | apply List.mem_append_right)) rfl) ?_
    refine dg_e rfl rfl (.inr (guard_mk rfl rfl rfl rfl)) rfl rfl (by exact ev_call0 rfl (.cons rfl (.nil)) (steps_ca b s K O _ hs (fun q hq => by repeat (first | exact hq | exact List.mem_append_left _ hq | apply List.mem_append_right)))) ?_
    rintro _ _ ⟨rfl, rfl⟩
    refine ⟨(SubP.of (by repeat (first | exact List.Sublist.refl _ | exact List.nil_sublist _ | exact List.sublist_append_right _ _ | apply List.Sublist.cons_cons | apply List.Sublist.cons | refine List.Sublist.trans ?_ (List.sublist_append_right _ _)))), ?_⟩
    refine dg_w rfl rfl (.inr (guard_mk rfl rfl rfl rfl)) rfl rfl (by exact qw_eql_t rfl rfl rfl) ?_
    refine dg_w rfl rfl (.inl rfl) rfl rfl (by exact qw_pick_t rfl rfl) ?_
    refine dg_w rfl rfl (.inl rfl) rfl rfl (by exact qw_move rfl) ?_
    refine dg_w rfl rfl (.inr (guard_mk rfl rfl rfl rfl)) rfl rfl (by exact qw_move rfl) ?_
    refine dg_w rfl rfl (.inr (guard_mk rfl rfl rfl rfl)) rfl rfl (by exact qw_move rfl) ?_
    refine dg_w rfl rfl (.inr (guard_mk rfl rfl rfl rfl)) rfl rfl (by exact qw_nilCheck rfl) ?_
    refine dg_w rfl rfl (.inr (guard_mk rfl rfl rfl rfl)) rfl rfl (by exact qw_fieldAddr rfl) ?_
    refine dg_r rfl rfl rfl (.inr (guard_mk rfl rfl rfl rfl)) rfl rfl (by exact qr_load1 rfl (by repeat (first | exact hmr | exact List.mem_append_left _ hmr | apply List.mem_append_right)) rfl) ?_
    refine dg_e rfl rfl (.inr (guard_mk rfl rfl rfl rfl)) rfl rfl (by exact ev_call0 rfl (.cons rfl (.nil)) (down_ca b s K O _ hs (fun q hq => by repeat (first | exact hq | exact List.mem_append_left _ hq | apply List.mem_append_right)))) ?_
    rintro _ _ ⟨rfl, rfl⟩
    refine ⟨(SubP.of (by repeat (first | exact List.Sublist.refl _ | exact List.nil_sublist _ | exact List.sublist_append_right _ _ | apply List.Sublist.cons_cons | apply List.Sublist.cons | refine List.Sublist.trans ?_ (List.sublist_append_right _ _)))), ?_⟩
    refine dg_w rfl rfl (.inr (guard_mk rfl rfl rfl rfl)) rfl rfl (by exact qw_val (v' := .bool true) (qw_eql_bool rfl rfl) (by simp)) ?_
    refine dg_w rfl rfl (.inl rfl) rfl rfl (by exact qw_pick_t rfl rfl) ?_
    refine dg_w rfl rfl (.inl rfl) rfl rfl (by exact qw_assign rfl) ?_
    refine dg_nil ?_
    refine qg_then ?_
    refine cg_ret ?_
    exact qg_end_sp (.inl rfl) _ (.cons (.tmp rfl) (.nil)) _ (cat_sub (ls' := [K, R]) (ls := [R, K]) (by repeat (first | exact SubM.nil | refine SubM.cons (by repeat (first | exact Ins.here | apply Ins.there)) ?_))) ⟨rfl, rfl⟩
  · skip
    obtain ⟨pp, cp, rfl, _⟩ := id (hor.rd (fun _ => rfl) (by decide))
    refine rg_q (.inl rfl) rfl rfl (by exact QW.qr (qw_move rfl)) ?_
    refine rg_q (.inl rfl) rfl rfl (by exact QW.qr (qw_extract rfl rfl)) ?_
    refine rg_q (.inl rfl) rfl rfl (by exact QW.qr (qw_extract rfl rfl)) ?_
    refine rg_q (.inl rfl) rfl rfl (by exact QW.qr (qw_assign rfl)) ?_
    refine rg_q (.inl rfl) rfl rfl (by exact QW.qr (qw_assign rfl)) ?_
    refine rg_nil ?_
    refine qg_then ?_
    refine cg_seq ?_
    refine cg_region ?_
    refine rg_q (.inl rfl) rfl rfl (by exact QW.qr (qw_move rfl)) ?_
    refine rg_e (.inl rfl) rfl rfl (by exact ev_call0 rfl (.cons rfl (.nil)) ((rread_up rb s R O (cat [B, K] F) hr hdn (by omega)).pre (fun w h => h.perm (cat_perm (ls' := [R, B, K]) (ls := [B, K, R]) (by repeat (first | exact PermM.nil | refine PermM.cons (by repeat (first | exact Ins.here | apply Ins.there)) ?_)))))) ?_
    rintro _ _ ⟨qv, Bq, rfl, rfl, hoq⟩
    obtain ⟨pq, cq, rfl, _⟩ := id (hoq.rd (fun _ => rfl) (by decide))
    unfold PT
    refine rg_q (.inl rfl) rfl rfl (by exact QW.qr (qw_move rfl)) ?_
    refine rg_q (.inl rfl) rfl rfl (by exact QW.qr (qw_extract rfl rfl)) ?_
    refine rg_q (.inl rfl) rfl rfl (by exact QW.qr (qw_extract rfl rfl)) ?_
    refine rg_q (.inl rfl) rfl rfl (by exact QW.qr (qw_assign rfl)) ?_
    refine rg_q (.inl rfl) rfl rfl (by exact QW.qr (qw_assign rfl)) ?_
    refine rg_nil ?_
    refine qg_then ?_
    refine cg_seq ?_
    refine cg_draw follows (.op 0 false (.op 1 false (.op 2 false (.op 3 false (.op 4 false (.op 5 false (.op 6 false (.op 7 false (.op 8 false (.op 9 false (.op 10 false (.op 11 false (.op 13 false (.op 14 false (.op 15 false (.op 16 false (.op 17 false (.op 12 true (.op 18 false (.op 19 false (.op 20 false (.op 21 false (.op 23 false (.op 24 false (.op 25 false (.op 26 false (.op 22 true (.op 27 false (.op 28 false (.op 29 false (.op 30 false (.op 32 false (.op 33 false (.op 34 false (.op 35 false (.op 31 true (.op 36 false (.op 37 false (.op 38 false .done))))))))))))))))))))))))))))))))))))))) _ (by kernel_rfl) (SubP.of (List.Sublist.refl _)) ?_
    refine dg_w rfl rfl (.inl rfl) rfl rfl (by exact qw_move rfl) ?_
    refine dg_r rfl rfl rfl (.inl rfl) rfl rfl (by exact qr_bytesToStr (e := 5) rfl ((hor.rd (fun _ => rfl) (by decide)).mono (fun q hq => by repeat (first | exact hq | exact List.mem_append_left _ hq | apply List.mem_append_right))).w) ?_
    refine dg_w rfl rfl (.inl rfl) rfl rfl (by exact qw_move rfl) ?_
    refine dg_r rfl rfl rfl (.inl rfl) rfl rfl (by exact qr_bytesToStr (e := 5) rfl ((hoq.rd (fun _ => rfl) (by decide)).mono (fun q hq => by repeat (first | exact hq | exact List.mem_append_left _ hq | apply List.mem_append_right))).w) ?_
    refine dg_w rfl rfl (.inl rfl) rfl rfl (by exact qw_val (v' := .bool true) (qw_eql_str rfl rfl) (by simp)) ?_
    refine dg_w rfl rfl (.inl rfl) rfl rfl (by exact qw_move rfl) ?_
    refine dg_w rfl rfl (.inr (guard_mk rfl rfl rfl rfl)) rfl rfl (by exact qw_move rfl) ?_
    refine dg_w rfl rfl (.inr (guard_mk rfl rfl rfl rfl)) rfl rfl (by exact qw_move rfl) ?_
    refine dg_w rfl rfl (.inr (guard_mk rfl rfl rfl rfl)) rfl rfl (by exact qw_eql_t rfl rfl rfl) ?_
    refine dg_w rfl rfl (.inl rfl) rfl rfl (by exact qw_pick_t rfl rfl) ?_
    refine dg_w rfl rfl (.inl rfl) rfl rfl (by exact qw_move rfl) ?_
    refine dg_w rfl rfl (.inr (guard_mk rfl rfl rfl rfl)) rfl rfl (by exact qw_move rfl) ?_
    refine dg_w rfl rfl (.inr (guard_mk rfl rfl rfl rfl)) rfl rfl (by exact qw_move rfl) ?_
    refine dg_w rfl rfl (.inr (guard_mk rfl rfl rfl rfl)) rfl rfl (by exact qw_nilCheck rfl) ?_
    refine dg_w rfl rfl (.inr (guard_mk rfl rfl rfl rfl)) rfl rfl (by exact qw_fieldAddr rfl) ?_
    refine dg_r rfl rfl rfl (.inr (guard_mk rfl rfl rfl rfl)) rfl rfl (by exact qr_load1 rfl (by repeat (first | exact hmr | exact List.mem_append_left _ hmr | apply List.mem_append_right)) rfl) ?_
    refine dg_w rfl rfl (.inr (guard_mk rfl rfl rfl rfl)) rfl rfl (by exact qw_len_slice (t := 36) (.cons rfl (.nil)) rfl) ?_
    refine dg_e rfl rfl (.inr (guard_mk rfl rfl rfl rfl)) rfl rfl (by exact ev_call0 rfl (.cons rfl (.nil)) (loose_ca b s K O _ hs (fun q hq => by repeat (first | exact hq | exact List.mem_append_left _ hq | apply List.mem_append_right)))) ?_
    rintro _ _ ⟨rfl, rfl⟩
    refine ⟨(SubP.of (by repeat (first | exact List.Sublist.refl _ | exact List.nil_sublist _ | exact List.sublist_append_right _ _ | apply List.Sublist.cons_cons | apply List.Sublist.cons | refine List.Sublist.trans ?_ (List.sublist_append_right _ _)))), ?_⟩
    refine dg_w rfl rfl (.inr (guard_mk rfl rfl rfl rfl)) rfl rfl (by exact qw_eql_t rfl rfl rfl) ?_
    refine dg_w rfl rfl (.inl rfl) rfl rfl (by exact qw_pick_t rfl rfl) ?_
    refine dg_w rfl rfl (.inl rfl) rfl rfl (by exact qw_move rfl) ?_
    refine dg_w rfl rfl (.inr (guard_mk rfl rfl rfl rfl)) rfl rfl (by exact qw_move rfl) ?_
    refine dg_w rfl rfl (.inr (guard_mk rfl rfl rfl rfl)) rfl rfl (by exact qw_move rfl) ?_
    refine dg_w rfl rfl (.inr (guard_mk rfl rfl rfl rfl)) rfl rfl (by exact qw_nilCheck rfl) ?_
    refine dg_w rfl rfl (.inr (guard_mk rfl rfl rfl rfl)) rfl rfl (by exact qw_fieldAddr rfl) ?_
    refine dg_r rfl rfl rfl (.inr (guard_mk rfl rfl rfl rfl)) rfl rfl (by exact qr_load1 rfl (by repeat (first | exact hmr | exact List.mem_append_left _ hmr | apply List.mem_append_right)) rfl) ?_
    refine dg_e rfl rfl (.inr (guard_mk rfl rfl rfl rfl)) rfl rfl (by exact ev_call0 rfl (.cons rfl (.nil)) (steps_ca b s K O _ hs (fun q hq => by repeat (first | exact hq | exact List.mem_append_left _ hq | apply List.mem_append_right)))) ?_
    rintro _ _ ⟨rfl, rfl⟩
    refine ⟨(SubP.of (by repeat (first | exact List.Sublist.refl _ | exact List.nil_sublist _ | exact List.sublist_append_right _ _ | apply List.Sublist.cons_cons | apply List.Sublist.cons | refine List.Sublist.trans ?_ (List.sublist_append_right _ _)))), ?_⟩
    refine dg_w rfl rfl (.inr (guard_mk rfl rfl rfl rfl)) rfl rfl (by exact qw_eql_t rfl rfl rfl) ?_
    refine dg_w rfl rfl (.inl rfl) rfl rfl (by exact qw_pick_t rfl rfl) ?_
    refine dg_w rfl rfl (.inl rfl) rfl rfl (by exact qw_move rfl) ?_
    refine dg_w rfl rfl (.inr (guard_mk rfl rfl rfl rfl)) rfl rfl (by exact qw_move rfl) ?_
    refine dg_w rfl rfl (.inr (guard_mk rfl rfl rfl rfl)) rfl rfl (by exact qw_move rfl) ?_
    refine dg_w rfl rfl (.inr (guard_mk rfl rfl rfl rfl)) rfl rfl (by exact qw_nilCheck rfl) ?_
    refine dg_w rfl rfl (.inr (guard_mk rfl rfl rfl rfl)) rfl rfl (by exact qw_fieldAddr rfl) ?_
    refine dg_r rfl rfl rfl (.inr (guard_mk rfl rfl rfl rfl)) rfl rfl (by exact qr_load1 rfl (by repeat (first | exact hmr | exact List.mem_append_left _ hmr | apply List.mem_append_right)) rfl) ?_
    refine dg_e rfl rfl (.inr (guard_mk rfl rfl rfl rfl)) rfl rfl (by exact ev_call0 rfl (.cons rfl (.nil)) (down_ca b s K O _ hs (fun q hq => by repeat (first | exact hq | exact List.mem_append_left _ hq | apply List.mem_append_right)))) ?_
    rintro _ _ ⟨rfl, rfl⟩
    refine ⟨(SubP.of (by repeat (first | exact List.Sublist.refl _ | exact List.nil_sublist _ | exact List.sublist_append_right _ _ | apply List.Sublist.cons_cons | apply List.Sublist.cons | refine List.Sublist.trans ?_ (List.sublist_append_right _ _)))), ?_⟩
    refine dg_w rfl rfl (.inr (guard_mk rfl rfl rfl rfl)) rfl rfl (by exact qw_val (v' := .bool true) (qw_eql_bool rfl rfl) (by simp)) ?_
    refine dg_w rfl rfl (.inl rfl) rfl rfl (by exact qw_pick_t rfl rfl) ?_
    refine dg_w rfl rfl (.inl rfl) rfl rfl (by exact qw_assign rfl) ?_
    refine dg_nil ?_
    refine qg_then ?_
    refine cg_ret ?_
    exact qg_end_sp (.inl rfl) _ (.cons (.tmp rfl) (.nil)) _ (cat_sub (ls' := [K, R]) (ls := [Bq, R, B, K]) (by repeat (first | exact SubM.nil | refine SubM.cons (by repeat (first | exact Ins.here | apply Ins.there)) ?_))) ⟨rfl, rfl⟩

theorem same_ca (bl rl b0 b1 w0 w1 : Nat) (l : Lb) (K R : List Blk) (w : Nat) (O : Out) (F : List Blk) (hl : LbIn bl b0 b1 l K) (hr : RLbIn rl w0 w1 l R) (hok : LbOk l w) (hw : w ≤ 500000) :
    CA Try.prog 30 [PT bl, PT rl] O (cat [K, R] F) fun v L' => v = .bool true ∧ L' = cat [K, R] F := by
  obtain ⟨_, rlv, rB, hro, hR⟩ := id hr
  have hmr : rlbBlk rl w0 w1 rlv l ∈ R := by rw [hR]; exact List.Mem.head _
  obtain ⟨pr, cr, rfl, _, _, _, hRr⟩ := id (hro.rd (fun _ => rfl) (by decide))
  have hRB : ∀ q, q ∈ rB → q ∈ R := fun q hq => by rw [hR]; exact List.Mem.tail _ hq
  unfold rlbBlk at hmr
  have hnd := hok.nd
  have hwt := hok.weight
  have hcnt := weigh_count l.has
  have hsl := srt_len l.has
  have hnl := namesOf_len l.has
  have hlen1 : ∀ t ∈ l.has, t.1.length ≤ 1000000 := fun t ht => by have := hok.small t ht; omega
  have hlen2 : ∀ t ∈ l.has, t.2.length ≤ 1000000 := fun t ht => by have := weigh_one (k := t.1) (v := t.2) ht; omega
  refine ca_enter Try.func30 rfl rfl ?_
  rw [Try.ntmps30]
  simp only [envOf]
  refine cg_seq ?_
  refine cg_region ?_
  refine rg_q (.inl rfl) rfl rfl (by exact QW.qr (qw_assign rfl)) ?_
  refine rg_nil ?_
  refine qg_then ?_
  refine cg_seq ?_
  refine cg_region ?_
  refine rg_q (.inl rfl) rfl rfl (by exact QW.qr (qw_move rfl)) ?_
  refine rg_e (.inl rfl) rfl rfl (by exact ev_call0 rfl (.cons rfl (.nil)) (names_in bl b0 b1 l K O (cat [R] F) hl (by omega) hlen1)) ?_
  rintro nv _ ⟨Bn, hnn, rfl⟩
  obtain ⟨pn, cn, rfl, _, _, _, hRn⟩ := id (hnn.rd (fun _ => rfl) (by decide))
  unfold PT
  refine rg_q (.inl rfl) rfl rfl (by exact QW.qr (qw_assign rfl)) ?_
  refine rg_nil ?_
  refine qg_then ?_
  refine cg_seq ?_
  refine cg_seq ?_
  refine cg_draw follows (.op 0 false (.op 1 false (.op 2 false (.op 3 false (.op 4 false (.op 5 false (.op 6 false (.op 7 false (.op 8 false (.op 9 false (.op 11 false (.op 12 false (.op 13 false (.op 14 false (.op 10 true (.op 15 false (.op 16 false (.op 17 false (.op 18 false (.op 20 false (.op 21 false (.op 22 false (.op 23 false (.op 19 true (.op 24 false (.op 25 false .done)))))))))))))))))))))))))) _ (by kernel_rfl) (SubP.of (List.Sublist.refl _)) ?_
  refine dg_w rfl rfl (.inl rfl) rfl rfl (by exact qw_move rfl) ?_
  refine dg_w rfl rfl (.inl rfl) rfl rfl (by exact qw_len_slice (t := 41) (.cons rfl (.nil)) rfl) ?_
  refine dg_w rfl rfl (.inl rfl) rfl rfl (by exact qw_move rfl) ?_
  refine dg_w rfl rfl (.inl rfl) rfl rfl (by exact qw_nilCheck rfl) ?_
  refine dg_w rfl rfl (.inl rfl) rfl rfl (by exact qw_fieldAddr rfl) ?_
  refine dg_r rfl rfl rfl (.inl rfl) rfl rfl (by exact qr_load1 rfl (by repeat (first | exact hmr | exact List.mem_append_left _ hmr | apply List.mem_append_right)) rfl) ?_
  refine dg_w rfl rfl (.inl rfl) rfl rfl (by exact qw_len_slice (t := 89) (.cons rfl (.nil)) rfl) ?_
  refine dg_w rfl rfl (.inl rfl) rfl rfl (by exact qw_neq_f rfl rfl (fun h => h (by rw [hsl, hnl]))) ?_
  refine dg_w rfl rfl (.inl rfl) rfl rfl (by exact qw_move rfl) ?_
  refine dg_w rfl rfl (.inr (guard_mk rfl rfl rfl rfl)) rfl rfl (by exact qw_move rfl) ?_
  refine dg_w rfl rfl (.inr (guard_mk rfl rfl rfl rfl)) rfl rfl (by exact qw_move rfl) ?_
  refine dg_w rfl rfl (.inr (guard_mk rfl rfl rfl rfl)) rfl rfl (by exact qw_nilCheck rfl) ?_
  refine dg_w rfl rfl (.inr (guard_mk rfl rfl rfl rfl)) rfl rfl (by exact qw_fieldAddr rfl) ?_
  refine dg_r rfl rfl rfl (.inr (guard_mk rfl rfl rfl rfl)) rfl rfl (by exact qr_load1 rfl (by repeat (first | exact hmr | exact List.mem_append_left _ hmr | apply List.mem_append_right)) rfl) ?_
  refine dg_e rfl rfl (.inr (guard_mk rfl rfl rfl rfl)) rfl rfl (by exact ev_call0 rfl (.cons rfl (.nil)) (life_in bl b0 b1 l K O _ hl (fun q hq => by repeat (first | exact hq | exact List.mem_append_left _ hq | apply List.mem_append_right)))) ?_
  rintro _ _ ⟨rfl, rfl⟩
  refine ⟨(SubP.of (by repeat (first | exact List.Sublist.refl _ | exact List.nil_sublist _ | exact List.sublist_append_right _ _ | apply List.Sublist.cons_cons | apply List.Sublist.cons | refine List.Sublist.trans ?_ (List.sublist_append_right _ _)))), ?_⟩
  refine dg_w rfl rfl (.inr (guard_mk rfl rfl rfl rfl)) rfl rfl (by exact qw_neq_f rfl rfl (fun h => h rfl)) ?_
  refine dg_w rfl rfl (.inl rfl) rfl rfl (by exact qw_pick_f rfl rfl) ?_
  refine dg_w rfl rfl (.inl rfl) rfl rfl (by exact qw_move rfl) ?_
  refine dg_w rfl rfl (.inr (guard_mk rfl rfl rfl rfl)) rfl rfl (by exact qw_move rfl) ?_
  refine dg_w rfl rfl (.inr (guard_mk rfl rfl rfl rfl)) rfl rfl (by exact qw_move rfl) ?_
  refine dg_w rfl rfl (.inr (guard_mk rfl rfl rfl rfl)) rfl rfl (by exact qw_nilCheck rfl) ?_
  refine dg_w rfl rfl (.inr (guard_mk rfl rfl rfl rfl)) rfl rfl (by exact qw_fieldAddr rfl) ?_
  refine dg_r rfl rfl rfl (.inr (guard_mk rfl rfl rfl rfl)) rfl rfl (by exact qr_load1 rfl (by repeat (first | exact hmr | exact List.mem_append_left _ hmr | apply List.mem_append_right)) rfl) ?_
  refine dg_e rfl rfl (.inr (guard_mk rfl rfl rfl rfl)) rfl rfl (by exact ev_call0 rfl (.cons rfl (.nil)) (dead_in bl b0 b1 l K O _ hl (fun q hq => by repeat (first | exact hq | exact List.mem_append_left _ hq | apply List.mem_append_right)))) ?_
  rintro _ _ ⟨rfl, rfl⟩
  refine ⟨(SubP.of (by repeat (first | exact List.Sublist.refl _ | exact List.nil_sublist _ | exact List.sublist_append_right _ _ | apply List.Sublist.cons_cons | apply List.Sublist.cons | refine List.Sublist.trans ?_ (List.sublist_append_right _ _)))), ?_⟩
  refine dg_w rfl rfl (.inr (guard_mk rfl rfl rfl rfl)) rfl rfl (by exact qw_neq_f rfl rfl (fun h => h rfl)) ?_
  refine dg_w rfl rfl (.inl rfl) rfl rfl (by exact qw_pick_f rfl rfl) ?_
  refine dg_nil ?_
  refine qg_then ?_
  refine cg_false rfl ?_
  refine cg_skip ?_
  refine qg_then ?_
  refine cg_seq ?_
  refine cg_seq ?_
  refine cg_region ?_
  refine rg_q (.inl rfl) rfl rfl (by exact QW.qr (qw_move rfl)) ?_
  refine rg_q (.inl rfl) rfl rfl (by exact QW.qr (qw_nilCheck rfl)) ?_
  refine rg_q (.inl rfl) rfl rfl (by exact QW.qr (qw_fieldAddr rfl)) ?_
  refine rg_q (.inl rfl) rfl rfl (by exact qr_load1 rfl (by repeat (first | exact hmr | exact List.mem_append_left _ hmr | apply List.mem_append_right)) rfl) ?_
  refine rg_q (.inl rfl) rfl rfl (by exact QW.qr (qw_len_slice (t := 89) (.cons rfl (.nil)) rfl)) ?_
  refine rg_q (.inl rfl) rfl rfl (by exact QW.qr (qw_move rfl)) ?_
  refine rg_nil ?_
  refine qg_then ?_
  refine cg_block ?_
  refine cg_loop (fun E' L' m => ∃ (k : Nat), k ≤ (srt l.has).length ∧ E' = [(0, PT bl), (5, .slice pn (namesOf l.has).length cn), (41, .slice pr (srt l.has).length cr), (42, I (srt l.has).length), (43, I k)] ∧ L' = cat [Bn, K, R] F ∧ m = (srt l.has).length - k)
    _ _ _ ⟨0, by omega, rfl, rfl, rfl⟩ (by repeat (first | exact Sub.nil | refine Sub.cons rfl ?_ | refine Sub.cons (congrArg (fun z => some (Value.int IntKind.i64 z)) (by omega)) ?_)) (List.Perm.refl _) ?_
  rintro _ _ _ ⟨k, hk, rfl, rfl, rfl⟩
  unfold PT
  refine cg_seq ?_
  refine cg_region ?_
  refine rg_split (.inl rfl) rfl rfl (by exact qc_lss rfl rfl) ?_ ?_
  · intro hlt
    have hkl : k < (srt l.has).length := by omega
    obtain ⟨bN, oN, AN, tN, fN, rfl, hmN, hsN⟩ := hRr (by omega)
    have hel : Seg AN (oN + (k : Int).toNat * 2) [encStr (srt l.has)[k].1, encStr (srt l.has)[k].2] := hsN.elem (enc := encE) (k := 2) (fun _ => rfl) hkl
    have hmN2 := hRB _ hmN
    obtain ⟨bM, oM, AM, tM, fM, rfl, hmM, hsM⟩ := hRn (by omega)
    have hkn : k < (namesOf l.has).length := by omega
    have hnk : (namesOf l.has)[k] = (srt l.has)[k].1 := by rw [srt_get]
    have hgM : AM[oM + (k : Int).toNat * 1]? = some (encStr (srt l.has)[k].1) := by
      rw [← hnk]
      exact (hsM.elem (enc := encN) (k := 1) (fun _ => rfl) hkn).get (i := 0) rfl
    have hgk : getG l.has (srt l.has)[k].1 = some (srt l.has)[k].2 := (getG_some hnd).2 ((mem_srt hnd).1 (List.getElem_mem hkl))
    refine rg_nil ?_
    refine qg_then ?_
    refine cg_seq ?_
    refine cg_true rfl ?_
    refine cg_skip ?_
    refine qg_then ?_
    refine cg_seq ?_
    refine cg_block ?_
    refine cg_seq ?_
    refine cg_region ?_
    refine rg_q (.inl rfl) rfl rfl (by exact QW.qr (qw_move rfl)) ?_
    refine rg_q (.inl rfl) rfl rfl (by exact QW.qr (qw_indexAddr rfl rfl (by omega) (by omega))) ?_
    refine rg_q (.inl rfl) rfl rfl (by exact qr_loadS rfl (by repeat (first | exact hmN2 | exact List.mem_append_left _ hmN2 | apply List.mem_append_right)) hel rfl) ?_
    refine rg_e (.inl rfl) rfl rfl (by exact ev_alloc (by first | exact CellsOf.agg | exact CellsOf.one rfl)) ?_
    rintro _ _ ⟨b7, rfl, rfl⟩
    refine rg_q (.inl rfl) rfl rfl (by exact QW.qr (qw_assign rfl)) ?_
    refine rg_e0 (.inl rfl) rfl (by exact ev_store rfl rfl (by first | exact CellsOf.agg | exact CellsOf.one rfl) (by repeat (first | exact List.Mem.head _ | apply List.Mem.tail | apply List.mem_append_right | assumption)) (by repeat (first | exact SetSeg.done | apply SetSeg.take | apply SetSeg.skip)) rfl rfl (by repeat (first | exact Upd.here | apply Upd.there | apply Upd.app)) (by first | exact Or.inl ⟨inferInstance, rfl⟩ | exact Or.inr inferInstance)) ?_
    rintro _ _ ⟨rfl, rfl⟩
    refine rg_nil ?_
    refine qg_then ?_
    refine cg_seq ?_
    refine cg_region ?_
    refine rg_q (.inl rfl) rfl rfl (by exact QW.qr (qw_move rfl)) ?_
    refine rg_q (.inl rfl) rfl rfl (by exact QW.qr (qw_fieldAddr rfl)) ?_
    refine rg_q (.inl rfl) rfl rfl (by exact qr_load1 rfl (by repeat (first | exact List.Mem.head _ | apply List.Mem.tail | apply List.mem_append_right | assumption)) rfl) ?_
    refine rg_e (.inl rfl) rfl rfl (by exact ev_call0 rfl (.cons rfl (.cons rfl (.nil))) ((get_in bl b0 b1 l K (srt l.has)[k].1 O (cat [[(b7, _)], Bn, R] F) hl hlen2).pre (fun w h => h.perm (cat_perm (ls' := [K, [(b7, _)], Bn, R]) (ls := [[(b7, _)], Bn, K, R]) (by repeat (first | exact PermM.nil | refine PermM.cons (by repeat (first | exact Ins.here | apply Ins.there)) ?_)))))) ?_
    rintro _ _ ⟨gv, Bg, rfl, rfl, hgv⟩
    rw [hgk] at hgv ⊢
    simp only [Option.isSome_some, Option.getD_some] at hgv ⊢
    obtain ⟨pg, cg, rfl, _⟩ := id hgv
    refine rg_q (.inl rfl) rfl rfl (by exact QW.qr (qw_move rfl)) ?_
    refine rg_q (.inl rfl) rfl rfl (by exact QW.qr (qw_extract rfl rfl)) ?_
    refine rg_q (.inl rfl) rfl rfl (by exact QW.qr (qw_extract rfl rfl)) ?_
    refine rg_q (.inl rfl) rfl rfl (by exact QW.qr (qw_assign rfl)) ?_
    refine rg_q (.inl rfl) rfl rfl (by exact QW.qr (qw_assign rfl)) ?_
    refine rg_nil ?_
    refine qg_then ?_
    refine cg_seq ?_
    refine cg_draw follows (.op 0 false (.op 1 false (.op 2 false (.op 3 false (.op 4 false (.op 5 false (.op 6 false (.op 7 false (.op 8 false (.op 9 false (.op 10 false (.op 11 false (.op 12 false (.op 13 false (.op 14 false (.op 15 false (.op 16 false (.op 17 false .done)))))))))))))))))) _ (by kernel_rfl) (SubP.of (List.Sublist.refl _)) ?_
    refine dg_w rfl rfl (.inl rfl) rfl rfl (by exact qw_move rfl) ?_
    refine dg_w rfl rfl (.inl rfl) rfl rfl (by exact qw_move rfl) ?_
    refine dg_w rfl rfl (.inl rfl) rfl rfl (by exact qw_indexAddr rfl rfl (by omega) (by omega)) ?_
    refine dg_r rfl rfl rfl (.inl rfl) rfl rfl (by exact qr_load1' rfl (by repeat (first | exact hmM | exact List.mem_append_left _ hmM | apply List.mem_append_right)) hgM) ?_
    refine dg_w rfl rfl (.inl rfl) rfl rfl (by exact qw_fieldAddr rfl) ?_
    refine dg_r rfl rfl rfl (.inl rfl) rfl rfl (by exact qr_load1 rfl (mem_cat (ls := [Bg, K, [(b7, _)], Bn, R]) (s := [(b7, _)]) (by repeat (first | exact List.Mem.head _ | apply List.Mem.tail)) (List.Mem.head _)) rfl) ?_
    refine dg_w rfl rfl (.inl rfl) rfl rfl (by exact qw_val (v' := .bool false) (qw_neq_str rfl rfl) (by simp)) ?_
    refine dg_w rfl rfl (.inl rfl) rfl rfl (by exact qw_move rfl) ?_
    refine dg_w rfl rfl (.inr (guard_mk rfl rfl rfl rfl)) rfl rfl (by exact qw_move rfl) ?_
    refine dg_w rfl rfl (.inr (guard_mk rfl rfl rfl rfl)) rfl rfl (by exact qw_not rfl) ?_
    refine dg_w rfl rfl (.inl rfl) rfl rfl (by exact qw_pick_f rfl rfl) ?_
    refine dg_w rfl rfl (.inl rfl) rfl rfl (by exact qw_move rfl) ?_
    refine dg_w rfl rfl (.inr (guard_mk rfl rfl rfl rfl)) rfl rfl (by exact qw_move rfl) ?_
    refine dg_r rfl rfl rfl (.inr (guard_mk rfl rfl rfl rfl)) rfl rfl (by exact qr_bytesToStr (e := 5) rfl (hgv.mono (fun q hq => by repeat (first | exact hq | exact List.mem_append_left _ hq | apply List.mem_append_right))).w) ?_
    refine dg_w rfl rfl (.inr (guard_mk rfl rfl rfl rfl)) rfl rfl (by exact qw_fieldAddr rfl) ?_
    refine dg_r rfl rfl rfl (.inr (guard_mk rfl rfl rfl rfl)) rfl rfl (by exact qr_load1 rfl (mem_cat (ls := [Bg, K, [(b7, _)], Bn, R]) (s := [(b7, _)]) (by repeat (first | exact List.Mem.head _ | apply List.Mem.tail)) (List.Mem.head _)) rfl) ?_
    refine dg_w rfl rfl (.inr (guard_mk rfl rfl rfl rfl)) rfl rfl (by exact qw_val (v' := .bool false) (qw_neq_str rfl rfl) (by simp)) ?_
    refine dg_w rfl rfl (.inl rfl) rfl rfl (by exact qw_pick_f rfl rfl) ?_
    refine dg_nil ?_
    refine qg_then ?_
    refine cg_false rfl ?_
    refine cg_skip ?_
    refine qg_block ?_
    refine qg_then ?_
    refine cg_region ?_
    refine rg_q (.inl rfl) rfl rfl (by exact QW.qr (qw_add_in rfl rfl (by unfold inK; omega))) ?_
    refine rg_q (.inl rfl) rfl rfl (by exact QW.qr (qw_move rfl)) ?_
    refine rg_nil ?_
    exact qg_round_sp _ _ _ ⟨k + 1, by omega, rfl, rfl, rfl⟩ (by repeat (first | exact Sub.nil | refine Sub.cons rfl ?_ | refine Sub.cons (congrArg (fun z => some (Value.int IntKind.i64 z)) (by omega)) ?_)) (cat_sub (ls' := [Bn, K, R]) (ls := [Bg, K, [(b7, _)], Bn, R]) (by repeat (first | exact SubM.nil | refine SubM.cons (by repeat (first | exact Ins.here | apply Ins.there)) ?_))) (by omega)
  · intro hlt
    refine rg_nil ?_
    refine qg_then ?_
    refine cg_seq ?_
    refine cg_false rfl ?_
    refine cg_exit ?_
    refine qg_then_exit ?_
    refine qg_then_exit ?_
    refine qg_block_here ?_
    refine qg_then ?_
    refine cg_seq ?_
    refine cg_region ?_
    refine rg_q (.inl rfl) rfl rfl (by exact QW.qr (qw_assign rfl)) ?_
    refine rg_nil ?_
    refine qg_then ?_
    refine cg_ret ?_
    exact qg_end_sp (.inl rfl) _ (.cons (.tmp rfl) (.nil)) _ (cat_sub (ls' := [K, R]) (ls := [Bn, K, R]) (by repeat (first | exact SubM.nil | refine SubM.cons (by repeat (first | exact Ins.here | apply Ins.there)) ?_))) ⟨rfl, rfl⟩

end Go.Proofs.Ytcbbogaanebefaa