/-
  THE WALKS of the document's logbook: Compact, Open; its calls over two slabs. Conditions: sizes.
-/
import Derived.Test.YtcbbogaanebefaaB32
namespace Go.Proofs.Ytcbbogaanebefaa
open Fw
open Go.Proofs (encStr)
set_option linter.unusedVariables false
set_option linter.unusedSimpArgs false
set_option maxRecDepth 100000
set_option maxHeartbeats 2000000

theorem rcompact_ca (bl ba bo : Nat) (l : Lb) (so : Slab) (K Ko : List Blk) (O : Out) (F : List Blk) (hl : RLbAt bl ba bo l K) (hs : RSlabAt bo so Ko) (hsz : sizeS so ≤ 300000) (hlife : isU32 l.life) (hnd : (l.has.map Prod.fst).Nodup) (hcnt : l.has.length ≤ 300000) (hlen : ∀ t ∈ l.has, t.1.length ≤ 100000 ∧ t.2.length ≤ 600000) (hbytes : (compactB l).length ≤ 600000) :
    CA Try.prog 27 [PT bl] O (cat [K, Ko] F) fun v L' => v = I (compactL l so).2.2 ∧ (((compactL l so).2.2 ≠ 0 ∧ ∃ K2 Ko2, L' = cat [K2, Ko2] F ∧ RLbAt bl ba bo (compactL l so).1 K2 ∧ RSlabAt bo (compactL l so).2.1 Ko2) ∨
      ((compactL l so).2.2 = 0 ∧ ∃ K2 Ko2, L' = cat [K2, Ko2] F ∧ RLbAt bl bo ba (compactL l so).1 K2 ∧ RSlabAt bo (compactL l so).2.1 Ko2)) := by
  obtain ⟨b0, b1, lv, Bv, hon, hown, rfl⟩ := id hl
  rw [rlb_open]
  obtain ⟨hga, hgo, ha0, ha2⟩ := ronAt_get (lv := lv) hon
  have hsl := srt_len l.has
  have hnl := namesOf_len l.has
  obtain ⟨pv, cv, rfl, _, _, _, hRv⟩ := id (hown.rd (fun _ => rfl) (by decide))
  unfold isU32 at hlife
  have hcb : (compactB l).length = (recF 1 [] (numF (l.life + 1) 4)).length + (entriesF l.has (namesOf l.has)).length + (recF 4 [] []).length := by unfold compactB; rw [List.length_append, List.length_append]
  have hz1 := eraseS_size so
  have hz2 := appendS_size (eraseS so).1 (compactB l)
  unfold sizeS at hsz hz1 hz2
  unfold rlbBlk PT
  refine ca_enter Try.func27 rfl rfl ?_
  rw [Try.ntmps27]
  simp only [envOf]
  refine cg_seq ?_
  refine cg_region ?_
  refine rg_q (.inl rfl) rfl rfl (by exact QW.qr (qw_assign rfl)) ?_
  refine rg_nil ?_
  refine qg_then ?_
  refine cg_seq ?_
  refine cg_seq ?_
  refine cg_region ?_
  refine rg_q (.inl rfl) rfl rfl (by exact QW.qr (qw_move rfl)) ?_
  refine rg_q (.inl rfl) rfl rfl (by exact QW.qr (qw_nilCheck rfl)) ?_
  refine rg_q (.inl rfl) rfl rfl (by exact QW.qr (qw_fieldAddr rfl)) ?_
  refine rg_q (.inl rfl) rfl rfl (by exact qr_load1 rfl (by repeat (first | exact List.Mem.head _ | apply List.Mem.tail | apply List.mem_append_right | assumption)) rfl) ?_
  refine rg_split (.inl rfl) rfl rfl (by exact qc_neq rfl rfl) ?_ ?_
  · intro hd
    have hfin : compactL l so = (l, so, l.dead) := by rw [compactL, if_pos hd]
    have h0 := hd
    refine rg_nil ?_
    refine qg_then ?_
    refine cg_true rfl ?_
    refine cg_seq ?_
    refine cg_region ?_
    refine rg_q (.inl rfl) rfl rfl (by exact QW.qr (qw_move rfl)) ?_
    refine rg_q (.inl rfl) rfl rfl (by exact QW.qr (qw_nilCheck rfl)) ?_
    refine rg_q (.inl rfl) rfl rfl (by exact QW.qr (qw_fieldAddr rfl)) ?_
    refine rg_q (.inl rfl) rfl rfl (by exact qr_load1 rfl (by repeat (first | exact List.Mem.head _ | apply List.Mem.tail | apply List.mem_append_right | assumption)) rfl) ?_
    refine rg_q (.inl rfl) rfl rfl (by exact QW.qr (qw_assign rfl)) ?_
    refine rg_nil ?_
    refine qg_then ?_
    refine cg_ret ?_
    refine qg_then_ret ?_
    exact qg_end (.inl rfl) _ (.cons (.tmp rfl) (.nil)) _ (List.Sublist.refl _) ⟨by rw [hfin] <;> rfl, .inl ⟨by rw [hfin]; exact h0, _, Ko, rfl, by rw [hfin]; exact hl, by rw [hfin]; exact hs⟩⟩
  · intro hd
    refine rg_nil ?_
    refine qg_then ?_
    refine cg_false rfl ?_
    refine cg_skip ?_
    refine qg_then ?_
    refine cg_seq ?_
    refine cg_seq ?_
    refine cg_region ?_
    refine rg_q (.inl rfl) rfl rfl (by exact QW.qr (qw_move rfl)) ?_
    refine rg_q (.inl rfl) rfl rfl (by exact QW.qr (qw_nilCheck rfl)) ?_
    refine rg_q (.inl rfl) rfl rfl (by exact QW.qr (qw_fieldAddr rfl)) ?_
    refine rg_q (.inl rfl) rfl rfl (by exact qr_load1 rfl (by repeat (first | exact List.Mem.head _ | apply List.Mem.tail | apply List.mem_append_right | assumption)) rfl) ?_
    refine rg_split (.inl rfl) rfl rfl (by exact qc_eql rfl rfl) ?_ ?_
    · intro hm
      have hfin : compactL l so = (l, so, 8) := by rw [compactL, if_neg hd, if_pos hm]
      have h0 : (8 : Int) ≠ 0 := by decide
      refine rg_nil ?_
      refine qg_then ?_
      refine cg_true rfl ?_
      refine cg_seq ?_
      refine cg_region ?_
      refine rg_q (.inl rfl) rfl rfl (by exact QW.qr (qw_assign rfl)) ?_
      refine rg_nil ?_
      refine qg_then ?_
      refine cg_ret ?_
      refine qg_then_ret ?_
      exact qg_end (.inl rfl) _ (.cons (.tmp rfl) (.nil)) _ (List.Sublist.refl _) ⟨by rw [hfin] <;> rfl, .inl ⟨by rw [hfin]; exact h0, _, Ko, rfl, by rw [hfin]; exact hl, by rw [hfin]; exact hs⟩⟩
    · intro hm
      refine rg_nil ?_
      refine qg_then ?_
      refine cg_false rfl ?_
      refine cg_skip ?_
      refine qg_then ?_
      refine cg_seq ?_
      refine cg_region ?_
      refine rg_q (.inl rfl) rfl rfl (by exact QW.qr (qw_move rfl)) ?_
      refine rg_q (.inl rfl) rfl rfl (by exact QW.qr (qw_nilCheck rfl)) ?_
      refine rg_q (.inl rfl) rfl rfl (by exact QW.qr (qw_fieldAddr rfl)) ?_
      refine rg_q (.inl rfl) rfl rfl (by exact qr_load1 rfl (by repeat (first | exact List.Mem.head _ | apply List.Mem.tail | apply List.mem_append_right | assumption)) rfl) ?_
      refine rg_q (.inl rfl) rfl rfl (by exact QW.qr (qw_conv_in rfl (by unfold inK; omega))) ?_
      refine rg_q (.inl rfl) rfl rfl (by exact QW.qr (qw_add_in rfl rfl (by unfold inK; omega))) ?_
      refine rg_e (.inl rfl) rfl rfl (by exact ev_call0 rfl (.cons rfl (.cons rfl (.cons rfl (.nil)))) (rnum_ca (l.life + 1) (by omega) (by omega) O _)) ?_
      rintro nv _ ⟨B1, ho1, rfl⟩
      refine rg_q (.inl rfl) rfl rfl (by exact qr_bytesToStr (e := 5) rfl ((ho1.rd (fun _ => rfl) (by decide)).mono (fun q hq => List.mem_append_left _ hq)).w) ?_
      refine rg_e (.inl rfl) rfl rfl (by exact ev_call0 rfl (.cons rfl (.cons rfl (.cons rfl (.nil)))) (rrecord_ca 1 [] (numF (l.life + 1) 4) (by decide) (by rw [numF_len]; decide) O _)) ?_
      rintro rv _ ⟨Br, hor, rfl⟩
      obtain ⟨pr, cr, rfl, _⟩ := id (hor.rd (fun _ => rfl) (by decide))
      refine rg_q (.inl rfl) rfl rfl (by exact QW.qr (qw_assign rfl)) ?_
      refine rg_nil ?_
      refine qg_then ?_
      refine cg_seq ?_
      refine cg_seq ?_
      refine cg_region ?_
      refine rg_q (.inl rfl) rfl rfl (by exact QW.qr (qw_assign rfl)) ?_
      refine rg_nil ?_
      refine qg_then ?_
      refine cg_block ?_
      refine cg_loop (fun E' L' m => ∃ (k : Nat) (rv : Value) (Br : List Blk), k ≤ (srt l.has).length ∧ OwnL 5 encB 1 rv (recF 1 [] (numF (l.life + 1) 4) ++ entriesF l.has ((namesOf l.has).take k)) Br ∧ E' = [(0, PT bl), (3, rv), (4, I k)] ∧
        L' = cat [Br, B1, [rlbBlk bl b0 b1 (.slice pv (srt l.has).length cv) l], Bv, Ko] F ∧ m = (srt l.has).length - k)
        _ _ _ ⟨0, _, Br, by omega, by simpa [entriesF] using hor, rfl, rfl, rfl⟩ (by repeat (first | exact Sub.nil | refine Sub.cons rfl ?_ | refine Sub.cons (congrArg (fun z => some (Value.int IntKind.i64 z)) (by omega)) ?_)) (List.Perm.refl _) ?_
      clear hor
      rintro _ _ _ ⟨k, rv, Br, hk, hor, rfl, rfl, rfl⟩
      obtain ⟨pr, cr, rfl, _⟩ := id (hor.rd (fun _ => rfl) (by decide))
      unfold rlbBlk PT
      have hel := entries_le l.has (namesOf l.has) k
      refine cg_seq ?_
      refine cg_seq ?_
      refine cg_region ?_
      refine rg_q (.inl rfl) rfl rfl (by exact QW.qr (qw_move rfl)) ?_
      refine rg_q (.inl rfl) rfl rfl (by exact QW.qr (qw_move rfl)) ?_
      refine rg_q (.inl rfl) rfl rfl (by exact QW.qr (qw_nilCheck rfl)) ?_
      refine rg_q (.inl rfl) rfl rfl (by exact QW.qr (qw_fieldAddr rfl)) ?_
      refine rg_q (.inl rfl) rfl rfl (by exact qr_load1 rfl (by repeat (first | exact List.Mem.head _ | apply List.Mem.tail | apply List.mem_append_right | assumption)) rfl) ?_
      refine rg_q (.inl rfl) rfl rfl (by exact QW.qr (qw_len_slice (t := 89) (.cons rfl (.nil)) rfl)) ?_
      refine rg_split (.inl rfl) rfl rfl (by exact qc_lss rfl rfl) ?_ ?_
      · intro hlt
        have hkl : k < (srt l.has).length := by omega
        obtain ⟨bN, oN, AN, tN, fN, rfl, hmN, hsN⟩ := hRv (by omega)
        have hel2 : Seg AN (oN + (k : Int).toNat * 2) [encStr (srt l.has)[k].1, encStr (srt l.has)[k].2] := hsN.elem (enc := encE) (k := 2) (fun _ => rfl) hkl
        have hg0 : AN[oN + (k : Int).toNat * 2 + 0]? = some (encStr (srt l.has)[k].1) := hel2.get (i := 0) rfl
        have hg1 : AN[oN + (k : Int).toNat * 2 + 1]? = some (encStr (srt l.has)[k].2) := hel2.get (i := 1) rfl
        have hmem : (srt l.has)[k] ∈ l.has := (mem_srt hnd).1 (List.getElem_mem hkl)
        have hlens := hlen _ hmem
        have hsg := srt_get hkl
        rw [hsg] at hg0 hg1 hlens
        simp only at hg0 hg1 hlens
        have hstep := congrArg List.length (entries_step (has := l.has) (ns := namesOf l.has) (k := k) (by omega))
        rw [List.length_append] at hstep
        have hel3 := entries_le l.has (namesOf l.has) (k + 1)
        refine rg_nil ?_
        refine qg_then ?_
        refine cg_true rfl ?_
        refine cg_skip ?_
        refine qg_then ?_
        refine cg_seq ?_
        refine cg_block ?_
        refine cg_draw follows (.op 0 false (.op 1 false (.op 2 false (.op 3 false (.op 4 false (.op 5 false (.op 6 false (.op 7 false (.op 8 false (.op 9 false (.op 10 false (.op 11 false (.op 12 false (.op 13 false (.op 14 false (.op 15 false (.op 16 false (.op 17 false (.op 18 true (.op 19 false .done)))))))))))))))))))) _ (by kernel_rfl) (SubP.of (List.sublist_append_right Br _)) ?_
        refine dg_w rfl rfl (.inl rfl) rfl rfl (by exact qw_move rfl) ?_
        refine dg_w rfl rfl (.inl rfl) rfl rfl (by exact qw_move rfl) ?_
        refine dg_w rfl rfl (.inl rfl) rfl rfl (by exact qw_nilCheck rfl) ?_
        refine dg_w rfl rfl (.inl rfl) rfl rfl (by exact qw_fieldAddr rfl) ?_
        refine dg_r rfl rfl rfl (.inl rfl) rfl rfl (by exact qr_load1 rfl (by repeat (first | exact List.Mem.head _ | apply List.Mem.tail | apply List.mem_append_right | assumption)) rfl) ?_
        refine dg_w rfl rfl (.inl rfl) rfl rfl (by exact qw_move rfl) ?_
        refine dg_w rfl rfl (.inl rfl) rfl rfl (by exact qw_indexAddr rfl rfl (by omega) (by omega)) ?_
        refine dg_w rfl rfl (.inl rfl) rfl rfl (by exact qw_fieldAddr rfl) ?_
        refine dg_r rfl rfl rfl (.inl rfl) rfl rfl (by exact qr_load1' rfl (mem_cat (ls := [B1, [_], Bv, Ko]) (s := Bv) (by repeat (first | exact List.Mem.head _ | apply List.Mem.tail)) hmN) hg0) ?_
        refine dg_w rfl rfl (.inl rfl) rfl rfl (by exact qw_move rfl) ?_
        refine dg_w rfl rfl (.inl rfl) rfl rfl (by exact qw_nilCheck rfl) ?_
        refine dg_w rfl rfl (.inl rfl) rfl rfl (by exact qw_fieldAddr rfl) ?_
        refine dg_r rfl rfl rfl (.inl rfl) rfl rfl (by exact qr_load1 rfl (by repeat (first | exact List.Mem.head _ | apply List.Mem.tail | apply List.mem_append_right | assumption)) rfl) ?_
        refine dg_w rfl rfl (.inl rfl) rfl rfl (by exact qw_move rfl) ?_
        refine dg_w rfl rfl (.inl rfl) rfl rfl (by exact qw_indexAddr rfl rfl (by omega) (by omega)) ?_
        refine dg_w rfl rfl (.inl rfl) rfl rfl (by exact qw_fieldAddr rfl) ?_
        refine dg_r rfl rfl rfl (.inl rfl) rfl rfl (by exact qr_load1' rfl (mem_cat (ls := [B1, [_], Bv, Ko]) (s := Bv) (by repeat (first | exact List.Mem.head _ | apply List.Mem.tail)) hmN) hg1) ?_
        refine dg_e rfl rfl (.inl rfl) rfl rfl (by exact ev_call0 rfl (.cons rfl (.cons rfl (.cons rfl (.nil)))) (rrecord_ca 2 _ _ hlens.1 hlens.2 O _)) ?_
        rintro ev2 _ ⟨Be, hoe, rfl⟩
        refine ⟨(SubP.of (List.Sublist.trans (List.sublist_append_right Br _) (List.sublist_append_right Be _))), ?_⟩
        refine dg_e rfl rfl (.inl rfl) rfl rfl (by exact ev_appendL (ys := recF 2 _ _) (T := 36) (T2 := 36) (.cons rfl (.cons rfl .nil)) rfl rfl hor (R := cat [Be, B1, [_], Bv, Ko] F) (cat_perm (ls' := [Br, Be, B1, [_], Bv, Ko]) (ls := [Be, Br, B1, [_], Bv, Ko]) (by repeat (first | exact PermM.nil | refine PermM.cons (by repeat (first | exact Ins.here | apply Ins.there)) ?_))) ((hoe.rd (fun _ => rfl) (by decide)).mono (fun q hq => List.mem_append_left _ hq)).src (fun _ => rfl) encB_one (by rw [List.length_append]; omega) rfl rfl rfl rfl) ?_
        rintro rv2 _ ⟨Br2, hor2, rfl⟩
        obtain ⟨pr2, cr2, rfl, _⟩ := id (hor2.rd (fun _ => rfl) (by decide))
        refine ⟨(SubP.of (List.Sublist.trans (List.sublist_append_right Be _) (List.sublist_append_right Br2 _))), ?_⟩
        refine dg_w rfl rfl (.inl rfl) rfl rfl (by exact qw_assign rfl) ?_
        refine dg_nil ?_
        refine qg_block ?_
        refine qg_then ?_
        refine cg_region ?_
        refine rg_q (.inl rfl) rfl rfl (by exact QW.qr (qw_move rfl)) ?_
        refine rg_q (.inl rfl) rfl rfl (by exact QW.qr (qw_add_in rfl rfl (by unfold inK; omega))) ?_
        refine rg_q (.inl rfl) rfl rfl (by exact QW.qr (qw_assign rfl)) ?_
        refine rg_nil ?_
        exact qg_round_sp _ _ _ ⟨k + 1, _, Br2, by omega, by rw [entries_step (by omega), ← List.append_assoc]; exact hor2, rfl, rfl, rfl⟩ (by repeat (first | exact Sub.nil | refine Sub.cons rfl ?_ | refine Sub.cons (congrArg (fun z => some (Value.int IntKind.i64 z)) (by omega)) ?_)) (cat_sub (ls' := [Br2, B1, [_], Bv, Ko]) (ls := [Br2, Be, B1, [_], Bv, Ko]) (by repeat (first | exact SubM.nil | refine SubM.cons (by repeat (first | exact Ins.here | apply Ins.there)) ?_))) (by omega)
      · intro hlt
        obtain rfl : k = (srt l.has).length := by omega
        have htk : (namesOf l.has).take (srt l.has).length = namesOf l.has := by rw [hsl, ← hnl, List.take_length]
        rw [htk] at hor ⊢
        refine rg_nil ?_
        refine qg_then ?_
        refine cg_false rfl ?_
        refine cg_exit ?_
        refine qg_then_exit ?_
        refine qg_then_exit ?_
        refine qg_block_here ?_
        refine qg_then ?_
        refine cg_seq ?_
        refine cg_region ?_
        refine rg_q (.inl rfl) rfl rfl (by exact QW.qr (qw_move rfl)) ?_
        refine rg_e (.inl rfl) rfl rfl (by exact ev_call0 rfl (.cons rfl (.cons rfl (.cons rfl (.nil)))) (rrecord_ca 4 [] [] (by decide) (by decide) O _)) ?_
        rintro ev2 _ ⟨Be, hoe, rfl⟩
        refine rg_e (.inl rfl) rfl rfl (by exact ev_appendL (xs := recF 1 [] (numF (l.life + 1) 4) ++ entriesF l.has (namesOf l.has)) (ys := recF 4 [] []) (T := 36) (T2 := 36) (.cons rfl (.cons rfl .nil)) rfl rfl hor (R := cat [Be, B1, [_], Bv, Ko] F) (cat_perm (ls' := [Br, Be, B1, [_], Bv, Ko]) (ls := [Be, Br, B1, [_], Bv, Ko]) (by repeat (first | exact PermM.nil | refine PermM.cons (by repeat (first | exact Ins.here | apply Ins.there)) ?_))) ((hoe.rd (fun _ => rfl) (by decide)).mono (fun q hq => List.mem_append_left _ hq)).src (fun _ => rfl) encB_one (by rw [List.length_append]; omega) rfl rfl rfl rfl) ?_
        rintro rv3 _ ⟨Br3, hor3, rfl⟩
        rw [show recF 1 [] (numF (l.life + 1) 4) ++ entriesF l.has (namesOf l.has) ++ recF 4 [] [] = compactB l from rfl] at hor3
        obtain ⟨pr3, cr3, rfl, _⟩ := id (hor3.rd (fun _ => rfl) (by decide))
        refine rg_q (.inl rfl) rfl rfl (by exact QW.qr (qw_assign rfl)) ?_
        refine rg_nil ?_
        refine qg_then ?_
        refine cg_seq ?_
        refine cg_draw follows (.op 0 false (.op 1 false (.op 2 false (.op 3 false (.op 4 false (.op 5 false (.op 6 false (.op 7 false (.op 8 false (.op 9 false (.op 10 false .done))))))))))) _ (by kernel_rfl) (SubP.of (List.Sublist.refl _)) ?_
        refine dg_w rfl rfl (.inl rfl) rfl rfl (by exact qw_move rfl) ?_
        refine dg_w rfl rfl (.inl rfl) rfl rfl (by exact qw_move rfl) ?_
        refine dg_w rfl rfl (.inl rfl) rfl rfl (by exact qw_nilCheck rfl) ?_
        refine dg_w rfl rfl (.inl rfl) rfl rfl (by exact qw_fieldAddr rfl) ?_
        refine dg_r rfl rfl rfl (.inl rfl) rfl rfl (by exact qr_load1 rfl (by repeat (first | exact List.Mem.head _ | apply List.Mem.tail | apply List.mem_append_right | assumption)) rfl) ?_
        refine dg_w rfl rfl (.inl rfl) rfl rfl (by exact qw_sub_in rfl rfl (by unfold inK; omega)) ?_
        refine dg_w rfl rfl (.inl rfl) rfl rfl (by exact qw_nilCheck rfl) ?_
        refine dg_w rfl rfl (.inl rfl) rfl rfl (by exact qw_fieldAddr rfl) ?_
        refine dg_w rfl rfl (.inl rfl) rfl rfl (by exact qw_indexAddr_arr rfl rfl (by omega) (by omega)) ?_
        refine dg_r rfl rfl rfl (.inl rfl) rfl rfl (by exact qr_load1 rfl (by repeat (first | exact List.Mem.head _ | apply List.Mem.tail | apply List.mem_append_right | assumption)) (by exact hgo)) ?_
        refine dg_w rfl rfl (.inl rfl) rfl rfl (by exact qw_assign rfl) ?_
        refine dg_nil ?_
        refine qg_then ?_
        refine cg_seq ?_
        refine cg_region ?_
        refine rg_q (.inl rfl) rfl rfl (by exact QW.qr (qw_move rfl)) ?_
        refine rg_e (.inl rfl) rfl rfl (by exact ev_call0 rfl (.cons rfl (.nil)) ((rerase_ca bo so Ko O (cat [Br3, Be, B1, [_], Bv] F) hs (by omega)).pre (fun w h => h.perm (cat_perm (ls' := [Ko, Br3, Be, B1, [_], Bv]) (ls := [Br3, Be, B1, [_], Bv, Ko]) (by repeat (first | exact PermM.nil | refine PermM.cons (by repeat (first | exact Ins.here | apply Ins.there)) ?_)))))) ?_
        rintro _ _ ⟨rfl, Kq, rfl, hsq⟩
        refine rg_q (.inl rfl) rfl rfl (by exact QW.qr (qw_assign rfl)) ?_
        refine rg_nil ?_
        refine qg_then ?_
        refine cg_seq ?_
        refine cg_seq ?_
        refine cg_region ?_
        refine rg_q (.inl rfl) rfl rfl (by exact QW.qr (qw_move rfl)) ?_
        refine rg_split (.inl rfl) rfl rfl (by exact qc_eql rfl rfl) ?_ ?_
        · intro h0
          refine rg_nil ?_
          refine qg_then ?_
          refine cg_true rfl ?_
          refine cg_region ?_
          refine rg_q (.inl rfl) rfl rfl (by exact QW.qr (qw_move rfl)) ?_
          refine rg_q (.inl rfl) rfl rfl (by exact QW.qr (qw_move rfl)) ?_
          refine rg_e (.inl rfl) rfl rfl (by exact ev_call0 rfl (.cons rfl (.cons rfl (.nil))) (rappend_ca bo (eraseS so).1 Kq (compactB l) _ O (cat [Br3, Be, B1, [_], Bv] F) hsq ((hor3.rd (fun _ => rfl) (by decide)).mono (fun q hq => mem_cat (s := Br3) (by repeat (first | exact List.Mem.head _ | apply List.Mem.tail)) hq)) (by omega) hbytes)) ?_
          rintro _ _ ⟨rfl, Kq, rfl, hsq⟩
          refine rg_q (.inl rfl) rfl rfl (by exact QW.qr (qw_assign rfl)) ?_
          refine rg_nil ?_
          refine qg_then ?_
          refine cg_seq ?_
          refine cg_seq ?_
          refine cg_region ?_
          refine rg_q (.inl rfl) rfl rfl (by exact QW.qr (qw_move rfl)) ?_
          refine rg_split (.inl rfl) rfl rfl (by exact qc_eql rfl rfl) ?_ ?_
          · intro h1
            refine rg_nil ?_
            refine qg_then ?_
            refine cg_true rfl ?_
            refine cg_region ?_
            refine rg_q (.inl rfl) rfl rfl (by exact QW.qr (qw_move rfl)) ?_
            refine rg_e (.inl rfl) rfl rfl (by exact ev_call0 rfl (.cons rfl (.nil)) (rsync_ca bo (appendS (eraseS so).1 (compactB l)).1 Kq O (cat [Br3, Be, B1, [_], Bv] F) hsq (by omega))) ?_
            rintro _ _ ⟨rfl, Kq, rfl, hsq⟩
            refine rg_q (.inl rfl) rfl rfl (by exact QW.qr (qw_assign rfl)) ?_
            refine rg_nil ?_
            refine qg_then ?_
            refine cg_seq ?_
            refine cg_seq ?_
            refine cg_region ?_
            refine rg_q (.inl rfl) rfl rfl (by exact QW.qr (qw_move rfl)) ?_
            refine rg_split (.inl rfl) rfl rfl (by exact qc_neq rfl rfl) ?_ ?_
            · intro h2
              have hx := h2
              have hfin : compactL l so = (failL l (syncS (appendS (eraseS so).1 (compactB l)).1).2, (syncS (appendS (eraseS so).1 (compactB l)).1).1, (syncS (appendS (eraseS so).1 (compactB l)).1).2) := by rw [compactL, if_neg hd, if_neg hm, if_neg (show ¬ (opK (compactB l) 0 so).2 ≠ 0 from fun h => h h0), if_neg (show ¬ (opK (compactB l) 1 (runK (compactB l) so 1)).2 ≠ 0 from fun h => h h1), if_pos (show (opK (compactB l) 2 (runK (compactB l) so 2)).2 ≠ 0 from h2)]; rfl
              refine rg_nil ?_
              refine qg_then ?_
              refine cg_true rfl ?_
              refine cg_seq ?_
              refine cg_region ?_
              refine rg_q (.inl rfl) rfl rfl (by exact QW.qr (qw_move rfl)) ?_
              refine rg_q (.inl rfl) rfl rfl (by exact QW.qr (qw_move rfl)) ?_
              refine rg_e (.inl rfl) rfl rfl (by exact ev_call0 rfl (.cons rfl (.cons rfl (.nil))) ((rfail_ca bl b0 b1 _ l _ O _).pre (fun w h => h.perm (cat_perm (ls' := [[rlbBlk bl b0 b1 _ l], Kq, Br3, Be, B1, Bv]) (ls := [Kq, Br3, Be, B1, [rlbBlk bl b0 b1 _ l], Bv]) (by repeat (first | exact PermM.nil | refine PermM.cons (by repeat (first | exact Ins.here | apply Ins.there)) ?_)))))) ?_
              rintro _ _ ⟨rfl, rfl⟩
              refine rg_q (.inl rfl) rfl rfl (by exact QW.qr (qw_assign rfl)) ?_
              refine rg_nil ?_
              refine qg_then ?_
              refine cg_ret ?_
              refine qg_then_ret ?_
              exact qg_end_sp (.inl rfl) _ (.cons (.tmp rfl) (.nil)) _ (cat_sub (ls' := [[_], Bv, Kq]) (ls := [[_], Kq, Br3, Be, B1, Bv]) (by repeat (first | exact SubM.nil | refine SubM.cons (by repeat (first | exact Ins.here | apply Ins.there)) ?_))) ⟨by rw [hfin] <;> rfl, .inl ⟨by rw [hfin]; exact hx, _, Kq, rfl, by rw [hfin]; exact ⟨b0, b1, _, Bv, hon, hown, rfl⟩, by rw [hfin]; exact hsq⟩⟩
            · intro h2
              have hfin : compactL l so = (⟨1 - l.at_, l.life + 1, l.has, l.dead⟩, (syncS (appendS (eraseS so).1 (compactB l)).1).1, 0) := by rw [compactL, if_neg hd, if_neg hm, if_neg (show ¬ (opK (compactB l) 0 so).2 ≠ 0 from fun h => h h0), if_neg (show ¬ (opK (compactB l) 1 (runK (compactB l) so 1)).2 ≠ 0 from fun h => h h1), if_neg (show ¬ (opK (compactB l) 2 (runK (compactB l) so 2)).2 ≠ 0 from h2)]; rfl
              refine rg_nil ?_
              refine qg_then ?_
              refine cg_false rfl ?_
              refine cg_skip ?_
              refine qg_then ?_
              refine cg_seq ?_
              unfold PT
              refine cg_region ?_
              refine rg_q (.inl rfl) rfl rfl (by exact QW.qr (qw_move rfl)) ?_
              refine rg_q (.inl rfl) rfl rfl (by exact QW.qr (qw_move rfl)) ?_
              refine rg_q (.inl rfl) rfl rfl (by exact QW.qr (qw_nilCheck rfl)) ?_
              refine rg_q (.inl rfl) rfl rfl (by exact QW.qr (qw_fieldAddr rfl)) ?_
              refine rg_q (.inl rfl) rfl rfl (by exact qr_load1 rfl (by repeat (first | exact List.Mem.head _ | apply List.Mem.tail | apply List.mem_append_right | assumption)) rfl) ?_
              refine rg_q (.inl rfl) rfl rfl (by exact QW.qr (qw_sub_in rfl rfl (by unfold inK; omega))) ?_
              refine rg_q (.inl rfl) rfl rfl (by exact QW.qr (qw_nilCheck rfl)) ?_
              refine rg_q (.inl rfl) rfl rfl (by exact QW.qr (qw_fieldAddr rfl)) ?_
              refine rg_e0 (.inl rfl) rfl (by exact ev_store rfl rfl (by first | exact CellsOf.agg | exact CellsOf.one rfl) (by repeat (first | exact List.Mem.head _ | apply List.Mem.tail | apply List.mem_append_right | assumption)) (by repeat (first | exact SetSeg.done | apply SetSeg.take | apply SetSeg.skip)) rfl rfl (by repeat (first | exact Upd.here | apply Upd.there | apply Upd.app)) (by first | exact Or.inl ⟨inferInstance, rfl⟩ | exact Or.inr inferInstance)) ?_
              rintro _ _ ⟨rfl, rfl⟩
              refine rg_nil ?_
              refine qg_then ?_
              refine cg_seq ?_
              refine cg_region ?_
              refine rg_q (.inl rfl) rfl rfl (by exact QW.qr (qw_move rfl)) ?_
              refine rg_q (.inl rfl) rfl rfl (by exact QW.qr (qw_move rfl)) ?_
              refine rg_q (.inl rfl) rfl rfl (by exact QW.qr (qw_nilCheck rfl)) ?_
              refine rg_q (.inl rfl) rfl rfl (by exact QW.qr (qw_fieldAddr rfl)) ?_
              refine rg_q (.inl rfl) rfl rfl (by exact qr_load1 rfl (by repeat (first | exact List.Mem.head _ | apply List.Mem.tail | apply List.mem_append_right | assumption)) rfl) ?_
              refine rg_q (.inl rfl) rfl rfl (by exact QW.qr (qw_add_in rfl rfl (by unfold inK; omega))) ?_
              refine rg_q (.inl rfl) rfl rfl (by exact QW.qr (qw_nilCheck rfl)) ?_
              refine rg_q (.inl rfl) rfl rfl (by exact QW.qr (qw_fieldAddr rfl)) ?_
              refine rg_e0 (.inl rfl) rfl (by exact ev_store rfl rfl (by first | exact CellsOf.agg | exact CellsOf.one rfl) (by repeat (first | exact List.Mem.head _ | apply List.Mem.tail | apply List.mem_append_right | assumption)) (by repeat (first | exact SetSeg.done | apply SetSeg.take | apply SetSeg.skip)) rfl rfl (by repeat (first | exact Upd.here | apply Upd.there | apply Upd.app)) (by first | exact Or.inl ⟨inferInstance, rfl⟩ | exact Or.inr inferInstance)) ?_
              rintro _ _ ⟨rfl, rfl⟩
              refine rg_nil ?_
              refine qg_then ?_
              refine cg_seq ?_
              refine cg_region ?_
              refine rg_q (.inl rfl) rfl rfl (by exact QW.qr (qw_assign rfl)) ?_
              refine rg_nil ?_
              refine qg_then ?_
              refine cg_ret ?_
              exact qg_end_sp (.inl rfl) _ (.cons (.tmp rfl) (.nil)) _ (cat_sub (ls' := [[_], Bv, Kq]) (ls := [Kq, Br3, Be, B1, [_], Bv]) (by repeat (first | exact SubM.nil | refine SubM.cons (by repeat (first | exact Ins.here | apply Ins.there)) ?_))) ⟨by rw [hfin] <;> rfl, .inr ⟨by rw [hfin], _, Kq, rfl, by rw [hfin]; exact ⟨b0, b1, _, Bv, onAt_flip hon, hown, rfl⟩, by rw [hfin]; exact hsq⟩⟩
          · intro h1
            have hx := h1
            have hfin : compactL l so = (failL l (appendS (eraseS so).1 (compactB l)).2, (appendS (eraseS so).1 (compactB l)).1, (appendS (eraseS so).1 (compactB l)).2) := by rw [compactL, if_neg hd, if_neg hm, if_neg (show ¬ (opK (compactB l) 0 so).2 ≠ 0 from fun h => h h0), if_pos (show (opK (compactB l) 1 (runK (compactB l) so 1)).2 ≠ 0 from h1)]; rfl
            refine rg_nil ?_
            refine qg_then ?_
            refine cg_false rfl ?_
            refine cg_skip ?_
            refine qg_then ?_
            refine cg_seq ?_
            refine cg_seq ?_
            refine cg_region ?_
            refine rg_q (.inl rfl) rfl rfl (by exact QW.qr (qw_move rfl)) ?_
            refine rg_q (.inl rfl) rfl rfl (by exact QW.qr (qw_neq_t rfl rfl hx)) ?_
            refine rg_nil ?_
            refine qg_then ?_
            refine cg_true rfl ?_
            refine cg_seq ?_
            refine cg_region ?_
            refine rg_q (.inl rfl) rfl rfl (by exact QW.qr (qw_move rfl)) ?_
            refine rg_q (.inl rfl) rfl rfl (by exact QW.qr (qw_move rfl)) ?_
            refine rg_e (.inl rfl) rfl rfl (by exact ev_call0 rfl (.cons rfl (.cons rfl (.nil))) ((rfail_ca bl b0 b1 _ l _ O _).pre (fun w h => h.perm (cat_perm (ls' := [[rlbBlk bl b0 b1 _ l], Kq, Br3, Be, B1, Bv]) (ls := [Kq, Br3, Be, B1, [rlbBlk bl b0 b1 _ l], Bv]) (by repeat (first | exact PermM.nil | refine PermM.cons (by repeat (first | exact Ins.here | apply Ins.there)) ?_)))))) ?_
            rintro _ _ ⟨rfl, rfl⟩
            refine rg_q (.inl rfl) rfl rfl (by exact QW.qr (qw_assign rfl)) ?_
            refine rg_nil ?_
            refine qg_then ?_
            refine cg_ret ?_
            refine qg_then_ret ?_
            exact qg_end_sp (.inl rfl) _ (.cons (.tmp rfl) (.nil)) _ (cat_sub (ls' := [[_], Bv, Kq]) (ls := [[_], Kq, Br3, Be, B1, Bv]) (by repeat (first | exact SubM.nil | refine SubM.cons (by repeat (first | exact Ins.here | apply Ins.there)) ?_))) ⟨by rw [hfin] <;> rfl, .inl ⟨by rw [hfin]; exact hx, _, Kq, rfl, by rw [hfin]; exact ⟨b0, b1, _, Bv, hon, hown, rfl⟩, by rw [hfin]; exact hsq⟩⟩
        · intro h0
          have hx := h0
          have hfin : compactL l so = (failL l (eraseS so).2, (eraseS so).1, (eraseS so).2) := by rw [compactL, if_neg hd, if_neg hm, if_pos (show (opK (compactB l) 0 so).2 ≠ 0 from h0)]; rfl
          refine rg_nil ?_
          refine qg_then ?_
          refine cg_false rfl ?_
          refine cg_skip ?_
          refine qg_then ?_
          refine cg_seq ?_
          refine cg_seq ?_
          refine cg_region ?_
          refine rg_q (.inl rfl) rfl rfl (by exact QW.qr (qw_move rfl)) ?_
          refine rg_q (.inl rfl) rfl rfl (by exact QW.qr (qw_eql_f rfl rfl hx)) ?_
          refine rg_nil ?_
          refine qg_then ?_
          refine cg_false rfl ?_
          refine cg_skip ?_
          refine qg_then ?_
          refine cg_seq ?_
          refine cg_seq ?_
          refine cg_region ?_
          refine rg_q (.inl rfl) rfl rfl (by exact QW.qr (qw_move rfl)) ?_
          refine rg_q (.inl rfl) rfl rfl (by exact QW.qr (qw_neq_t rfl rfl hx)) ?_
          refine rg_nil ?_
          refine qg_then ?_
          refine cg_true rfl ?_
          refine cg_seq ?_
          refine cg_region ?_
          refine rg_q (.inl rfl) rfl rfl (by exact QW.qr (qw_move rfl)) ?_
          refine rg_q (.inl rfl) rfl rfl (by exact QW.qr (qw_move rfl)) ?_
          refine rg_e (.inl rfl) rfl rfl (by exact ev_call0 rfl (.cons rfl (.cons rfl (.nil))) ((rfail_ca bl b0 b1 _ l _ O _).pre (fun w h => h.perm (cat_perm (ls' := [[rlbBlk bl b0 b1 _ l], Kq, Br3, Be, B1, Bv]) (ls := [Kq, Br3, Be, B1, [rlbBlk bl b0 b1 _ l], Bv]) (by repeat (first | exact PermM.nil | refine PermM.cons (by repeat (first | exact Ins.here | apply Ins.there)) ?_)))))) ?_
          rintro _ _ ⟨rfl, rfl⟩
          refine rg_q (.inl rfl) rfl rfl (by exact QW.qr (qw_assign rfl)) ?_
          refine rg_nil ?_
          refine qg_then ?_
          refine cg_ret ?_
          refine qg_then_ret ?_
          exact qg_end_sp (.inl rfl) _ (.cons (.tmp rfl) (.nil)) _ (cat_sub (ls' := [[_], Bv, Kq]) (ls := [[_], Kq, Br3, Be, B1, Bv]) (by repeat (first | exact SubM.nil | refine SubM.cons (by repeat (first | exact Ins.here | apply Ins.there)) ?_))) ⟨by rw [hfin] <;> rfl, .inl ⟨by rw [hfin]; exact hx, _, Kq, rfl, by rw [hfin]; exact ⟨b0, b1, _, Bv, hon, hown, rfl⟩, by rw [hfin]; exact hsq⟩⟩

end Go.Proofs.Ytcbbogaanebefaa