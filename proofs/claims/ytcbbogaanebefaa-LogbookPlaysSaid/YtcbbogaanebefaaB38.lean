/-
  THE WALK of the law LogbookPlays. Condition: none.
-/
import Derived.Test.YtcbbogaanebefaaB37
namespace Go.Proofs.Ytcbbogaanebefaa
open Fw
open Go.Proofs (encStr)
set_option linter.unusedVariables false
set_option linter.unusedSimpArgs false
set_option maxRecDepth 100000
set_option maxHeartbeats 4000000

theorem ropen3_ca (w0 w1 : Nat) {s0 s1 : Slab} {R0 R1 : List Blk} {l2 : Lb} {s02 s12 : Slab} (O : Out) (F : List Blk) (h0 : RSlabAt w0 s0 R0) (h1 : RSlabAt w1 s1 R1) (hz0 : sizeS s0 ≤ 300000) (hz1 : sizeS s1 ≤ 300000) (hres : openS s0 s1 = (l2, s02, s12, 0)) :
    CA Try.prog 23 [PT w0, PT w1] O (cat [R0, R1] F) fun v L' => ∃ rl R2 R02 R12, v = .tuple #[PT rl, I 0] ∧ L' = cat [R2, R02, R12] F ∧ RLbIn rl w0 w1 l2 R2 ∧ RSlabAt w0 s02 R02 ∧ RSlabAt w1 s12 R12 := by
  have h := ropen_ca w0 w1 s0 s1 R0 R1 h0 h1 hz0 hz1 O F
  rw [hres] at h
  refine h.mono fun v L' h2 => ?_
  rcases h2 with ⟨he, _⟩ | ⟨_, bl, K2, K02, K12, h3⟩
  · exact absurd rfl he
  · exact ⟨bl, K2, K02, K12, h3⟩
theorem start_room : roomS sA1 ∧ roomS newS := by unfold roomS; decide

theorem plays_ca (ops : List OpT) (sv : Value) (O : Out) (L : List Blk) (hs : RdW L encOp sv ops) (hn : ops.length < 9223372036854775808) :
    CA Try.prog 6 [sv] O L fun v L' => v = .bool true ∧ L' = L := by
  obtain ⟨po, co, rfl, hR0⟩ := id hs
  clear hs
  refine ca_enter Try.func6 rfl rfl ?_
  rw [Try.ntmps6]
  simp only [envOf]
  refine cg_seq ?_
  refine cg_region ?_
  refine rg_q (.inl rfl) rfl rfl (by exact QW.qr (qw_assign rfl)) ?_
  refine rg_nil ?_
  refine qg_then ?_
  refine cg_seq ?_
  refine cg_region ?_
  refine rg_e (.inl rfl) rfl rfl (by exact ev_call0 rfl (.nil) (new_ca O _)) ?_
  rintro _ _ ⟨c0, Ka, rfl, rfl, ha⟩
  refine rg_e (.inl rfl) rfl rfl (by exact ev_call0 rfl (.nil) (new_ca O _)) ?_
  rintro _ _ ⟨c1, Kb, rfl, rfl, hb⟩
  refine rg_q (.inl rfl) rfl rfl (by exact QW.qr (qw_build_arr (.cons rfl (.cons rfl (.nil))) (.cons rfl (by first | exact CellsOf.agg | exact CellsOf.one rfl) (by repeat (first | exact SetSeg.done | apply SetSeg.take | apply SetSeg.skip)) (by rfl) (by rfl) (.cons rfl (by first | exact CellsOf.agg | exact CellsOf.one rfl) (by repeat (first | exact SetSeg.done | apply SetSeg.take | apply SetSeg.skip)) (by rfl) (by rfl) (.nil))))) ?_
  refine rg_e (.inl rfl) rfl rfl (by exact ev_call0 rfl (.nil) (rnew_ca O _)) ?_
  rintro _ _ ⟨w0, Ra, rfl, rfl, ga⟩
  refine rg_e (.inl rfl) rfl rfl (by exact ev_call0 rfl (.nil) (rnew_ca O _)) ?_
  rintro _ _ ⟨w1, Rb, rfl, rfl, gb⟩
  refine rg_q (.inl rfl) rfl rfl (by exact QW.qr (qw_build_arr (.cons rfl (.cons rfl (.nil))) (.cons rfl (by first | exact CellsOf.agg | exact CellsOf.one rfl) (by repeat (first | exact SetSeg.done | apply SetSeg.take | apply SetSeg.skip)) (by rfl) (by rfl) (.cons rfl (by first | exact CellsOf.agg | exact CellsOf.one rfl) (by repeat (first | exact SetSeg.done | apply SetSeg.take | apply SetSeg.skip)) (by rfl) (by rfl) (.nil))))) ?_
  refine rg_e (.inl rfl) rfl rfl (by exact ev_alloc (by first | exact CellsOf.agg | exact CellsOf.one rfl)) ?_
  rintro _ _ ⟨b3, rfl, rfl⟩
  refine rg_e (.inl rfl) rfl rfl (by exact ev_alloc (by first | exact CellsOf.agg | exact CellsOf.one rfl)) ?_
  rintro _ _ ⟨b4, rfl, rfl⟩
  refine rg_e0 (.inl rfl) rfl (by exact ev_store rfl rfl (by first | exact CellsOf.agg | exact CellsOf.one rfl) (by repeat (first | exact List.Mem.head _ | apply List.Mem.tail | apply List.mem_append_right | assumption)) (by repeat (first | exact SetSeg.done | apply SetSeg.take | apply SetSeg.skip)) rfl rfl (by repeat (first | exact Upd.here | apply Upd.there | apply Upd.app)) (by first | exact Or.inl ⟨inferInstance, rfl⟩ | exact Or.inr inferInstance)) ?_
  rintro _ _ ⟨rfl, rfl⟩
  refine rg_e0 (.inl rfl) rfl (by exact ev_store rfl rfl (by first | exact CellsOf.agg | exact CellsOf.one rfl) (by repeat (first | exact List.Mem.head _ | apply List.Mem.tail | apply List.mem_append_right | assumption)) (by repeat (first | exact SetSeg.done | apply SetSeg.take | apply SetSeg.skip)) rfl rfl (by repeat (first | exact Upd.here | apply Upd.there | apply Upd.app)) (by first | exact Or.inl ⟨inferInstance, rfl⟩ | exact Or.inr inferInstance)) ?_
  rintro _ _ ⟨rfl, rfl⟩
  refine rg_nil ?_
  refine qg_then ?_
  refine cg_seq ?_
  refine cg_region ?_
  refine rg_q (.inl rfl) rfl rfl (by exact QW.qr (qw_indexAddr_arr rfl rfl (by decide) (by decide))) ?_
  refine rg_q (.inl rfl) rfl rfl (by exact qr_load1 rfl (by repeat (first | exact List.Mem.head _ | apply List.Mem.tail | apply List.mem_append_right | assumption)) rfl) ?_
  refine rg_q (.inl rfl) rfl rfl (by exact QW.qr (qw_indexAddr_arr rfl rfl (by decide) (by decide))) ?_
  refine rg_q (.inl rfl) rfl rfl (by exact qr_load1 rfl (by repeat (first | exact List.Mem.head _ | apply List.Mem.tail | apply List.mem_append_right | assumption)) rfl) ?_
  refine rg_e (.inl rfl) rfl rfl (by exact ev_call0 rfl (.cons rfl (.cons rfl (.nil))) ((open3_ca c0 c1 O (cat [[(b4, .cells [PT w0, PT w1].toArray 54 (0, 0))], [(b3, .cells [PT c0, PT c1].toArray 48 (0, 0))], Rb, Ra] L) ha hb (by decide) (by decide) aw_open).pre (fun w h => h.perm (cat_perm (ls' := [Ka, Kb, [(b4, .cells [PT w0, PT w1].toArray 54 (0, 0))], [(b3, .cells [PT c0, PT c1].toArray 48 (0, 0))], Rb, Ra]) (ls := [[(b4, .cells [PT w0, PT w1].toArray 54 (0, 0))], [(b3, .cells [PT c0, PT c1].toArray 48 (0, 0))], Rb, Ra, Kb, Ka]) (by repeat (first | exact PermM.nil | refine PermM.cons (by repeat (first | exact Ins.here | apply Ins.there)) ?_)))))) ?_
  rintro _ _ ⟨bl, K2, K02, K12, rfl, rfl, hl2, h02, h12⟩
  refine rg_q (.inl rfl) rfl rfl (by exact QW.qr (qw_move rfl)) ?_
  refine rg_q (.inl rfl) rfl rfl (by exact QW.qr (qw_extract rfl rfl)) ?_
  refine rg_q (.inl rfl) rfl rfl (by exact QW.qr (qw_extract rfl rfl)) ?_
  refine rg_q (.inl rfl) rfl rfl (by exact QW.qr (qw_assign rfl)) ?_
  refine rg_q (.inl rfl) rfl rfl (by exact QW.qr (qw_assign rfl)) ?_
  refine rg_nil ?_
  refine qg_then ?_
  refine cg_seq ?_
  refine cg_region ?_
  refine rg_q (.inl rfl) rfl rfl (by exact QW.qr (qw_indexAddr_arr rfl rfl (by decide) (by decide))) ?_
  refine rg_q (.inl rfl) rfl rfl (by exact qr_load1 rfl (mem_cat (ls := [K2, K02, K12, [(b4, _)], [(b3, _)], Rb, Ra]) (s := [(b4, _)]) (by repeat (first | exact List.Mem.head _ | apply List.Mem.tail)) (List.Mem.head _)) rfl) ?_
  refine rg_q (.inl rfl) rfl rfl (by exact QW.qr (qw_indexAddr_arr rfl rfl (by decide) (by decide))) ?_
  refine rg_q (.inl rfl) rfl rfl (by exact qr_load1 rfl (mem_cat (ls := [K2, K02, K12, [(b4, _)], [(b3, _)], Rb, Ra]) (s := [(b4, _)]) (by repeat (first | exact List.Mem.head _ | apply List.Mem.tail)) (List.Mem.head _)) rfl) ?_
  refine rg_e (.inl rfl) rfl rfl (by exact ev_call0 rfl (.cons rfl (.cons rfl (.nil))) ((ropen3_ca w0 w1 O (cat [K2, K02, K12, [(b4, .cells [PT w0, PT w1].toArray 54 (0, 0))], [(b3, .cells [PT c0, PT c1].toArray 48 (0, 0))]] L) ga gb (by decide) (by decide) aw_open).pre (fun w h => h.perm (cat_perm (ls' := [Ra, Rb, K2, K02, K12, [(b4, .cells [PT w0, PT w1].toArray 54 (0, 0))], [(b3, .cells [PT c0, PT c1].toArray 48 (0, 0))]]) (ls := [K2, K02, K12, [(b4, .cells [PT w0, PT w1].toArray 54 (0, 0))], [(b3, .cells [PT c0, PT c1].toArray 48 (0, 0))], Rb, Ra]) (by repeat (first | exact PermM.nil | refine PermM.cons (by repeat (first | exact Ins.here | apply Ins.there)) ?_)))))) ?_
  rintro _ _ ⟨rl, R2, R02, R12, rfl, rfl, hr2, g02, g12⟩
  refine rg_q (.inl rfl) rfl rfl (by exact QW.qr (qw_move rfl)) ?_
  refine rg_q (.inl rfl) rfl rfl (by exact QW.qr (qw_extract rfl rfl)) ?_
  refine rg_q (.inl rfl) rfl rfl (by exact QW.qr (qw_extract rfl rfl)) ?_
  refine rg_q (.inl rfl) rfl rfl (by exact QW.qr (qw_assign rfl)) ?_
  refine rg_q (.inl rfl) rfl rfl (by exact QW.qr (qw_assign rfl)) ?_
  refine rg_nil ?_
  refine qg_then ?_
  refine cg_seq ?_
  refine cg_seq ?_
  refine cg_region ?_
  refine rg_q (.inl rfl) rfl rfl (by exact QW.qr (qw_move rfl)) ?_
  refine rg_q (.inl rfl) rfl rfl (by exact QW.qr (qw_eql_ptr (e := 70) rfl rfl)) ?_
  refine rg_q (.inl rfl) rfl rfl (by exact QW.qr (qw_move rfl)) ?_
  refine rg_q (.inr (guard_mk rfl rfl rfl rfl)) rfl rfl (by exact QW.qr (qw_move rfl)) ?_
  refine rg_q (.inr (guard_mk rfl rfl rfl rfl)) rfl rfl (by exact QW.qr (qw_move rfl)) ?_
  refine rg_q (.inr (guard_mk rfl rfl rfl rfl)) rfl rfl (by exact QW.qr (qw_neq_f rfl rfl (fun h => h rfl))) ?_
  refine rg_q (.inl rfl) rfl rfl (by exact QW.qr (qw_pick_f rfl rfl)) ?_
  refine rg_nil ?_
  refine qg_then ?_
  refine cg_false rfl ?_
  refine cg_skip ?_
  refine qg_then ?_
  refine cg_seq ?_
  refine cg_seq ?_
  refine cg_region ?_
  refine rg_q (.inl rfl) rfl rfl (by exact QW.qr (qw_move rfl)) ?_
  refine rg_q (.inl rfl) rfl rfl (by exact QW.qr (qw_len_slice (t := 22) (.cons rfl (.nil)) rfl)) ?_
  refine rg_q (.inl rfl) rfl rfl (by exact QW.qr (qw_move rfl)) ?_
  refine rg_nil ?_
  refine qg_then ?_
  refine cg_block ?_
  have hok0 := (open_ok (s0 := newS) (s1 := newS) start_room.2 start_room.2).1
  rw [aw_open] at hok0
  refine cg_loop (fun E' L' m => ∃ (k : Nat) (s0 s1 : Slab) (lv mv : Value) (e f : Int) (K K0 K1 R R0 R1 : List Blk), k ≤ 40 ∧ k ≤ ops.length ∧ roomS s0 ∧ roomS s1 ∧ LbO c0 c1 w0 w1 (262144 + 4400 * k) lv mv K R ∧ SlabAt c0 s0 K0 ∧ SlabAt c1 s1 K1 ∧ RSlabAt w0 s0 R0 ∧ RSlabAt w1 s1 R1 ∧
    E' = [(3, PT b3), (4, PT b4), (5, lv), (6, I e), (7, mv), (8, I f), (43, .slice po ops.length co), (44, I ops.length), (45, I k)] ∧ L' = cat [K, K0, K1, R, R0, R1, [(b3, .cells [PT c0, PT c1].toArray 48 (0, 0))], [(b4, .cells [PT w0, PT w1].toArray 54 (0, 0))]] L ∧ m = ops.length - k)
    _ _ _ ⟨0, sA1, newS, _, _, 0, 0, K2, K02, K12, R2, R02, R12, by omega, by omega, start_room.1, start_room.2, .inr ⟨_, bl, rl, rfl, rfl, hl2, hr2, hok0⟩, h02, h12, g02, g12, rfl, rfl, rfl⟩ (by repeat (first | exact Sub.nil | refine Sub.cons rfl ?_ | refine Sub.cons (congrArg (fun z => some (Value.int IntKind.i64 z)) (by omega)) ?_)) (cat_perm (ls' := [K2, K02, K12, R2, R02, R12, [(b3, _)], [(b4, _)]]) (ls := [R2, R02, R12, K2, K02, K12, [(b4, _)], [(b3, _)]]) (by repeat (first | exact PermM.nil | refine PermM.cons (by repeat (first | exact Ins.here | apply Ins.there)) ?_))) ?_
  clear hl2 hr2 h02 h12 g02 g12 ha hb ga gb hok0
  clear K2 K02 K12 R2 R02 R12 bl rl
  rintro _ _ _ ⟨k, s0, s1, lv, mv, e, f, K, K0, K1, R, R0, R1, hk40, hkn, hm0, hm1, hlo, h0, h1, g0, g1, rfl, rfl, rfl⟩
  have hz0 : sizeS s0 ≤ 300000 := Nat.le_trans hm0 (by decide)
  have hz1 : sizeS s1 ≤ 300000 := Nat.le_trans hm1 (by decide)
  refine cg_seq ?_
  refine cg_region ?_
  refine rg_split (.inl rfl) rfl rfl (by exact qc_lss rfl rfl) ?_ ?_
  · intro hlt
    have hklt : k < ops.length := by omega
    obtain ⟨bo, oo, Ao, to, fo, rfl, hmo, hsego⟩ := hR0 (by omega)
    have hop := hsego.elem (enc := encOp) (k := 9) (fun _ => rfl) hklt
    generalize ops[k] = op at hop
    unfold encOp at hop
    refine rg_nil ?_
    refine qg_then ?_
    refine cg_seq ?_
    refine cg_true rfl ?_
    refine cg_skip ?_
    refine qg_then ?_
    refine cg_seq ?_
    refine cg_block ?_
    refine cg_seq ?_
    refine cg_region ?_
    refine rg_q (.inl rfl) rfl rfl (by exact QW.qr (qw_move rfl)) ?_
    refine rg_q (.inl rfl) rfl rfl (by exact QW.qr (qw_indexAddr rfl rfl (by omega) (by omega))) ?_
    refine rg_q (.inl rfl) rfl rfl (by exact qr_loadS rfl (mem_catF hmo) hop rfl) ?_
    refine rg_e (.inl rfl) rfl rfl (by exact ev_alloc (by first | exact CellsOf.agg | exact CellsOf.one rfl)) ?_
    rintro _ _ ⟨b10, rfl, rfl⟩
    refine rg_q (.inl rfl) rfl rfl (by exact QW.qr (qw_assign rfl)) ?_
    refine rg_e0 (.inl rfl) rfl (by exact ev_store rfl rfl (by first | exact CellsOf.agg | exact CellsOf.one rfl) (by repeat (first | exact List.Mem.head _ | apply List.Mem.tail | apply List.mem_append_right | assumption)) (by repeat (first | exact SetSeg.done | apply SetSeg.take | apply SetSeg.skip)) rfl rfl (by repeat (first | exact Upd.here | apply Upd.there | apply Upd.app)) (by first | exact Or.inl ⟨inferInstance, rfl⟩ | exact Or.inr inferInstance)) ?_
    rintro _ _ ⟨rfl, rfl⟩
    refine rg_nil ?_
    refine qg_then ?_
    refine cg_seq ?_
    refine cg_seq ?_
    refine cg_region ?_
    refine rg_q (.inl rfl) rfl rfl (by exact QW.qr (qw_move rfl)) ?_
    refine rg_split (.inl rfl) rfl rfl (by exact qc_geq rfl rfl) ?_ ?_
    · intro hge
      refine rg_q (.inl rfl) rfl rfl (by exact QW.qr (qw_move rfl)) ?_
      refine rg_s (guard_mk rfl rfl rfl rfl) rfl rfl ?_
      refine rg_s (guard_mk rfl rfl rfl rfl) rfl rfl ?_
      refine rg_s (guard_mk rfl rfl rfl rfl) rfl rfl ?_
      refine rg_q (.inl rfl) rfl rfl (by exact QW.qr (qw_pick_t rfl rfl)) ?_
      refine rg_nil ?_
      refine qg_then ?_
      refine cg_true rfl ?_
      refine cg_exit ?_
      refine qg_then_exit ?_
      refine qg_block_on rfl ?_
      refine qg_then_exit ?_
      refine qg_then_exit ?_
      refine qg_block_here ?_
      refine qg_then ?_
      refine cg_seq ?_
      refine cg_region ?_
      refine rg_e (.inl rfl) rfl rfl (by exact ev_call0 rfl (.nil) (awake_ca O _)) ?_
      rintro _ _ ⟨rfl, rfl⟩
      refine rg_q (.inl rfl) rfl rfl (by exact QW.qr (qw_assign rfl)) ?_
      refine rg_nil ?_
      refine qg_then ?_
      refine cg_ret ?_
      exact qg_end_sp (.inl rfl) _ (.cons (.tmp rfl) (.nil)) _ (cat_sub (ls' := []) (ls := [[(b10, _)], K, K0, K1, R, R0, R1, [(b3, _)], [(b4, _)]]) (by repeat (first | exact SubM.nil | refine SubM.cons (by repeat (first | exact Ins.here | apply Ins.there)) ?_))) ⟨rfl, rfl⟩
    · intro hge
      refine rg_q (.inl rfl) rfl rfl (by exact QW.qr (qw_move rfl)) ?_
      refine rg_q (.inr (guard_mk rfl rfl rfl rfl)) rfl rfl (by exact qr_loadN rfl (by repeat (first | exact List.Mem.head _ | apply List.Mem.tail | apply List.mem_append_right | assumption)) (by repeat (first | exact SegL.done | apply SegL.take | apply SegL.skip))) ?_
      refine rg_e (.inr (guard_mk rfl rfl rfl rfl)) rfl rfl (by exact ev_call0 rfl (.cons rfl (.nil)) (fits_ca op O _)) ?_
      rintro _ _ ⟨rfl, rfl⟩
      by_cases hfit : fitsO op
      · skip
        rw [decide_eq_true hfit]
        have hf1 := hfit.1
        have hf2 := hfit.2
        refine rg_q (.inr (guard_mk rfl rfl rfl rfl)) rfl rfl (by exact QW.qr (qw_not rfl)) ?_
        refine rg_q (.inl rfl) rfl rfl (by exact QW.qr (qw_pick_f rfl rfl)) ?_
        refine rg_nil ?_
        refine qg_then ?_
        refine cg_false rfl ?_
        refine cg_skip ?_
        refine qg_then ?_
        refine cg_seq ?_
        obtain ⟨wj, hwj, hwj2⟩ : ∃ wj : Nat, (op.which.toNat : Int) % 2 = wj ∧ wj < 2 := ⟨op.which.toNat % 2, by omega, by omega⟩
        refine cg_region ?_
        refine rg_q (.inl rfl) rfl rfl (by exact QW.qr (qw_fieldAddr rfl)) ?_
        refine rg_q (.inl rfl) rfl rfl (by exact qr_load1 rfl (by repeat (first | exact List.Mem.head _ | apply List.Mem.tail | apply List.mem_append_right | assumption)) rfl) ?_
        refine rg_q (.inl rfl) rfl rfl (by exact QW.qr (qw_val (v' := .int .u8 wj) (qw_rem_pos rfl rfl (by omega) (by decide)) (by rw [hwj]))) ?_
        refine rg_q (.inl rfl) rfl rfl (by exact QW.qr (qw_conv_in rfl (by unfold inK; omega))) ?_
        refine rg_q (.inl rfl) rfl rfl (by exact QW.qr (qw_assign rfl)) ?_
        refine rg_nil ?_
        refine qg_then ?_
        refine cg_seq ?_
        refine cg_region ?_
        refine rg_q (.inl rfl) rfl rfl (by exact QW.qr (qw_assign rfl)) ?_
        refine rg_nil ?_
        refine qg_then ?_
        refine cg_cut (fun E' L' => ∃ (s0 s1 : Slab) (lv mv : Value) (e f : Int) (K K0 K1 R R0 R1 : List Blk), roomS s0 ∧ roomS s1 ∧ LbO c0 c1 w0 w1 (262144 + 4400 * (k + 1)) lv mv K R ∧ SlabAt c0 s0 K0 ∧ SlabAt c1 s1 K1 ∧ RSlabAt w0 s0 R0 ∧ RSlabAt w1 s1 R1 ∧
          E' = [(3, PT b3), (4, PT b4), (5, lv), (6, I e), (7, mv), (8, I f), (43, .slice (some ⟨bo, oo, none⟩) ops.length co), (44, I ops.length), (45, I k), (12, .bool true)] ∧ L' = cat [K, K0, K1, R, R0, R1, [(b3, .cells [PT c0, PT c1].toArray 48 (0, 0))], [(b4, .cells [PT w0, PT w1].toArray 54 (0, 0))]] L) ?_ ?_
        · -- the first part
          refine cg_block ?_
          refine cg_seq ?_
          have hlo2 := hlo
          rcases hlo with ⟨rfl, rfl, hK, hR⟩ | ⟨l, bl, rl, rfl, rfl, hl, hr, hok⟩
          · skip
            refine cg_region ?_
            refine rg_q (.inl rfl) rfl rfl (by exact QW.qr (qw_fieldAddr rfl)) ?_
            refine rg_q (.inl rfl) rfl rfl (by exact qr_load1 rfl (by repeat (first | exact List.Mem.head _ | apply List.Mem.tail | apply List.mem_append_right | assumption)) rfl) ?_
            refine rg_split (.inl rfl) rfl rfl (by exact qc_eql rfl rfl) ?_ ?_
            · intro k0
              refine rg_q (.inl rfl) rfl rfl (by exact QW.qr (qw_move rfl)) ?_
              refine rg_q (.inr (guard_mk rfl rfl rfl rfl)) rfl rfl (by exact QW.qr (qw_move rfl)) ?_
              refine rg_q (.inr (guard_mk rfl rfl rfl rfl)) rfl rfl (by exact QW.qr (qw_neq_nil (e := 91) rfl rfl)) ?_
              refine rg_q (.inl rfl) rfl rfl (by exact QW.qr (qw_pick_t rfl rfl)) ?_
              refine rg_q (.inl rfl) rfl rfl (by exact QW.qr (qw_assign rfl)) ?_
              refine rg_nil ?_
              refine qg_then ?_
              refine cg_false rfl ?_
              refine cg_seq ?_
              refine cg_region ?_
              refine rg_q (.inl rfl) rfl rfl (by exact QW.qr (qw_fieldAddr rfl)) ?_
              refine rg_q (.inl rfl) rfl rfl (by exact qr_load1 rfl (by repeat (first | exact List.Mem.head _ | apply List.Mem.tail | apply List.mem_append_right | assumption)) rfl) ?_
              refine rg_q (.inl rfl) rfl rfl (by exact QW.qr (qw_eql_f rfl rfl (by omega))) ?_
              refine rg_q (.inl rfl) rfl rfl (by exact QW.qr (qw_move rfl)) ?_
              refine rg_s (guard_mk rfl rfl rfl rfl) rfl rfl ?_
              refine rg_s (guard_mk rfl rfl rfl rfl) rfl rfl ?_
              refine rg_q (.inl rfl) rfl rfl (by exact QW.qr (qw_pick_f rfl rfl)) ?_
              refine rg_q (.inl rfl) rfl rfl (by exact QW.qr (qw_assign rfl)) ?_
              refine rg_nil ?_
              refine qg_then ?_
              refine cg_false rfl ?_
              refine cg_seq ?_
              refine cg_region ?_
              refine rg_q (.inl rfl) rfl rfl (by exact QW.qr (qw_fieldAddr rfl)) ?_
              refine rg_q (.inl rfl) rfl rfl (by exact qr_load1 rfl (by repeat (first | exact List.Mem.head _ | apply List.Mem.tail | apply List.mem_append_right | assumption)) rfl) ?_
              refine rg_q (.inl rfl) rfl rfl (by exact QW.qr (qw_eql_f rfl rfl (by omega))) ?_
              refine rg_q (.inl rfl) rfl rfl (by exact QW.qr (qw_move rfl)) ?_
              refine rg_s (guard_mk rfl rfl rfl rfl) rfl rfl ?_
              refine rg_s (guard_mk rfl rfl rfl rfl) rfl rfl ?_
              refine rg_q (.inl rfl) rfl rfl (by exact QW.qr (qw_pick_f rfl rfl)) ?_
              refine rg_q (.inl rfl) rfl rfl (by exact QW.qr (qw_assign rfl)) ?_
              refine rg_nil ?_
              refine qg_then ?_
              refine cg_false rfl ?_
              refine cg_seq ?_
              refine cg_region ?_
              refine rg_q (.inl rfl) rfl rfl (by exact QW.qr (qw_fieldAddr rfl)) ?_
              refine rg_q (.inl rfl) rfl rfl (by exact qr_load1 rfl (by repeat (first | exact List.Mem.head _ | apply List.Mem.tail | apply List.mem_append_right | assumption)) rfl) ?_
              refine rg_q (.inl rfl) rfl rfl (by exact QW.qr (qw_eql_f rfl rfl (by omega))) ?_
              refine rg_q (.inl rfl) rfl rfl (by exact QW.qr (qw_move rfl)) ?_
              refine rg_s (guard_mk rfl rfl rfl rfl) rfl rfl ?_
              refine rg_s (guard_mk rfl rfl rfl rfl) rfl rfl ?_
              refine rg_q (.inl rfl) rfl rfl (by exact QW.qr (qw_pick_f rfl rfl)) ?_
              refine rg_q (.inl rfl) rfl rfl (by exact QW.qr (qw_assign rfl)) ?_
              refine rg_nil ?_
              refine qg_then ?_
              refine cg_false rfl ?_
              refine cg_seq ?_
              refine cg_region ?_
              refine rg_q (.inl rfl) rfl rfl (by exact QW.qr (qw_fieldAddr rfl)) ?_
              refine rg_q (.inl rfl) rfl rfl (by exact qr_load1 rfl (by repeat (first | exact List.Mem.head _ | apply List.Mem.tail | apply List.mem_append_right | assumption)) rfl) ?_
              refine rg_q (.inl rfl) rfl rfl (by exact QW.qr (qw_eql_f rfl rfl (by omega))) ?_
              refine rg_q (.inl rfl) rfl rfl (by exact QW.qr (qw_assign rfl)) ?_
              refine rg_nil ?_
              refine qg_then ?_
              refine cg_false rfl ?_
              refine cg_seq ?_
              refine cg_region ?_
              refine rg_q (.inl rfl) rfl rfl (by exact QW.qr (qw_fieldAddr rfl)) ?_
              refine rg_q (.inl rfl) rfl rfl (by exact qr_load1 rfl (by repeat (first | exact List.Mem.head _ | apply List.Mem.tail | apply List.mem_append_right | assumption)) rfl) ?_
              refine rg_q (.inl rfl) rfl rfl (by exact QW.qr (qw_eql_f rfl rfl (by omega))) ?_
              refine rg_q (.inl rfl) rfl rfl (by exact QW.qr (qw_assign rfl)) ?_
              refine rg_nil ?_
              refine qg_then ?_
              refine cg_false rfl ?_
              refine cg_seq ?_
              refine cg_region ?_
              refine rg_q (.inl rfl) rfl rfl (by exact QW.qr (qw_fieldAddr rfl)) ?_
              refine rg_q (.inl rfl) rfl rfl (by exact qr_load1 rfl (by repeat (first | exact List.Mem.head _ | apply List.Mem.tail | apply List.mem_append_right | assumption)) rfl) ?_
              refine rg_q (.inl rfl) rfl rfl (by exact QW.qr (qw_eql_f rfl rfl (by omega))) ?_
              refine rg_q (.inl rfl) rfl rfl (by exact QW.qr (qw_assign rfl)) ?_
              refine rg_nil ?_
              refine qg_then ?_
              refine cg_false rfl ?_
              refine cg_skip ?_
              refine qg_block ?_
              exact qg_cut_sp _ _ ⟨s0, s1, _, _, e, f, K, K0, K1, R, R0, R1, hm0, hm1, hlo2.up (by omega), h0, h1, g0, g1, rfl, rfl⟩ (by repeat (first | exact Sub.nil | refine Sub.cons rfl ?_ | refine Sub.cons (congrArg (fun z => some (Value.int IntKind.i64 z)) (by omega)) ?_)) (cat_sub (ls' := [K, K0, K1, R, R0, R1, [(b3, _)], [(b4, _)]]) (ls := [[(b10, _)], K, K0, K1, R, R0, R1, [(b3, _)], [(b4, _)]]) (by repeat (first | exact SubM.nil | refine SubM.cons (by repeat (first | exact Ins.here | apply Ins.there)) ?_)))
            · intro k0
              refine rg_q (.inl rfl) rfl rfl (by exact QW.qr (qw_move rfl)) ?_
              refine rg_s (guard_mk rfl rfl rfl rfl) rfl rfl ?_
              refine rg_s (guard_mk rfl rfl rfl rfl) rfl rfl ?_
              refine rg_q (.inl rfl) rfl rfl (by exact QW.qr (qw_pick_f rfl rfl)) ?_
              refine rg_q (.inl rfl) rfl rfl (by exact QW.qr (qw_assign rfl)) ?_
              refine rg_nil ?_
              refine qg_then ?_
              refine cg_false rfl ?_
              refine cg_seq ?_
              refine cg_region ?_
              refine rg_q (.inl rfl) rfl rfl (by exact QW.qr (qw_fieldAddr rfl)) ?_
              refine rg_q (.inl rfl) rfl rfl (by exact qr_load1 rfl (by repeat (first | exact List.Mem.head _ | apply List.Mem.tail | apply List.mem_append_right | assumption)) rfl) ?_
              refine rg_split (.inl rfl) rfl rfl (by exact qc_eql rfl rfl) ?_ ?_
              · intro k1
                refine rg_q (.inl rfl) rfl rfl (by exact QW.qr (qw_move rfl)) ?_
                refine rg_q (.inr (guard_mk rfl rfl rfl rfl)) rfl rfl (by exact QW.qr (qw_move rfl)) ?_
                refine rg_q (.inr (guard_mk rfl rfl rfl rfl)) rfl rfl (by exact QW.qr (qw_neq_nil (e := 91) rfl rfl)) ?_
                refine rg_q (.inl rfl) rfl rfl (by exact QW.qr (qw_pick_t rfl rfl)) ?_
                refine rg_q (.inl rfl) rfl rfl (by exact QW.qr (qw_assign rfl)) ?_
                refine rg_nil ?_
                refine qg_then ?_
                refine cg_false rfl ?_
                refine cg_seq ?_
                refine cg_region ?_
                refine rg_q (.inl rfl) rfl rfl (by exact QW.qr (qw_fieldAddr rfl)) ?_
                refine rg_q (.inl rfl) rfl rfl (by exact qr_load1 rfl (by repeat (first | exact List.Mem.head _ | apply List.Mem.tail | apply List.mem_append_right | assumption)) rfl) ?_
                refine rg_q (.inl rfl) rfl rfl (by exact QW.qr (qw_eql_f rfl rfl (by omega))) ?_
                refine rg_q (.inl rfl) rfl rfl (by exact QW.qr (qw_move rfl)) ?_
                refine rg_s (guard_mk rfl rfl rfl rfl) rfl rfl ?_
                refine rg_s (guard_mk rfl rfl rfl rfl) rfl rfl ?_
                refine rg_q (.inl rfl) rfl rfl (by exact QW.qr (qw_pick_f rfl rfl)) ?_
                refine rg_q (.inl rfl) rfl rfl (by exact QW.qr (qw_assign rfl)) ?_
                refine rg_nil ?_
                refine qg_then ?_
                refine cg_false rfl ?_
                refine cg_seq ?_
                refine cg_region ?_
                refine rg_q (.inl rfl) rfl rfl (by exact QW.qr (qw_fieldAddr rfl)) ?_
                refine rg_q (.inl rfl) rfl rfl (by exact qr_load1 rfl (by repeat (first | exact List.Mem.head _ | apply List.Mem.tail | apply List.mem_append_right | assumption)) rfl) ?_
                refine rg_q (.inl rfl) rfl rfl (by exact QW.qr (qw_eql_f rfl rfl (by omega))) ?_
                refine rg_q (.inl rfl) rfl rfl (by exact QW.qr (qw_move rfl)) ?_
                refine rg_s (guard_mk rfl rfl rfl rfl) rfl rfl ?_
                refine rg_s (guard_mk rfl rfl rfl rfl) rfl rfl ?_
                refine rg_q (.inl rfl) rfl rfl (by exact QW.qr (qw_pick_f rfl rfl)) ?_
                refine rg_q (.inl rfl) rfl rfl (by exact QW.qr (qw_assign rfl)) ?_
                refine rg_nil ?_
                refine qg_then ?_
                refine cg_false rfl ?_
                refine cg_seq ?_
                refine cg_region ?_
                refine rg_q (.inl rfl) rfl rfl (by exact QW.qr (qw_fieldAddr rfl)) ?_
                refine rg_q (.inl rfl) rfl rfl (by exact qr_load1 rfl (by repeat (first | exact List.Mem.head _ | apply List.Mem.tail | apply List.mem_append_right | assumption)) rfl) ?_
                refine rg_q (.inl rfl) rfl rfl (by exact QW.qr (qw_eql_f rfl rfl (by omega))) ?_
                refine rg_q (.inl rfl) rfl rfl (by exact QW.qr (qw_assign rfl)) ?_
                refine rg_nil ?_
                refine qg_then ?_
                refine cg_false rfl ?_
                refine cg_seq ?_
                refine cg_region ?_
                refine rg_q (.inl rfl) rfl rfl (by exact QW.qr (qw_fieldAddr rfl)) ?_
                refine rg_q (.inl rfl) rfl rfl (by exact qr_load1 rfl (by repeat (first | exact List.Mem.head _ | apply List.Mem.tail | apply List.mem_append_right | assumption)) rfl) ?_
                refine rg_q (.inl rfl) rfl rfl (by exact QW.qr (qw_eql_f rfl rfl (by omega))) ?_
                refine rg_q (.inl rfl) rfl rfl (by exact QW.qr (qw_assign rfl)) ?_
                refine rg_nil ?_
                refine qg_then ?_
                refine cg_false rfl ?_
                refine cg_seq ?_
                refine cg_region ?_
                refine rg_q (.inl rfl) rfl rfl (by exact QW.qr (qw_fieldAddr rfl)) ?_
                refine rg_q (.inl rfl) rfl rfl (by exact qr_load1 rfl (by repeat (first | exact List.Mem.head _ | apply List.Mem.tail | apply List.mem_append_right | assumption)) rfl) ?_
                refine rg_q (.inl rfl) rfl rfl (by exact QW.qr (qw_eql_f rfl rfl (by omega))) ?_
                refine rg_q (.inl rfl) rfl rfl (by exact QW.qr (qw_assign rfl)) ?_
                refine rg_nil ?_
                refine qg_then ?_
                refine cg_false rfl ?_
                refine cg_skip ?_
                refine qg_block ?_
                exact qg_cut_sp _ _ ⟨s0, s1, _, _, e, f, K, K0, K1, R, R0, R1, hm0, hm1, hlo2.up (by omega), h0, h1, g0, g1, rfl, rfl⟩ (by repeat (first | exact Sub.nil | refine Sub.cons rfl ?_ | refine Sub.cons (congrArg (fun z => some (Value.int IntKind.i64 z)) (by omega)) ?_)) (cat_sub (ls' := [K, K0, K1, R, R0, R1, [(b3, _)], [(b4, _)]]) (ls := [[(b10, _)], K, K0, K1, R, R0, R1, [(b3, _)], [(b4, _)]]) (by repeat (first | exact SubM.nil | refine SubM.cons (by repeat (first | exact Ins.here | apply Ins.there)) ?_)))
              · intro k1
                refine rg_q (.inl rfl) rfl rfl (by exact QW.qr (qw_move rfl)) ?_
                refine rg_s (guard_mk rfl rfl rfl rfl) rfl rfl ?_
                refine rg_s (guard_mk rfl rfl rfl rfl) rfl rfl ?_
                refine rg_q (.inl rfl) rfl rfl (by exact QW.qr (qw_pick_f rfl rfl)) ?_
                refine rg_q (.inl rfl) rfl rfl (by exact QW.qr (qw_assign rfl)) ?_
                refine rg_nil ?_
                refine qg_then ?_
                refine cg_false rfl ?_
                refine cg_seq ?_
                refine cg_region ?_
                refine rg_q (.inl rfl) rfl rfl (by exact QW.qr (qw_fieldAddr rfl)) ?_
                refine rg_q (.inl rfl) rfl rfl (by exact qr_load1 rfl (by repeat (first | exact List.Mem.head _ | apply List.Mem.tail | apply List.mem_append_right | assumption)) rfl) ?_
                refine rg_split (.inl rfl) rfl rfl (by exact qc_eql rfl rfl) ?_ ?_
                · intro k2
                  refine rg_q (.inl rfl) rfl rfl (by exact QW.qr (qw_move rfl)) ?_
                  refine rg_q (.inr (guard_mk rfl rfl rfl rfl)) rfl rfl (by exact QW.qr (qw_move rfl)) ?_
                  refine rg_q (.inr (guard_mk rfl rfl rfl rfl)) rfl rfl (by exact QW.qr (qw_neq_nil (e := 91) rfl rfl)) ?_
                  refine rg_q (.inl rfl) rfl rfl (by exact QW.qr (qw_pick_t rfl rfl)) ?_
                  refine rg_q (.inl rfl) rfl rfl (by exact QW.qr (qw_assign rfl)) ?_
                  refine rg_nil ?_
                  refine qg_then ?_
                  refine cg_false rfl ?_
                  refine cg_seq ?_
                  refine cg_region ?_
                  refine rg_q (.inl rfl) rfl rfl (by exact QW.qr (qw_fieldAddr rfl)) ?_
                  refine rg_q (.inl rfl) rfl rfl (by exact qr_load1 rfl (by repeat (first | exact List.Mem.head _ | apply List.Mem.tail | apply List.mem_append_right | assumption)) rfl) ?_
                  refine rg_q (.inl rfl) rfl rfl (by exact QW.qr (qw_eql_f rfl rfl (by omega))) ?_
                  refine rg_q (.inl rfl) rfl rfl (by exact QW.qr (qw_move rfl)) ?_
                  refine rg_s (guard_mk rfl rfl rfl rfl) rfl rfl ?_
                  refine rg_s (guard_mk rfl rfl rfl rfl) rfl rfl ?_
                  refine rg_q (.inl rfl) rfl rfl (by exact QW.qr (qw_pick_f rfl rfl)) ?_
                  refine rg_q (.inl rfl) rfl rfl (by exact QW.qr (qw_assign rfl)) ?_
                  refine rg_nil ?_
                  refine qg_then ?_
                  refine cg_false rfl ?_
                  refine cg_seq ?_
                  refine cg_region ?_
                  refine rg_q (.inl rfl) rfl rfl (by exact QW.qr (qw_fieldAddr rfl)) ?_
                  refine rg_q (.inl rfl) rfl rfl (by exact qr_load1 rfl (by repeat (first | exact List.Mem.head _ | apply List.Mem.tail | apply List.mem_append_right | assumption)) rfl) ?_
                  refine rg_q (.inl rfl) rfl rfl (by exact QW.qr (qw_eql_f rfl rfl (by omega))) ?_
                  refine rg_q (.inl rfl) rfl rfl (by exact QW.qr (qw_assign rfl)) ?_
                  refine rg_nil ?_
                  refine qg_then ?_
                  refine cg_false rfl ?_
                  refine cg_seq ?_
                  refine cg_region ?_
                  refine rg_q (.inl rfl) rfl rfl (by exact QW.qr (qw_fieldAddr rfl)) ?_
                  refine rg_q (.inl rfl) rfl rfl (by exact qr_load1 rfl (by repeat (first | exact List.Mem.head _ | apply List.Mem.tail | apply List.mem_append_right | assumption)) rfl) ?_
                  refine rg_q (.inl rfl) rfl rfl (by exact QW.qr (qw_eql_f rfl rfl (by omega))) ?_
                  refine rg_q (.inl rfl) rfl rfl (by exact QW.qr (qw_assign rfl)) ?_
                  refine rg_nil ?_
                  refine qg_then ?_
                  refine cg_false rfl ?_
                  refine cg_seq ?_
                  refine cg_region ?_
                  refine rg_q (.inl rfl) rfl rfl (by exact QW.qr (qw_fieldAddr rfl)) ?_
                  refine rg_q (.inl rfl) rfl rfl (by exact qr_load1 rfl (by repeat (first | exact List.Mem.head _ | apply List.Mem.tail | apply List.mem_append_right | assumption)) rfl) ?_
                  refine rg_q (.inl rfl) rfl rfl (by exact QW.qr (qw_eql_f rfl rfl (by omega))) ?_
                  refine rg_q (.inl rfl) rfl rfl (by exact QW.qr (qw_assign rfl)) ?_
                  refine rg_nil ?_
                  refine qg_then ?_
                  refine cg_false rfl ?_
                  refine cg_skip ?_
                  refine qg_block ?_
                  exact qg_cut_sp _ _ ⟨s0, s1, _, _, e, f, K, K0, K1, R, R0, R1, hm0, hm1, hlo2.up (by omega), h0, h1, g0, g1, rfl, rfl⟩ (by repeat (first | exact Sub.nil | refine Sub.cons rfl ?_ | refine Sub.cons (congrArg (fun z => some (Value.int IntKind.i64 z)) (by omega)) ?_)) (cat_sub (ls' := [K, K0, K1, R, R0, R1, [(b3, _)], [(b4, _)]]) (ls := [[(b10, _)], K, K0, K1, R, R0, R1, [(b3, _)], [(b4, _)]]) (by repeat (first | exact SubM.nil | refine SubM.cons (by repeat (first | exact Ins.here | apply Ins.there)) ?_)))
                · intro k2
                  refine rg_q (.inl rfl) rfl rfl (by exact QW.qr (qw_move rfl)) ?_
                  refine rg_s (guard_mk rfl rfl rfl rfl) rfl rfl ?_
                  refine rg_s (guard_mk rfl rfl rfl rfl) rfl rfl ?_
                  refine rg_q (.inl rfl) rfl rfl (by exact QW.qr (qw_pick_f rfl rfl)) ?_
                  refine rg_q (.inl rfl) rfl rfl (by exact QW.qr (qw_assign rfl)) ?_
                  refine rg_nil ?_
                  refine qg_then ?_
                  refine cg_false rfl ?_
                  refine cg_seq ?_
                  refine cg_region ?_
                  refine rg_q (.inl rfl) rfl rfl (by exact QW.qr (qw_fieldAddr rfl)) ?_
                  refine rg_q (.inl rfl) rfl rfl (by exact qr_load1 rfl (by repeat (first | exact List.Mem.head _ | apply List.Mem.tail | apply List.mem_append_right | assumption)) rfl) ?_
                  refine rg_split (.inl rfl) rfl rfl (by exact qc_eql rfl rfl) ?_ ?_
                  · intro k3
                    refine rg_q (.inl rfl) rfl rfl (by exact QW.qr (qw_move rfl)) ?_
                    refine rg_q (.inr (guard_mk rfl rfl rfl rfl)) rfl rfl (by exact QW.qr (qw_move rfl)) ?_
                    refine rg_q (.inr (guard_mk rfl rfl rfl rfl)) rfl rfl (by exact QW.qr (qw_neq_nil (e := 91) rfl rfl)) ?_
                    refine rg_q (.inl rfl) rfl rfl (by exact QW.qr (qw_pick_t rfl rfl)) ?_
                    refine rg_q (.inl rfl) rfl rfl (by exact QW.qr (qw_assign rfl)) ?_
                    refine rg_nil ?_
                    refine qg_then ?_
                    refine cg_false rfl ?_
                    refine cg_seq ?_
                    refine cg_region ?_
                    refine rg_q (.inl rfl) rfl rfl (by exact QW.qr (qw_fieldAddr rfl)) ?_
                    refine rg_q (.inl rfl) rfl rfl (by exact qr_load1 rfl (by repeat (first | exact List.Mem.head _ | apply List.Mem.tail | apply List.mem_append_right | assumption)) rfl) ?_
                    refine rg_q (.inl rfl) rfl rfl (by exact QW.qr (qw_eql_f rfl rfl (by omega))) ?_
                    refine rg_q (.inl rfl) rfl rfl (by exact QW.qr (qw_assign rfl)) ?_
                    refine rg_nil ?_
                    refine qg_then ?_
                    refine cg_false rfl ?_
                    refine cg_seq ?_
                    refine cg_region ?_
                    refine rg_q (.inl rfl) rfl rfl (by exact QW.qr (qw_fieldAddr rfl)) ?_
                    refine rg_q (.inl rfl) rfl rfl (by exact qr_load1 rfl (by repeat (first | exact List.Mem.head _ | apply List.Mem.tail | apply List.mem_append_right | assumption)) rfl) ?_
                    refine rg_q (.inl rfl) rfl rfl (by exact QW.qr (qw_eql_f rfl rfl (by omega))) ?_
                    refine rg_q (.inl rfl) rfl rfl (by exact QW.qr (qw_assign rfl)) ?_
                    refine rg_nil ?_
                    refine qg_then ?_
                    refine cg_false rfl ?_
                    refine cg_seq ?_
                    refine cg_region ?_
                    refine rg_q (.inl rfl) rfl rfl (by exact QW.qr (qw_fieldAddr rfl)) ?_
                    refine rg_q (.inl rfl) rfl rfl (by exact qr_load1 rfl (by repeat (first | exact List.Mem.head _ | apply List.Mem.tail | apply List.mem_append_right | assumption)) rfl) ?_
                    refine rg_q (.inl rfl) rfl rfl (by exact QW.qr (qw_eql_f rfl rfl (by omega))) ?_
                    refine rg_q (.inl rfl) rfl rfl (by exact QW.qr (qw_assign rfl)) ?_
                    refine rg_nil ?_
                    refine qg_then ?_
                    refine cg_false rfl ?_
                    refine cg_skip ?_
                    refine qg_block ?_
                    exact qg_cut_sp _ _ ⟨s0, s1, _, _, e, f, K, K0, K1, R, R0, R1, hm0, hm1, hlo2.up (by omega), h0, h1, g0, g1, rfl, rfl⟩ (by repeat (first | exact Sub.nil | refine Sub.cons rfl ?_ | refine Sub.cons (congrArg (fun z => some (Value.int IntKind.i64 z)) (by omega)) ?_)) (cat_sub (ls' := [K, K0, K1, R, R0, R1, [(b3, _)], [(b4, _)]]) (ls := [[(b10, _)], K, K0, K1, R, R0, R1, [(b3, _)], [(b4, _)]]) (by repeat (first | exact SubM.nil | refine SubM.cons (by repeat (first | exact Ins.here | apply Ins.there)) ?_)))
                  · intro k3
                    refine rg_q (.inl rfl) rfl rfl (by exact QW.qr (qw_move rfl)) ?_
                    refine rg_s (guard_mk rfl rfl rfl rfl) rfl rfl ?_
                    refine rg_s (guard_mk rfl rfl rfl rfl) rfl rfl ?_
                    refine rg_q (.inl rfl) rfl rfl (by exact QW.qr (qw_pick_f rfl rfl)) ?_
                    refine rg_q (.inl rfl) rfl rfl (by exact QW.qr (qw_assign rfl)) ?_
                    refine rg_nil ?_
                    refine qg_then ?_
                    refine cg_false rfl ?_
                    refine cg_seq ?_
                    refine cg_region ?_
                    refine rg_q (.inl rfl) rfl rfl (by exact QW.qr (qw_fieldAddr rfl)) ?_
                    refine rg_q (.inl rfl) rfl rfl (by exact qr_load1 rfl (by repeat (first | exact List.Mem.head _ | apply List.Mem.tail | apply List.mem_append_right | assumption)) rfl) ?_
                    refine rg_split (.inl rfl) rfl rfl (by exact qc_eql rfl rfl) ?_ ?_
                    · intro k4
                      refine rg_q (.inl rfl) rfl rfl (by exact QW.qr (qw_assign rfl)) ?_
                      refine rg_nil ?_
                      refine qg_then ?_
                      refine cg_true rfl ?_
                      refine cg_draw follows (.op 0 false (.op 1 false (.op 2 false (.op 3 false (.op 4 false (.op 5 false (.op 6 false (.op 7 false (.op 8 false (.op 9 false .done)))))))))) _ (by kernel_rfl) (SubP.of (List.Sublist.refl _)) ?_
                      refine dg_w rfl rfl (.inl rfl) rfl rfl (by exact qw_move rfl) ?_
                      refine dg_w rfl rfl (.inl rfl) rfl rfl (by exact qw_indexAddr_arr rfl rfl (by omega) (by omega)) ?_
                      refine dg_r rfl rfl rfl (.inl rfl) rfl rfl (by exact qr_load1' rfl (mem_cat (ls := [[(b10, _)], K, K0, K1, R, R0, R1, [(b3, _)], [(b4, _)]]) (s := [(b3, _)]) (by repeat (first | exact List.Mem.head _ | apply List.Mem.tail)) (List.Mem.head _)) (arr2_get c0 c1 wj hwj2)) ?_
                      refine dg_w rfl rfl (.inl rfl) rfl rfl (by exact qw_move rfl) ?_
                      refine dg_w rfl rfl (.inl rfl) rfl rfl (by exact qw_indexAddr_arr rfl rfl (by omega) (by omega)) ?_
                      refine dg_r rfl rfl rfl (.inl rfl) rfl rfl (by exact qr_load1' rfl (mem_cat (ls := [[(b10, _)], K, K0, K1, R, R0, R1, [(b3, _)], [(b4, _)]]) (s := [(b4, _)]) (by repeat (first | exact List.Mem.head _ | apply List.Mem.tail)) (List.Mem.head _)) (arr2_get w0 w1 wj hwj2)) ?_
                      refine dg_w rfl rfl (.inl rfl) rfl rfl (by exact qw_fieldAddr rfl) ?_
                      refine dg_r rfl rfl rfl (.inl rfl) rfl rfl (by exact qr_load1 rfl (by repeat (first | exact List.Mem.head _ | apply List.Mem.tail | apply List.mem_append_right | assumption)) rfl) ?_
                      refine dg_w rfl rfl (.inl rfl) rfl rfl (by exact qw_build (.cons rfl (.cons rfl (.nil))) rfl (.cons rfl (by first | exact CellsOf.agg | exact CellsOf.one rfl) (by repeat (first | exact SetSeg.done | apply SetSeg.take | apply SetSeg.skip)) (by rfl) (by rfl) (.cons rfl (by first | exact CellsOf.agg | exact CellsOf.one rfl) (by repeat (first | exact SetSeg.done | apply SetSeg.take | apply SetSeg.skip)) (by rfl) (by rfl) (.nil)))) ?_
                      refine dg_g rfl rfl (.inl rfl) rfl rfl (by exact ev_call0 rfl (.cons rfl (.cons rfl (.cons rfl (.nil)))) ((doesK (args := fun b w => [PT b, PT w, .agg #[I 3, I op.n, I 0, .slice none 0 0]]) (fun s => fuseS s op.n) c0 c1 w0 w1 s0 s1 K0 K1 R0 R1 wj hwj2 O (cat [[(b10, _)], K, R, [(b3, .cells [PT c0, PT c1].toArray 48 (0, 0))], [(b4, .cells [PT w0, PT w1].toArray 54 (0, 0))]] L) h0 h1 g0 g1 (fun b w s K R F' a1 a2 _ hs => does3_ca b w s K R O F' op.n a1 a2 (by rcases hs with rfl | rfl <;> assumption))).pre (fun w h => h.perm (cat_perm (ls' := [K0, K1, R0, R1, [(b10, _)], K, R, [(b3, .cells [PT c0, PT c1].toArray 48 (0, 0))], [(b4, .cells [PT w0, PT w1].toArray 54 (0, 0))]]) (ls := [[(b10, _)], K, K0, K1, R, R0, R1, [(b3, .cells [PT c0, PT c1].toArray 48 (0, 0))], [(b4, .cells [PT w0, PT w1].toArray 54 (0, 0))]]) (by repeat (first | exact PermM.nil | refine PermM.cons (by repeat (first | exact Ins.here | apply Ins.there)) ?_)))))) ?_
                      rintro _ _ ⟨K02, K12, R02, R12, rfl, h02, h12, g02, g12⟩
                      obtain ⟨hm02, hm12⟩ := at_room (f := fun s => fuseS s op.n) (j := wj) (fun s hs => fuse_room _ hs) hm0 hm1
                      refine dg_nil ?_
                      refine qg_block ?_
                      exact qg_cut_sp _ _ ⟨_, _, _, _, e, f, K, K02, K12, R, R02, R12, hm02, hm12, hlo2.up (by omega), h02, h12, g02, g12, rfl, rfl⟩ (by repeat (first | exact Sub.nil | refine Sub.cons rfl ?_ | refine Sub.cons (congrArg (fun z => some (Value.int IntKind.i64 z)) (by omega)) ?_)) (cat_sub (ls' := [K, K02, K12, R, R02, R12, [(b3, _)], [(b4, _)]]) (ls := [K02, K12, R02, R12, [(b10, _)], K, R, [(b3, _)], [(b4, _)]]) (by repeat (first | exact SubM.nil | refine SubM.cons (by repeat (first | exact Ins.here | apply Ins.there)) ?_)))
                    · intro k4
                      refine rg_q (.inl rfl) rfl rfl (by exact QW.qr (qw_assign rfl)) ?_
                      refine rg_nil ?_
                      refine qg_then ?_
                      refine cg_false rfl ?_
                      refine cg_seq ?_
                      refine cg_region ?_
                      refine rg_q (.inl rfl) rfl rfl (by exact QW.qr (qw_fieldAddr rfl)) ?_
                      refine rg_q (.inl rfl) rfl rfl (by exact qr_load1 rfl (by repeat (first | exact List.Mem.head _ | apply List.Mem.tail | apply List.mem_append_right | assumption)) rfl) ?_
                      refine rg_split (.inl rfl) rfl rfl (by exact qc_eql rfl rfl) ?_ ?_
                      · intro k5
                        refine rg_q (.inl rfl) rfl rfl (by exact QW.qr (qw_assign rfl)) ?_
                        refine rg_nil ?_
                        refine qg_then ?_
                        refine cg_true rfl ?_
                        refine cg_seq ?_
                        refine cg_seq ?_
                        refine cg_region ?_
                        refine rg_q (.inl rfl) rfl rfl (by exact QW.qr (qw_move rfl)) ?_
                        refine rg_nil ?_
                        refine qg_then ?_
                        refine cg_block ?_
                        refine cg_loop (fun E' L' m => ∃ (j : Nat) (K0 K1 R0 R1 : List Blk), j ≤ 2 ∧ SlabAt c0 (cj0 op s0 j) K0 ∧ SlabAt c1 (cj1 op s1 j) K1 ∧ RSlabAt w0 (cj0 op s0 j) R0 ∧ RSlabAt w1 (cj1 op s1 j) R1 ∧ E' = [(3, PT b3), (4, PT b4), (5, .pointer none), (6, I e), (7, .pointer none), (8, I f), (43, .slice (some ⟨bo, oo, none⟩) ops.length co), (44, I ops.length), (45, I k), (10, PT b10), (12, .bool true), (144, I j)] ∧ L' = cat [K0, K1, R0, R1, [(b10, .cells (encOp op).toArray 33 (0, 0))], K, R, [(b3, .cells [PT c0, PT c1].toArray 48 (0, 0))], [(b4, .cells [PT w0, PT w1].toArray 54 (0, 0))]] L ∧ m = 2 - j)
                          _ _ _ ⟨0, K0, K1, R0, R1, by omega, h0, h1, g0, g1, rfl, rfl, rfl⟩ (by repeat (first | exact Sub.nil | refine Sub.cons rfl ?_ | refine Sub.cons (congrArg (fun z => some (Value.int IntKind.i64 z)) (by omega)) ?_)) (cat_perm (ls' := [K0, K1, R0, R1, [(b10, _)], K, R, [(b3, _)], [(b4, _)]]) (ls := [[(b10, _)], K, K0, K1, R, R0, R1, [(b3, _)], [(b4, _)]]) (by repeat (first | exact PermM.nil | refine PermM.cons (by repeat (first | exact Ins.here | apply Ins.there)) ?_))) ?_
                        clear h0 h1 g0 g1
                        clear K0 K1 R0 R1
                        rintro _ _ _ ⟨j, K0, K1, R0, R1, hj2, h0, h1, g0, g1, rfl, rfl, rfl⟩
                        have hcr := cj_room (op := op) hm0 hm1 j
                        refine cg_seq ?_
                        refine cg_region ?_
                        refine rg_split (.inl rfl) rfl rfl (by exact qc_lss rfl rfl) ?_ ?_
                        · intro hj
                          have hjl : j < 2 := by omega
                          refine rg_nil ?_
                          refine qg_then ?_
                          refine cg_seq ?_
                          refine cg_true rfl ?_
                          refine cg_skip ?_
                          refine qg_then ?_
                          refine cg_seq ?_
                          refine cg_block ?_
                          refine cg_seq ?_
                          refine cg_region ?_
                          refine rg_q (.inl rfl) rfl rfl (by exact QW.qr (qw_move rfl)) ?_
                          refine rg_q (.inl rfl) rfl rfl (by exact QW.qr (qw_assign rfl)) ?_
                          refine rg_nil ?_
                          refine qg_then ?_
                          refine cg_draw follows (.op 0 false (.op 1 false (.op 2 false (.op 3 false (.op 4 false (.op 5 false (.op 6 false (.op 7 false (.op 8 false (.op 9 false (.op 10 false (.op 11 false (.op 12 false (.op 13 false (.op 14 false (.op 15 false .done)))))))))))))))) _ (by kernel_rfl) (SubP.of (List.Sublist.refl _)) ?_
                          refine dg_w rfl rfl (.inl rfl) rfl rfl (by exact qw_move rfl) ?_
                          refine dg_w rfl rfl (.inl rfl) rfl rfl (by exact qw_indexAddr_arr rfl rfl (by omega) (by omega)) ?_
                          refine dg_r rfl rfl rfl (.inl rfl) rfl rfl (by exact qr_load1' rfl (mem_cat (ls := [K0, K1, R0, R1, [(b10, _)], K, R, [(b3, _)], [(b4, _)]]) (s := [(b3, _)]) (by repeat (first | exact List.Mem.head _ | apply List.Mem.tail)) (List.Mem.head _)) (arr2_get c0 c1 j hjl)) ?_
                          refine dg_w rfl rfl (.inl rfl) rfl rfl (by exact qw_move rfl) ?_
                          refine dg_w rfl rfl (.inl rfl) rfl rfl (by exact qw_indexAddr_arr rfl rfl (by omega) (by omega)) ?_
                          refine dg_r rfl rfl rfl (.inl rfl) rfl rfl (by exact qr_load1' rfl (mem_cat (ls := [K0, K1, R0, R1, [(b10, _)], K, R, [(b3, _)], [(b4, _)]]) (s := [(b4, _)]) (by repeat (first | exact List.Mem.head _ | apply List.Mem.tail)) (List.Mem.head _)) (arr2_get w0 w1 j hjl)) ?_
                          refine dg_w rfl rfl (.inl rfl) rfl rfl (by exact qw_move rfl) ?_
                          refine dg_w rfl rfl (.inl rfl) rfl rfl (by exact qw_fieldAddr rfl) ?_
                          refine dg_w rfl rfl (.inl rfl) rfl rfl (by exact qw_indexAddr_arr rfl rfl (by omega) (by omega)) ?_
                          refine dg_r rfl rfl rfl (.inl rfl) rfl rfl (by exact qr_load1' rfl (mem_cat (ls := [K0, K1, R0, R1, [(b10, _)], K, R, [(b3, _)], [(b4, _)]]) (s := [(b10, _)]) (by repeat (first | exact List.Mem.head _ | apply List.Mem.tail)) (List.Mem.head _)) (kq_get op j hjl)) ?_
                          refine dg_w rfl rfl (.inl rfl) rfl rfl (by exact qw_move rfl) ?_
                          refine dg_w rfl rfl (.inl rfl) rfl rfl (by exact qw_fieldAddr rfl) ?_
                          refine dg_w rfl rfl (.inl rfl) rfl rfl (by exact qw_indexAddr_arr rfl rfl (by omega) (by omega)) ?_
                          refine dg_r rfl rfl rfl (.inl rfl) rfl rfl (by exact qr_load1' rfl (mem_cat (ls := [K0, K1, R0, R1, [(b10, _)], K, R, [(b3, _)], [(b4, _)]]) (s := [(b10, _)]) (by repeat (first | exact List.Mem.head _ | apply List.Mem.tail)) (List.Mem.head _)) (zq_get op j hjl)) ?_
                          refine dg_w rfl rfl (.inl rfl) rfl rfl (by exact qw_build (.cons rfl (.cons rfl (.cons rfl (.nil)))) rfl (.cons rfl (by first | exact CellsOf.agg | exact CellsOf.one rfl) (by repeat (first | exact SetSeg.done | apply SetSeg.take | apply SetSeg.skip)) (by rfl) (by rfl) (.cons rfl (by first | exact CellsOf.agg | exact CellsOf.one rfl) (by repeat (first | exact SetSeg.done | apply SetSeg.take | apply SetSeg.skip)) (by rfl) (by rfl) (.cons rfl (by first | exact CellsOf.agg | exact CellsOf.one rfl) (by repeat (first | exact SetSeg.done | apply SetSeg.take | apply SetSeg.skip)) (by rfl) (by rfl) (.nil))))) ?_
                          refine dg_g rfl rfl (.inl rfl) rfl rfl (by exact ev_call0 rfl (.cons rfl (.cons rfl (.cons rfl (.nil)))) (doesK (args := fun b w => [PT b, PT w, .agg #[I 4, I (kq op j), I (zq op j), .slice none 0 0]]) (fun s => crashS s (kq op j) (zq op j)) c0 c1 w0 w1 _ _ K0 K1 R0 R1 j hjl O (cat [[(b10, _)], K, R, [(b3, .cells [PT c0, PT c1].toArray 48 (0, 0))], [(b4, .cells [PT w0, PT w1].toArray 54 (0, 0))]] L) h0 h1 g0 g1 (fun b w s K R F' a1 a2 _ hs => does4_ca b w s K R O F' _ _ a1 a2 (by rcases hs with rfl | rfl; exact Nat.le_trans hcr.1 (by decide); exact Nat.le_trans hcr.2 (by decide))))) ?_
                          rintro _ _ ⟨K02, K12, R02, R12, rfl, h02, h12, g02, g12⟩
                          obtain ⟨e1, e2⟩ := cj_step op s0 s1 j hjl
                          rw [e1] at h02 g02
                          rw [e2] at h12 g12
                          refine dg_nil ?_
                          refine qg_block ?_
                          refine qg_then ?_
                          refine cg_region ?_
                          refine rg_q (.inl rfl) rfl rfl (by exact QW.qr (qw_add_in rfl rfl (by unfold inK; omega))) ?_
                          refine rg_q (.inl rfl) rfl rfl (by exact QW.qr (qw_move rfl)) ?_
                          refine rg_nil ?_
                          exact qg_round_sp _ _ _ ⟨j + 1, K02, K12, R02, R12, by omega, h02, h12, g02, g12, rfl, rfl, rfl⟩ (by repeat (first | exact Sub.nil | refine Sub.cons rfl ?_ | refine Sub.cons (congrArg (fun z => some (Value.int IntKind.i64 z)) (by omega)) ?_)) (SubP.of (List.Sublist.refl _)) (by omega)
                        · intro hj
                          obtain rfl : j = 2 := by omega
                          generalize hq0 : cj0 op s0 2 = q0 at h0 g0 hcr
                          generalize hq1 : cj1 op s1 2 = q1 at h1 g1 hcr
                          have hy0 : sizeS q0 ≤ 300000 := Nat.le_trans hcr.1 (by decide)
                          have hy1 : sizeS q1 ≤ 300000 := Nat.le_trans hcr.2 (by decide)
                          refine rg_nil ?_
                          refine qg_then ?_
                          refine cg_seq ?_
                          refine cg_false rfl ?_
                          refine cg_exit ?_
                          refine qg_then_exit ?_
                          refine qg_then_exit ?_
                          refine qg_block_here ?_
                          refine qg_then ?_
                          refine cg_seq ?_
                          refine cg_region ?_
                          refine rg_q (.inl rfl) rfl rfl (by exact QW.qr (qw_indexAddr_arr rfl rfl (by decide) (by decide))) ?_
                          refine rg_q (.inl rfl) rfl rfl (by exact qr_load1 rfl (mem_cat (ls := [K0, K1, R0, R1, [(b10, _)], K, R, [(b3, _)], [(b4, _)]]) (s := [(b3, _)]) (by repeat (first | exact List.Mem.head _ | apply List.Mem.tail)) (List.Mem.head _)) rfl) ?_
                          refine rg_q (.inl rfl) rfl rfl (by exact QW.qr (qw_indexAddr_arr rfl rfl (by decide) (by decide))) ?_
                          refine rg_q (.inl rfl) rfl rfl (by exact qr_load1 rfl (mem_cat (ls := [K0, K1, R0, R1, [(b10, _)], K, R, [(b3, _)], [(b4, _)]]) (s := [(b3, _)]) (by repeat (first | exact List.Mem.head _ | apply List.Mem.tail)) (List.Mem.head _)) rfl) ?_
                          refine rg_e (.inl rfl) rfl rfl (by exact ev_call0 rfl (.cons rfl (.cons rfl (.nil))) (open_ca c0 c1 q0 q1 K0 K1 h0 h1 hy0 hy1 O (cat [R0, R1, [(b10, _)], K, R, [(b3, .cells [PT c0, PT c1].toArray 48 (0, 0))], [(b4, .cells [PT w0, PT w1].toArray 54 (0, 0))]] L))) ?_
                          rintro _ _ h
                          have hoo := open_ok hcr.1 hcr.2
                          generalize hr0 : openS q0 q1 = r at h hoo
                          obtain ⟨l2, s02, s12, e2⟩ := r
                          rcases h with ⟨he, rfl, K02, K12, rfl, h02, h12⟩ | ⟨he, bl2, K2, K02, K12, rfl, rfl, hl2, h02, h12⟩
                          · skip
                            replace he : e2 ≠ 0 := he
                            refine rg_q (.inl rfl) rfl rfl (by exact QW.qr (qw_move rfl)) ?_
                            refine rg_q (.inl rfl) rfl rfl (by exact QW.qr (qw_extract rfl rfl)) ?_
                            refine rg_q (.inl rfl) rfl rfl (by exact QW.qr (qw_extract rfl rfl)) ?_
                            refine rg_q (.inl rfl) rfl rfl (by exact QW.qr (qw_assign rfl)) ?_
                            refine rg_q (.inl rfl) rfl rfl (by exact QW.qr (qw_assign rfl)) ?_
                            refine rg_nil ?_
                            refine qg_then ?_
                            refine cg_seq ?_
                            refine cg_region ?_
                            refine rg_q (.inl rfl) rfl rfl (by exact QW.qr (qw_indexAddr_arr rfl rfl (by decide) (by decide))) ?_
                            refine rg_q (.inl rfl) rfl rfl (by exact qr_load1 rfl (mem_cat (ls := [K02, K12, R0, R1, [(b10, _)], K, R, [(b3, _)], [(b4, _)]]) (s := [(b4, _)]) (by repeat (first | exact List.Mem.head _ | apply List.Mem.tail)) (List.Mem.head _)) rfl) ?_
                            refine rg_q (.inl rfl) rfl rfl (by exact QW.qr (qw_indexAddr_arr rfl rfl (by decide) (by decide))) ?_
                            refine rg_q (.inl rfl) rfl rfl (by exact qr_load1 rfl (mem_cat (ls := [K02, K12, R0, R1, [(b10, _)], K, R, [(b3, _)], [(b4, _)]]) (s := [(b4, _)]) (by repeat (first | exact List.Mem.head _ | apply List.Mem.tail)) (List.Mem.head _)) rfl) ?_
                            refine rg_e (.inl rfl) rfl rfl (by exact ev_call0 rfl (.cons rfl (.cons rfl (.nil))) ((ropen_ca w0 w1 q0 q1 R0 R1 g0 g1 hy0 hy1 O (cat [K02, K12, [(b10, _)], K, R, [(b3, .cells [PT c0, PT c1].toArray 48 (0, 0))], [(b4, .cells [PT w0, PT w1].toArray 54 (0, 0))]] L)).pre (fun w h => h.perm (cat_perm (ls' := [R0, R1, K02, K12, [(b10, _)], K, R, [(b3, .cells [PT c0, PT c1].toArray 48 (0, 0))], [(b4, .cells [PT w0, PT w1].toArray 54 (0, 0))]]) (ls := [K02, K12, R0, R1, [(b10, _)], K, R, [(b3, .cells [PT c0, PT c1].toArray 48 (0, 0))], [(b4, .cells [PT w0, PT w1].toArray 54 (0, 0))]]) (by repeat (first | exact PermM.nil | refine PermM.cons (by repeat (first | exact Ins.here | apply Ins.there)) ?_)))))) ?_
                            rintro _ _ h
                            rw [hr0] at h
                            rcases h with ⟨_, rfl, R02, R12, rfl, g02, g12⟩ | ⟨he2, _⟩
                            rotate_left
                            · exact absurd he2 he
                            refine rg_q (.inl rfl) rfl rfl (by exact QW.qr (qw_move rfl)) ?_
                            refine rg_q (.inl rfl) rfl rfl (by exact QW.qr (qw_extract rfl rfl)) ?_
                            refine rg_q (.inl rfl) rfl rfl (by exact QW.qr (qw_extract rfl rfl)) ?_
                            refine rg_q (.inl rfl) rfl rfl (by exact QW.qr (qw_assign rfl)) ?_
                            refine rg_q (.inl rfl) rfl rfl (by exact QW.qr (qw_assign rfl)) ?_
                            refine rg_nil ?_
                            refine qg_then ?_
                            refine cg_region ?_
                            refine rg_q (.inl rfl) rfl rfl (by exact QW.qr (qw_move rfl)) ?_
                            refine rg_q (.inl rfl) rfl rfl (by exact QW.qr (qw_move rfl)) ?_
                            refine rg_q (.inl rfl) rfl rfl (by exact QW.qr (qw_eql_t rfl rfl rfl)) ?_
                            refine rg_q (.inl rfl) rfl rfl (by exact QW.qr (qw_move rfl)) ?_
                            refine rg_q (.inr (guard_mk rfl rfl rfl rfl)) rfl rfl (by exact QW.qr (qw_move rfl)) ?_
                            refine rg_q (.inr (guard_mk rfl rfl rfl rfl)) rfl rfl (by exact QW.qr (qw_eql_nil (e := 70) rfl rfl)) ?_
                            refine rg_q (.inr (guard_mk rfl rfl rfl rfl)) rfl rfl (by exact QW.qr (qw_move rfl)) ?_
                            refine rg_q (.inr (guard_mk rfl rfl rfl rfl)) rfl rfl (by exact QW.qr (qw_eql_nil (e := 91) rfl rfl)) ?_
                            refine rg_q (.inr (guard_mk rfl rfl rfl rfl)) rfl rfl (by exact QW.qr (qw_eql_bool rfl rfl)) ?_
                            refine rg_q (.inl rfl) rfl rfl (by exact QW.qr (qw_pick_t rfl rfl)) ?_
                            refine rg_q (.inl rfl) rfl rfl (by exact QW.qr (qw_assign rfl)) ?_
                            refine rg_nil ?_
                            refine qg_block ?_
                            exact qg_cut_sp _ _ ⟨s02, s12, _, _, e2, e2, [], K02, K12, [], R02, R12, hoo.2.1, hoo.2.2, .inl ⟨rfl, rfl, rfl, rfl⟩, h02, h12, g02, g12, rfl, rfl⟩ (by repeat (first | exact Sub.nil | refine Sub.cons rfl ?_ | refine Sub.cons (congrArg (fun z => some (Value.int IntKind.i64 z)) (by omega)) ?_)) (cat_sub (ls' := [K02, K12, R02, R12, [(b3, _)], [(b4, _)]]) (ls := [R02, R12, K02, K12, [(b10, _)], K, R, [(b3, _)], [(b4, _)]]) (by repeat (first | exact SubM.nil | refine SubM.cons (by repeat (first | exact Ins.here | apply Ins.there)) ?_)))
                          · skip
                            replace he : e2 = 0 := he
                            subst he
                            refine rg_q (.inl rfl) rfl rfl (by exact QW.qr (qw_move rfl)) ?_
                            refine rg_q (.inl rfl) rfl rfl (by exact QW.qr (qw_extract rfl rfl)) ?_
                            refine rg_q (.inl rfl) rfl rfl (by exact QW.qr (qw_extract rfl rfl)) ?_
                            refine rg_q (.inl rfl) rfl rfl (by exact QW.qr (qw_assign rfl)) ?_
                            refine rg_q (.inl rfl) rfl rfl (by exact QW.qr (qw_assign rfl)) ?_
                            refine rg_nil ?_
                            refine qg_then ?_
                            refine cg_seq ?_
                            refine cg_region ?_
                            refine rg_q (.inl rfl) rfl rfl (by exact QW.qr (qw_indexAddr_arr rfl rfl (by decide) (by decide))) ?_
                            refine rg_q (.inl rfl) rfl rfl (by exact qr_load1 rfl (mem_cat (ls := [K2, K02, K12, R0, R1, [(b10, _)], K, R, [(b3, _)], [(b4, _)]]) (s := [(b4, _)]) (by repeat (first | exact List.Mem.head _ | apply List.Mem.tail)) (List.Mem.head _)) rfl) ?_
                            refine rg_q (.inl rfl) rfl rfl (by exact QW.qr (qw_indexAddr_arr rfl rfl (by decide) (by decide))) ?_
                            refine rg_q (.inl rfl) rfl rfl (by exact qr_load1 rfl (mem_cat (ls := [K2, K02, K12, R0, R1, [(b10, _)], K, R, [(b3, _)], [(b4, _)]]) (s := [(b4, _)]) (by repeat (first | exact List.Mem.head _ | apply List.Mem.tail)) (List.Mem.head _)) rfl) ?_
                            refine rg_e (.inl rfl) rfl rfl (by exact ev_call0 rfl (.cons rfl (.cons rfl (.nil))) ((ropen_ca w0 w1 q0 q1 R0 R1 g0 g1 hy0 hy1 O (cat [K2, K02, K12, [(b10, _)], K, R, [(b3, .cells [PT c0, PT c1].toArray 48 (0, 0))], [(b4, .cells [PT w0, PT w1].toArray 54 (0, 0))]] L)).pre (fun w h => h.perm (cat_perm (ls' := [R0, R1, K2, K02, K12, [(b10, _)], K, R, [(b3, .cells [PT c0, PT c1].toArray 48 (0, 0))], [(b4, .cells [PT w0, PT w1].toArray 54 (0, 0))]]) (ls := [K2, K02, K12, R0, R1, [(b10, _)], K, R, [(b3, .cells [PT c0, PT c1].toArray 48 (0, 0))], [(b4, .cells [PT w0, PT w1].toArray 54 (0, 0))]]) (by repeat (first | exact PermM.nil | refine PermM.cons (by repeat (first | exact Ins.here | apply Ins.there)) ?_)))))) ?_
                            rintro _ _ h
                            rw [hr0] at h
                            rcases h with ⟨he2, _⟩ | ⟨_, rl2, R2, R02, R12, rfl, rfl, hr2, g02, g12⟩
                            · exact absurd rfl he2
                            refine rg_q (.inl rfl) rfl rfl (by exact QW.qr (qw_move rfl)) ?_
                            refine rg_q (.inl rfl) rfl rfl (by exact QW.qr (qw_extract rfl rfl)) ?_
                            refine rg_q (.inl rfl) rfl rfl (by exact QW.qr (qw_extract rfl rfl)) ?_
                            refine rg_q (.inl rfl) rfl rfl (by exact QW.qr (qw_assign rfl)) ?_
                            refine rg_q (.inl rfl) rfl rfl (by exact QW.qr (qw_assign rfl)) ?_
                            refine rg_nil ?_
                            refine qg_then ?_
                            refine cg_region ?_
                            refine rg_q (.inl rfl) rfl rfl (by exact QW.qr (qw_move rfl)) ?_
                            refine rg_q (.inl rfl) rfl rfl (by exact QW.qr (qw_move rfl)) ?_
                            refine rg_q (.inl rfl) rfl rfl (by exact QW.qr (qw_eql_t rfl rfl rfl)) ?_
                            refine rg_q (.inl rfl) rfl rfl (by exact QW.qr (qw_move rfl)) ?_
                            refine rg_q (.inr (guard_mk rfl rfl rfl rfl)) rfl rfl (by exact QW.qr (qw_move rfl)) ?_
                            refine rg_q (.inr (guard_mk rfl rfl rfl rfl)) rfl rfl (by exact QW.qr (qw_eql_ptr (e := 70) rfl rfl)) ?_
                            refine rg_q (.inr (guard_mk rfl rfl rfl rfl)) rfl rfl (by exact QW.qr (qw_move rfl)) ?_
                            refine rg_q (.inr (guard_mk rfl rfl rfl rfl)) rfl rfl (by exact QW.qr (qw_eql_ptr (e := 91) rfl rfl)) ?_
                            refine rg_q (.inr (guard_mk rfl rfl rfl rfl)) rfl rfl (by exact QW.qr (qw_eql_bool rfl rfl)) ?_
                            refine rg_q (.inl rfl) rfl rfl (by exact QW.qr (qw_pick_t rfl rfl)) ?_
                            refine rg_q (.inl rfl) rfl rfl (by exact QW.qr (qw_assign rfl)) ?_
                            refine rg_nil ?_
                            refine qg_block ?_
                            exact qg_cut_sp _ _ ⟨s02, s12, _, _, 0, 0, K2, K02, K12, R2, R02, R12, hoo.2.1, hoo.2.2, .inr ⟨l2, bl2, rl2, rfl, rfl, hl2, hr2, hoo.1.up (by omega)⟩, h02, h12, g02, g12, rfl, rfl⟩ (by repeat (first | exact Sub.nil | refine Sub.cons rfl ?_ | refine Sub.cons (congrArg (fun z => some (Value.int IntKind.i64 z)) (by omega)) ?_)) (cat_sub (ls' := [K2, K02, K12, R2, R02, R12, [(b3, _)], [(b4, _)]]) (ls := [R2, R02, R12, K2, K02, K12, [(b10, _)], K, R, [(b3, _)], [(b4, _)]]) (by repeat (first | exact SubM.nil | refine SubM.cons (by repeat (first | exact Ins.here | apply Ins.there)) ?_)))
                      · intro k5
                        refine rg_q (.inl rfl) rfl rfl (by exact QW.qr (qw_assign rfl)) ?_
                        refine rg_nil ?_
                        refine qg_then ?_
                        refine cg_false rfl ?_
                        refine cg_seq ?_
                        refine cg_region ?_
                        refine rg_q (.inl rfl) rfl rfl (by exact QW.qr (qw_fieldAddr rfl)) ?_
                        refine rg_q (.inl rfl) rfl rfl (by exact qr_load1 rfl (by repeat (first | exact List.Mem.head _ | apply List.Mem.tail | apply List.mem_append_right | assumption)) rfl) ?_
                        refine rg_split (.inl rfl) rfl rfl (by exact qc_eql rfl rfl) ?_ ?_
                        · intro k6
                          refine rg_q (.inl rfl) rfl rfl (by exact QW.qr (qw_assign rfl)) ?_
                          refine rg_nil ?_
                          refine qg_then ?_
                          refine cg_true rfl ?_
                          refine cg_draw follows (.op 0 false (.op 1 false (.op 2 false (.op 3 false (.op 4 false (.op 5 false (.op 6 false (.op 7 false (.eff 8 true (.op 9 false (.op 10 false .done))))))))))) _ (by kernel_rfl) (SubP.of (List.Sublist.refl _)) ?_
                          refine dg_w rfl rfl (.inl rfl) rfl rfl (by exact qw_move rfl) ?_
                          refine dg_w rfl rfl (.inl rfl) rfl rfl (by exact qw_indexAddr_arr rfl rfl (by omega) (by omega)) ?_
                          refine dg_r rfl rfl rfl (.inl rfl) rfl rfl (by exact qr_load1' rfl (mem_cat (ls := [[(b10, _)], K, K0, K1, R, R0, R1, [(b3, _)], [(b4, _)]]) (s := [(b3, _)]) (by repeat (first | exact List.Mem.head _ | apply List.Mem.tail)) (List.Mem.head _)) (arr2_get c0 c1 wj hwj2)) ?_
                          refine dg_w rfl rfl (.inl rfl) rfl rfl (by exact qw_move rfl) ?_
                          refine dg_w rfl rfl (.inl rfl) rfl rfl (by exact qw_indexAddr_arr rfl rfl (by omega) (by omega)) ?_
                          refine dg_r rfl rfl rfl (.inl rfl) rfl rfl (by exact qr_load1' rfl (mem_cat (ls := [[(b10, _)], K, K0, K1, R, R0, R1, [(b3, _)], [(b4, _)]]) (s := [(b4, _)]) (by repeat (first | exact List.Mem.head _ | apply List.Mem.tail)) (List.Mem.head _)) (arr2_get w0 w1 wj hwj2)) ?_
                          refine dg_w rfl rfl (.inl rfl) rfl rfl (by exact qw_fieldAddr rfl) ?_
                          refine dg_r rfl rfl rfl (.inl rfl) rfl rfl (by exact qr_load1 rfl (by repeat (first | exact List.Mem.head _ | apply List.Mem.tail | apply List.mem_append_right | assumption)) rfl) ?_
                          refine dgx_e rfl (.inl rfl) rfl rfl (by exact ev_strToBytes (s := ⟨op.value.toArray⟩) rfl) ?_
                          rintro vv _ ⟨Bv, hvv, rfl⟩
                          replace hvv : RdL Bv encB 1 vv op.value := hvv
                          obtain ⟨pvv, cvv, rfl, _⟩ := id hvv
                          refine ⟨(SubP.of (by repeat (first | exact List.Sublist.refl _ | exact List.nil_sublist _ | exact List.sublist_append_right _ _ | apply List.Sublist.cons_cons | apply List.Sublist.cons | refine List.Sublist.trans ?_ (List.sublist_append_right _ _)))), ?_⟩
                          refine dg_w rfl rfl (.inl rfl) rfl rfl (by exact qw_build (.cons rfl (.cons rfl (.nil))) rfl (.cons rfl (by first | exact CellsOf.agg | exact CellsOf.one rfl) (by repeat (first | exact SetSeg.done | apply SetSeg.take | apply SetSeg.skip)) (by rfl) (by rfl) (.cons rfl (by first | exact CellsOf.agg | exact CellsOf.one rfl) (by repeat (first | exact SetSeg.done | apply SetSeg.take | apply SetSeg.skip)) (by rfl) (by rfl) (.nil)))) ?_
                          refine dg_g rfl rfl (.inl rfl) rfl rfl (by exact ev_call0 rfl (.cons rfl (.cons rfl (.cons rfl (.nil)))) ((doesK (args := fun b w => [PT b, PT w, .agg #[I 0, I 0, I 0, .slice pvv op.value.length cvv]]) (fun s => (appendS s op.value).1) c0 c1 w0 w1 s0 s1 K0 K1 R0 R1 wj hwj2 O (cat [Bv, [(b10, _)], K, R, [(b3, .cells [PT c0, PT c1].toArray 48 (0, 0))], [(b4, .cells [PT w0, PT w1].toArray 54 (0, 0))]] L) h0 h1 g0 g1 (fun b w s K R F' a1 a2 hF hs => does0_ca b w s K R O F' op.value _ (hvv.mono (fun q hq => hF q (mem_cat (s := Bv) (by repeat (first | exact List.Mem.head _ | apply List.Mem.tail)) hq))) (by omega) a1 a2 (by rcases hs with rfl | rfl <;> assumption))).pre (fun w h => h.perm (cat_perm (ls' := [K0, K1, R0, R1, Bv, [(b10, _)], K, R, [(b3, .cells [PT c0, PT c1].toArray 48 (0, 0))], [(b4, .cells [PT w0, PT w1].toArray 54 (0, 0))]]) (ls := [Bv, [(b10, _)], K, K0, K1, R, R0, R1, [(b3, .cells [PT c0, PT c1].toArray 48 (0, 0))], [(b4, .cells [PT w0, PT w1].toArray 54 (0, 0))]]) (by repeat (first | exact PermM.nil | refine PermM.cons (by repeat (first | exact Ins.here | apply Ins.there)) ?_)))))) ?_
                          rintro _ _ ⟨K02, K12, R02, R12, rfl, h02, h12, g02, g12⟩
                          obtain ⟨hm02, hm12⟩ := at_room (f := fun s => (appendS s op.value).1) (j := wj) (fun s hs => append_room _ hs) hm0 hm1
                          refine dg_nil ?_
                          refine qg_block ?_
                          exact qg_cut_sp _ _ ⟨_, _, _, _, e, f, K, K02, K12, R, R02, R12, hm02, hm12, hlo2.up (by omega), h02, h12, g02, g12, rfl, rfl⟩ (by repeat (first | exact Sub.nil | refine Sub.cons rfl ?_ | refine Sub.cons (congrArg (fun z => some (Value.int IntKind.i64 z)) (by omega)) ?_)) (cat_sub (ls' := [K, K02, K12, R, R02, R12, [(b3, _)], [(b4, _)]]) (ls := [K02, K12, R02, R12, Bv, [(b10, _)], K, R, [(b3, _)], [(b4, _)]]) (by repeat (first | exact SubM.nil | refine SubM.cons (by repeat (first | exact Ins.here | apply Ins.there)) ?_)))
                        · intro k6
                          refine rg_q (.inl rfl) rfl rfl (by exact QW.qr (qw_assign rfl)) ?_
                          refine rg_nil ?_
                          refine qg_then ?_
                          refine cg_false rfl ?_
                          refine cg_skip ?_
                          refine qg_block ?_
                          exact qg_cut_sp _ _ ⟨s0, s1, _, _, e, f, K, K0, K1, R, R0, R1, hm0, hm1, hlo2.up (by omega), h0, h1, g0, g1, rfl, rfl⟩ (by repeat (first | exact Sub.nil | refine Sub.cons rfl ?_ | refine Sub.cons (congrArg (fun z => some (Value.int IntKind.i64 z)) (by omega)) ?_)) (cat_sub (ls' := [K, K0, K1, R, R0, R1, [(b3, _)], [(b4, _)]]) (ls := [[(b10, _)], K, K0, K1, R, R0, R1, [(b3, _)], [(b4, _)]]) (by repeat (first | exact SubM.nil | refine SubM.cons (by repeat (first | exact Ins.here | apply Ins.there)) ?_)))
          · skip
            have hcnt := weigh_count7 l.has
            have hwt := hok.weight
            refine cg_region ?_
            refine rg_q (.inl rfl) rfl rfl (by exact QW.qr (qw_fieldAddr rfl)) ?_
            refine rg_q (.inl rfl) rfl rfl (by exact qr_load1 rfl (by repeat (first | exact List.Mem.head _ | apply List.Mem.tail | apply List.mem_append_right | assumption)) rfl) ?_
            refine rg_split (.inl rfl) rfl rfl (by exact qc_eql rfl rfl) ?_ ?_
            · intro k0
              refine rg_q (.inl rfl) rfl rfl (by exact QW.qr (qw_move rfl)) ?_
              refine rg_q (.inr (guard_mk rfl rfl rfl rfl)) rfl rfl (by exact QW.qr (qw_move rfl)) ?_
              refine rg_q (.inr (guard_mk rfl rfl rfl rfl)) rfl rfl (by exact QW.qr (qw_neq_ptr (e := 91) rfl rfl)) ?_
              refine rg_q (.inl rfl) rfl rfl (by exact QW.qr (qw_pick_t rfl rfl)) ?_
              refine rg_q (.inl rfl) rfl rfl (by exact QW.qr (qw_assign rfl)) ?_
              refine rg_nil ?_
              refine qg_then ?_
              refine cg_true rfl ?_
              refine cg_draw follows (.op 0 false (.op 1 false (.op 2 false (.op 3 false (.op 4 false (.op 7 false (.op 8 false (.op 9 false (.op 10 false (.op 11 false (.eff 5 true (.op 6 true (.op 12 false (.op 13 false (.op 14 false .done))))))))))))))) _ (by kernel_rfl) (SubP.of (List.singleton_sublist.2 (by repeat (first | exact List.Mem.head _ | apply List.Mem.tail | apply List.mem_append_right)))) ?_
              refine dg_w rfl rfl (.inl rfl) rfl rfl (by exact qw_move rfl) ?_
              refine dg_w rfl rfl (.inl rfl) rfl rfl (by exact qw_fieldAddr rfl) ?_
              refine dg_r rfl rfl rfl (.inl rfl) rfl rfl (by exact qr_load1 rfl (by repeat (first | exact List.Mem.head _ | apply List.Mem.tail | apply List.mem_append_right | assumption)) rfl) ?_
              refine dg_w rfl rfl (.inl rfl) rfl rfl (by exact qw_fieldAddr rfl) ?_
              refine dg_r rfl rfl rfl (.inl rfl) rfl rfl (by exact qr_load1 rfl (by repeat (first | exact List.Mem.head _ | apply List.Mem.tail | apply List.mem_append_right | assumption)) rfl) ?_
              refine dg_w rfl rfl (.inl rfl) rfl rfl (by exact qw_move rfl) ?_
              refine dg_w rfl rfl (.inl rfl) rfl rfl (by exact qw_fieldAddr rfl) ?_
              refine dg_r rfl rfl rfl (.inl rfl) rfl rfl (by exact qr_load1 rfl (by repeat (first | exact List.Mem.head _ | apply List.Mem.tail | apply List.mem_append_right | assumption)) rfl) ?_
              refine dg_w rfl rfl (.inl rfl) rfl rfl (by exact qw_fieldAddr rfl) ?_
              refine dg_r rfl rfl rfl (.inl rfl) rfl rfl (by exact qr_load1 rfl (by repeat (first | exact List.Mem.head _ | apply List.Mem.tail | apply List.mem_append_right | assumption)) rfl) ?_
              refine dgx_e rfl (.inl rfl) rfl rfl (by exact ev_strToBytes (s := ⟨op.value.toArray⟩) rfl) ?_
              rintro vv _ ⟨Bv, hvv, rfl⟩
              replace hvv : RdL Bv encB 1 vv op.value := hvv
              obtain ⟨l2, s02, s12, e2, hres⟩ : ∃ l2 s02 s12 e2, act2 (fun l s => putL l s op.name op.value) l s0 s1 = (l2, s02, s12, e2) := ⟨_, _, _, _, rfl⟩
              obtain ⟨hm02, hm12⟩ := act2_room hres (fun s hs => putL_room op.name op.value hs) hm0 hm1
              have hok2 := act2_ok hres (fun s => putL_ok op.name op.value hok)
              refine ⟨(SubP.of (List.singleton_sublist.2 (by repeat (first | exact List.Mem.head _ | apply List.Mem.tail | apply List.mem_append_right)))), ?_⟩
              refine dg_e rfl rfl (.inl rfl) rfl rfl (by exact ev_call0 rfl (.cons rfl (.cons rfl (.cons rfl (.nil)))) ((put3_ca bl c0 c1 O (cat [Bv, [(b10, _)], R, R0, R1, [(b3, .cells [PT c0, PT c1].toArray 48 (0, 0))], [(b4, .cells [PT w0, PT w1].toArray 54 (0, 0))]] L) hl h0 h1 hz0 hz1 op.name op.value vv (hvv.mono (fun q hq => mem_cat (s := Bv) (by repeat (first | exact List.Mem.head _ | apply List.Mem.tail)) hq)) hres).pre (fun w h => h.perm (cat_perm (ls' := [K, K0, K1, Bv, [(b10, _)], R, R0, R1, [(b3, .cells [PT c0, PT c1].toArray 48 (0, 0))], [(b4, .cells [PT w0, PT w1].toArray 54 (0, 0))]]) (ls := [Bv, [(b10, _)], K, K0, K1, R, R0, R1, [(b3, .cells [PT c0, PT c1].toArray 48 (0, 0))], [(b4, .cells [PT w0, PT w1].toArray 54 (0, 0))]]) (by repeat (first | exact PermM.nil | refine PermM.cons (by repeat (first | exact Ins.here | apply Ins.there)) ?_)))))) ?_
              rintro _ _ ⟨rfl, K2, K02, K12, rfl, hl2, h02, h12⟩
              refine ⟨(SubP.of (List.singleton_sublist.2 (by repeat (first | exact List.Mem.head _ | apply List.Mem.tail | apply List.mem_append_right)))), ?_⟩
              refine dg_g rfl rfl (.inl rfl) rfl rfl (by exact ev_call0 rfl (.cons rfl (.cons rfl (.cons rfl (.nil)))) ((rput3_ca rl w0 w1 O (cat [K2, K02, K12, Bv, [(b10, _)], [(b3, .cells [PT c0, PT c1].toArray 48 (0, 0))], [(b4, .cells [PT w0, PT w1].toArray 54 (0, 0))]] L) hr g0 g1 hz0 hz1 hok.nd (by omega) op.name op.value hres).pre (fun w h => h.perm (cat_perm (ls' := [R, R0, R1, K2, K02, K12, Bv, [(b10, _)], [(b3, .cells [PT c0, PT c1].toArray 48 (0, 0))], [(b4, .cells [PT w0, PT w1].toArray 54 (0, 0))]]) (ls := [K2, K02, K12, Bv, [(b10, _)], R, R0, R1, [(b3, .cells [PT c0, PT c1].toArray 48 (0, 0))], [(b4, .cells [PT w0, PT w1].toArray 54 (0, 0))]]) (by repeat (first | exact PermM.nil | refine PermM.cons (by repeat (first | exact Ins.here | apply Ins.there)) ?_)))))) ?_
              rintro _ _ ⟨rfl, R2, R02, R12, rfl, hr2, g02, g12⟩
              refine dg_w rfl rfl (.inl rfl) rfl rfl (by exact qw_eql_t rfl rfl rfl) ?_
              refine dg_w rfl rfl (.inl rfl) rfl rfl (by exact qw_assign rfl) ?_
              refine dg_nil ?_
              refine qg_block ?_
              exact qg_cut_sp _ _ ⟨s02, s12, _, _, e, f, K2, K02, K12, R2, R02, R12, hm02, hm12, .inr ⟨l2, bl, rl, rfl, rfl, hl2, hr2, hok2.up (by omega)⟩, h02, h12, g02, g12, rfl, rfl⟩ (by repeat (first | exact Sub.nil | refine Sub.cons rfl ?_ | refine Sub.cons (congrArg (fun z => some (Value.int IntKind.i64 z)) (by omega)) ?_)) (cat_sub (ls' := [K2, K02, K12, R2, R02, R12, [(b3, _)], [(b4, _)]]) (ls := [R2, R02, R12, K2, K02, K12, Bv, [(b10, _)], [(b3, _)], [(b4, _)]]) (by repeat (first | exact SubM.nil | refine SubM.cons (by repeat (first | exact Ins.here | apply Ins.there)) ?_)))
            · intro k0
              refine rg_q (.inl rfl) rfl rfl (by exact QW.qr (qw_move rfl)) ?_
              refine rg_s (guard_mk rfl rfl rfl rfl) rfl rfl ?_
              refine rg_s (guard_mk rfl rfl rfl rfl) rfl rfl ?_
              refine rg_q (.inl rfl) rfl rfl (by exact QW.qr (qw_pick_f rfl rfl)) ?_
              refine rg_q (.inl rfl) rfl rfl (by exact QW.qr (qw_assign rfl)) ?_
              refine rg_nil ?_
              refine qg_then ?_
              refine cg_false rfl ?_
              refine cg_seq ?_
              refine cg_region ?_
              refine rg_q (.inl rfl) rfl rfl (by exact QW.qr (qw_fieldAddr rfl)) ?_
              refine rg_q (.inl rfl) rfl rfl (by exact qr_load1 rfl (by repeat (first | exact List.Mem.head _ | apply List.Mem.tail | apply List.mem_append_right | assumption)) rfl) ?_
              refine rg_split (.inl rfl) rfl rfl (by exact qc_eql rfl rfl) ?_ ?_
              · intro k1
                refine rg_q (.inl rfl) rfl rfl (by exact QW.qr (qw_move rfl)) ?_
                refine rg_q (.inr (guard_mk rfl rfl rfl rfl)) rfl rfl (by exact QW.qr (qw_move rfl)) ?_
                refine rg_q (.inr (guard_mk rfl rfl rfl rfl)) rfl rfl (by exact QW.qr (qw_neq_ptr (e := 91) rfl rfl)) ?_
                refine rg_q (.inl rfl) rfl rfl (by exact QW.qr (qw_pick_t rfl rfl)) ?_
                refine rg_q (.inl rfl) rfl rfl (by exact QW.qr (qw_assign rfl)) ?_
                refine rg_nil ?_
                refine qg_then ?_
                refine cg_true rfl ?_
                obtain ⟨l2, s02, s12, e2, hres⟩ : ∃ l2 s02 s12 e2, act2 (fun l s => dropL l s op.name) l s0 s1 = (l2, s02, s12, e2) := ⟨_, _, _, _, rfl⟩
                obtain ⟨hm02, hm12⟩ := act2_room hres (fun s hs => dropL_room op.name hs) hm0 hm1
                have hok2 := act2_ok hres (fun s => dropL_ok op.name hok)
                refine cg_draw follows (.op 0 false (.op 1 false (.op 2 false (.op 4 false (.op 5 false (.op 6 false (.op 3 true (.op 7 false (.op 8 false (.op 9 false .done)))))))))) _ (by kernel_rfl) (SubP.of (List.singleton_sublist.2 (by repeat (first | exact List.Mem.head _ | apply List.Mem.tail | apply List.mem_append_right)))) ?_
                refine dg_w rfl rfl (.inl rfl) rfl rfl (by exact qw_move rfl) ?_
                refine dg_w rfl rfl (.inl rfl) rfl rfl (by exact qw_fieldAddr rfl) ?_
                refine dg_r rfl rfl rfl (.inl rfl) rfl rfl (by exact qr_load1 rfl (by repeat (first | exact List.Mem.head _ | apply List.Mem.tail | apply List.mem_append_right | assumption)) rfl) ?_
                refine dg_w rfl rfl (.inl rfl) rfl rfl (by exact qw_move rfl) ?_
                refine dg_w rfl rfl (.inl rfl) rfl rfl (by exact qw_fieldAddr rfl) ?_
                refine dg_r rfl rfl rfl (.inl rfl) rfl rfl (by exact qr_load1 rfl (by repeat (first | exact List.Mem.head _ | apply List.Mem.tail | apply List.mem_append_right | assumption)) rfl) ?_
                refine dg_e rfl rfl (.inl rfl) rfl rfl (by exact ev_call0 rfl (.cons rfl (.cons rfl (.nil))) ((drop3_ca bl c0 c1 O (cat [[(b10, _)], R, R0, R1, [(b3, .cells [PT c0, PT c1].toArray 48 (0, 0))], [(b4, .cells [PT w0, PT w1].toArray 54 (0, 0))]] L) hl h0 h1 hz0 hz1 op.name (fun hh => by omega) hres).pre (fun w h => h.perm (cat_perm (ls' := [K, K0, K1, [(b10, _)], R, R0, R1, [(b3, .cells [PT c0, PT c1].toArray 48 (0, 0))], [(b4, .cells [PT w0, PT w1].toArray 54 (0, 0))]]) (ls := [[(b10, _)], K, K0, K1, R, R0, R1, [(b3, .cells [PT c0, PT c1].toArray 48 (0, 0))], [(b4, .cells [PT w0, PT w1].toArray 54 (0, 0))]]) (by repeat (first | exact PermM.nil | refine PermM.cons (by repeat (first | exact Ins.here | apply Ins.there)) ?_)))))) ?_
                rintro _ _ ⟨rfl, K2, K02, K12, rfl, hl2, h02, h12⟩
                refine ⟨(SubP.of (List.singleton_sublist.2 (by repeat (first | exact List.Mem.head _ | apply List.Mem.tail | apply List.mem_append_right)))), ?_⟩
                refine dg_g rfl rfl (.inl rfl) rfl rfl (by exact ev_call0 rfl (.cons rfl (.cons rfl (.nil))) ((rdrop3_ca rl w0 w1 O (cat [K2, K02, K12, [(b10, _)], [(b3, .cells [PT c0, PT c1].toArray 48 (0, 0))], [(b4, .cells [PT w0, PT w1].toArray 54 (0, 0))]] L) hr g0 g1 hz0 hz1 hok.nd (by omega) op.name (by omega) hres).pre (fun w h => h.perm (cat_perm (ls' := [R, R0, R1, K2, K02, K12, [(b10, _)], [(b3, .cells [PT c0, PT c1].toArray 48 (0, 0))], [(b4, .cells [PT w0, PT w1].toArray 54 (0, 0))]]) (ls := [K2, K02, K12, [(b10, _)], R, R0, R1, [(b3, .cells [PT c0, PT c1].toArray 48 (0, 0))], [(b4, .cells [PT w0, PT w1].toArray 54 (0, 0))]]) (by repeat (first | exact PermM.nil | refine PermM.cons (by repeat (first | exact Ins.here | apply Ins.there)) ?_)))))) ?_
                rintro _ _ ⟨rfl, R2, R02, R12, rfl, hr2, g02, g12⟩
                refine dg_w rfl rfl (.inl rfl) rfl rfl (by exact qw_eql_t rfl rfl rfl) ?_
                refine dg_w rfl rfl (.inl rfl) rfl rfl (by exact qw_assign rfl) ?_
                refine dg_nil ?_
                refine qg_block ?_
                exact qg_cut_sp _ _ ⟨s02, s12, _, _, e, f, K2, K02, K12, R2, R02, R12, hm02, hm12, .inr ⟨l2, bl, rl, rfl, rfl, hl2, hr2, hok2.up (by omega)⟩, h02, h12, g02, g12, rfl, rfl⟩ (by repeat (first | exact Sub.nil | refine Sub.cons rfl ?_ | refine Sub.cons (congrArg (fun z => some (Value.int IntKind.i64 z)) (by omega)) ?_)) (cat_sub (ls' := [K2, K02, K12, R2, R02, R12, [(b3, _)], [(b4, _)]]) (ls := [R2, R02, R12, K2, K02, K12, [(b10, _)], [(b3, _)], [(b4, _)]]) (by repeat (first | exact SubM.nil | refine SubM.cons (by repeat (first | exact Ins.here | apply Ins.there)) ?_)))
              · intro k1
                refine rg_q (.inl rfl) rfl rfl (by exact QW.qr (qw_move rfl)) ?_
                refine rg_s (guard_mk rfl rfl rfl rfl) rfl rfl ?_
                refine rg_s (guard_mk rfl rfl rfl rfl) rfl rfl ?_
                refine rg_q (.inl rfl) rfl rfl (by exact QW.qr (qw_pick_f rfl rfl)) ?_
                refine rg_q (.inl rfl) rfl rfl (by exact QW.qr (qw_assign rfl)) ?_
                refine rg_nil ?_
                refine qg_then ?_
                refine cg_false rfl ?_
                refine cg_seq ?_
                refine cg_region ?_
                refine rg_q (.inl rfl) rfl rfl (by exact QW.qr (qw_fieldAddr rfl)) ?_
                refine rg_q (.inl rfl) rfl rfl (by exact qr_load1 rfl (by repeat (first | exact List.Mem.head _ | apply List.Mem.tail | apply List.mem_append_right | assumption)) rfl) ?_
                refine rg_split (.inl rfl) rfl rfl (by exact qc_eql rfl rfl) ?_ ?_
                · intro k2
                  refine rg_q (.inl rfl) rfl rfl (by exact QW.qr (qw_move rfl)) ?_
                  refine rg_q (.inr (guard_mk rfl rfl rfl rfl)) rfl rfl (by exact QW.qr (qw_move rfl)) ?_
                  refine rg_q (.inr (guard_mk rfl rfl rfl rfl)) rfl rfl (by exact QW.qr (qw_neq_ptr (e := 91) rfl rfl)) ?_
                  refine rg_q (.inl rfl) rfl rfl (by exact QW.qr (qw_pick_t rfl rfl)) ?_
                  refine rg_q (.inl rfl) rfl rfl (by exact QW.qr (qw_assign rfl)) ?_
                  refine rg_nil ?_
                  refine qg_then ?_
                  refine cg_true rfl ?_
                  obtain ⟨l2, s02, s12, e2, hres⟩ : ∃ l2 s02 s12 e2, act2 syncL l s0 s1 = (l2, s02, s12, e2) := ⟨_, _, _, _, rfl⟩
                  obtain ⟨hm02, hm12⟩ := act2_room hres (fun s hs => syncL_room hs) hm0 hm1
                  have hok2 := act2_ok hres (fun s => syncL_ok hok)
                  refine cg_region ?_
                  refine rg_q (.inl rfl) rfl rfl (by exact QW.qr (qw_move rfl)) ?_
                  refine rg_e (.inl rfl) rfl rfl (by exact ev_call0 rfl (.cons rfl (.nil)) ((sync3_ca bl c0 c1 O (cat [[(b10, _)], R, R0, R1, [(b3, .cells [PT c0, PT c1].toArray 48 (0, 0))], [(b4, .cells [PT w0, PT w1].toArray 54 (0, 0))]] L) hl h0 h1 hz0 hz1 hres).pre (fun w h => h.perm (cat_perm (ls' := [K, K0, K1, [(b10, _)], R, R0, R1, [(b3, .cells [PT c0, PT c1].toArray 48 (0, 0))], [(b4, .cells [PT w0, PT w1].toArray 54 (0, 0))]]) (ls := [[(b10, _)], K, K0, K1, R, R0, R1, [(b3, .cells [PT c0, PT c1].toArray 48 (0, 0))], [(b4, .cells [PT w0, PT w1].toArray 54 (0, 0))]]) (by repeat (first | exact PermM.nil | refine PermM.cons (by repeat (first | exact Ins.here | apply Ins.there)) ?_)))))) ?_
                  rintro _ _ ⟨rfl, K2, K02, K12, rfl, hl2, h02, h12⟩
                  refine rg_q (.inl rfl) rfl rfl (by exact QW.qr (qw_move rfl)) ?_
                  refine rg_e (.inl rfl) rfl rfl (by exact ev_call0 rfl (.cons rfl (.nil)) ((rsync3_ca rl w0 w1 O (cat [K2, K02, K12, [(b10, _)], [(b3, .cells [PT c0, PT c1].toArray 48 (0, 0))], [(b4, .cells [PT w0, PT w1].toArray 54 (0, 0))]] L) hr g0 g1 hz0 hz1 hok.nd (by omega) hres).pre (fun w h => h.perm (cat_perm (ls' := [R, R0, R1, K2, K02, K12, [(b10, _)], [(b3, .cells [PT c0, PT c1].toArray 48 (0, 0))], [(b4, .cells [PT w0, PT w1].toArray 54 (0, 0))]]) (ls := [K2, K02, K12, [(b10, _)], R, R0, R1, [(b3, .cells [PT c0, PT c1].toArray 48 (0, 0))], [(b4, .cells [PT w0, PT w1].toArray 54 (0, 0))]]) (by repeat (first | exact PermM.nil | refine PermM.cons (by repeat (first | exact Ins.here | apply Ins.there)) ?_)))))) ?_
                  rintro _ _ ⟨rfl, R2, R02, R12, rfl, hr2, g02, g12⟩
                  refine rg_q (.inl rfl) rfl rfl (by exact QW.qr (qw_eql_t rfl rfl rfl)) ?_
                  refine rg_q (.inl rfl) rfl rfl (by exact QW.qr (qw_assign rfl)) ?_
                  refine rg_nil ?_
                  refine qg_block ?_
                  exact qg_cut_sp _ _ ⟨s02, s12, _, _, e, f, K2, K02, K12, R2, R02, R12, hm02, hm12, .inr ⟨l2, bl, rl, rfl, rfl, hl2, hr2, hok2.up (by omega)⟩, h02, h12, g02, g12, rfl, rfl⟩ (by repeat (first | exact Sub.nil | refine Sub.cons rfl ?_ | refine Sub.cons (congrArg (fun z => some (Value.int IntKind.i64 z)) (by omega)) ?_)) (cat_sub (ls' := [K2, K02, K12, R2, R02, R12, [(b3, _)], [(b4, _)]]) (ls := [R2, R02, R12, K2, K02, K12, [(b10, _)], [(b3, _)], [(b4, _)]]) (by repeat (first | exact SubM.nil | refine SubM.cons (by repeat (first | exact Ins.here | apply Ins.there)) ?_)))
                · intro k2
                  refine rg_q (.inl rfl) rfl rfl (by exact QW.qr (qw_move rfl)) ?_
                  refine rg_s (guard_mk rfl rfl rfl rfl) rfl rfl ?_
                  refine rg_s (guard_mk rfl rfl rfl rfl) rfl rfl ?_
                  refine rg_q (.inl rfl) rfl rfl (by exact QW.qr (qw_pick_f rfl rfl)) ?_
                  refine rg_q (.inl rfl) rfl rfl (by exact QW.qr (qw_assign rfl)) ?_
                  refine rg_nil ?_
                  refine qg_then ?_
                  refine cg_false rfl ?_
                  refine cg_seq ?_
                  refine cg_region ?_
                  refine rg_q (.inl rfl) rfl rfl (by exact QW.qr (qw_fieldAddr rfl)) ?_
                  refine rg_q (.inl rfl) rfl rfl (by exact qr_load1 rfl (by repeat (first | exact List.Mem.head _ | apply List.Mem.tail | apply List.mem_append_right | assumption)) rfl) ?_
                  refine rg_split (.inl rfl) rfl rfl (by exact qc_eql rfl rfl) ?_ ?_
                  · intro k3
                    refine rg_q (.inl rfl) rfl rfl (by exact QW.qr (qw_move rfl)) ?_
                    refine rg_q (.inr (guard_mk rfl rfl rfl rfl)) rfl rfl (by exact QW.qr (qw_move rfl)) ?_
                    refine rg_q (.inr (guard_mk rfl rfl rfl rfl)) rfl rfl (by exact QW.qr (qw_neq_ptr (e := 91) rfl rfl)) ?_
                    refine rg_q (.inl rfl) rfl rfl (by exact QW.qr (qw_pick_t rfl rfl)) ?_
                    refine rg_q (.inl rfl) rfl rfl (by exact QW.qr (qw_assign rfl)) ?_
                    refine rg_nil ?_
                    refine qg_then ?_
                    refine cg_true rfl ?_
                    obtain ⟨l2, s02, s12, e2, hres⟩ : ∃ l2 s02 s12 e2, compact2 l s0 s1 = (l2, s02, s12, e2) := ⟨_, _, _, _, rfl⟩
                    have hrm := compact_room (l := l) hm0 hm1
                    rw [hres] at hrm
                    obtain ⟨hm02, hm12⟩ := hrm
                    have hok2 : LbOk l2 (262144 + 4400 * k) := by
                      have h2 : (compactL l (othS l s0 s1)).1 = l2 := congrArg Prod.fst hres
                      rw [← h2]
                      exact compactL_ok hok
                    refine cg_region ?_
                    refine rg_q (.inl rfl) rfl rfl (by exact QW.qr (qw_move rfl)) ?_
                    refine rg_e (.inl rfl) rfl rfl (by exact ev_call0 rfl (.cons rfl (.nil)) ((compactW_ca bl c0 c1 O (cat [[(b10, _)], R, R0, R1, [(b3, .cells [PT c0, PT c1].toArray 48 (0, 0))], [(b4, .cells [PT w0, PT w1].toArray 54 (0, 0))]] L) hl h0 h1 hz0 hz1 hok (by omega) hres).pre (fun w h => h.perm (cat_perm (ls' := [K, K0, K1, [(b10, _)], R, R0, R1, [(b3, .cells [PT c0, PT c1].toArray 48 (0, 0))], [(b4, .cells [PT w0, PT w1].toArray 54 (0, 0))]]) (ls := [[(b10, _)], K, K0, K1, R, R0, R1, [(b3, .cells [PT c0, PT c1].toArray 48 (0, 0))], [(b4, .cells [PT w0, PT w1].toArray 54 (0, 0))]]) (by repeat (first | exact PermM.nil | refine PermM.cons (by repeat (first | exact Ins.here | apply Ins.there)) ?_)))))) ?_
                    rintro _ _ ⟨rfl, K2, K02, K12, rfl, hl2, h02, h12⟩
                    refine rg_q (.inl rfl) rfl rfl (by exact QW.qr (qw_move rfl)) ?_
                    refine rg_e (.inl rfl) rfl rfl (by exact ev_call0 rfl (.cons rfl (.nil)) ((rcompact3_ca rl w0 w1 O (cat [K2, K02, K12, [(b10, _)], [(b3, .cells [PT c0, PT c1].toArray 48 (0, 0))], [(b4, .cells [PT w0, PT w1].toArray 54 (0, 0))]] L) hr g0 g1 hz0 hz1 (by omega) hok (by omega) hres).pre (fun w h => h.perm (cat_perm (ls' := [R, R0, R1, K2, K02, K12, [(b10, _)], [(b3, .cells [PT c0, PT c1].toArray 48 (0, 0))], [(b4, .cells [PT w0, PT w1].toArray 54 (0, 0))]]) (ls := [K2, K02, K12, [(b10, _)], R, R0, R1, [(b3, .cells [PT c0, PT c1].toArray 48 (0, 0))], [(b4, .cells [PT w0, PT w1].toArray 54 (0, 0))]]) (by repeat (first | exact PermM.nil | refine PermM.cons (by repeat (first | exact Ins.here | apply Ins.there)) ?_)))))) ?_
                    rintro _ _ ⟨rfl, R2, R02, R12, rfl, hr2, g02, g12⟩
                    refine rg_q (.inl rfl) rfl rfl (by exact QW.qr (qw_eql_t rfl rfl rfl)) ?_
                    refine rg_q (.inl rfl) rfl rfl (by exact QW.qr (qw_assign rfl)) ?_
                    refine rg_nil ?_
                    refine qg_block ?_
                    exact qg_cut_sp _ _ ⟨s02, s12, _, _, e, f, K2, K02, K12, R2, R02, R12, hm02, hm12, .inr ⟨l2, bl, rl, rfl, rfl, hl2, hr2, hok2.up (by omega)⟩, h02, h12, g02, g12, rfl, rfl⟩ (by repeat (first | exact Sub.nil | refine Sub.cons rfl ?_ | refine Sub.cons (congrArg (fun z => some (Value.int IntKind.i64 z)) (by omega)) ?_)) (cat_sub (ls' := [K2, K02, K12, R2, R02, R12, [(b3, _)], [(b4, _)]]) (ls := [R2, R02, R12, K2, K02, K12, [(b10, _)], [(b3, _)], [(b4, _)]]) (by repeat (first | exact SubM.nil | refine SubM.cons (by repeat (first | exact Ins.here | apply Ins.there)) ?_)))
                  · intro k3
                    refine rg_q (.inl rfl) rfl rfl (by exact QW.qr (qw_move rfl)) ?_
                    refine rg_s (guard_mk rfl rfl rfl rfl) rfl rfl ?_
                    refine rg_s (guard_mk rfl rfl rfl rfl) rfl rfl ?_
                    refine rg_q (.inl rfl) rfl rfl (by exact QW.qr (qw_pick_f rfl rfl)) ?_
                    refine rg_q (.inl rfl) rfl rfl (by exact QW.qr (qw_assign rfl)) ?_
                    refine rg_nil ?_
                    refine qg_then ?_
                    refine cg_false rfl ?_
                    refine cg_seq ?_
                    refine cg_region ?_
                    refine rg_q (.inl rfl) rfl rfl (by exact QW.qr (qw_fieldAddr rfl)) ?_
                    refine rg_q (.inl rfl) rfl rfl (by exact qr_load1 rfl (by repeat (first | exact List.Mem.head _ | apply List.Mem.tail | apply List.mem_append_right | assumption)) rfl) ?_
                    refine rg_split (.inl rfl) rfl rfl (by exact qc_eql rfl rfl) ?_ ?_
                    · intro k4
                      refine rg_q (.inl rfl) rfl rfl (by exact QW.qr (qw_assign rfl)) ?_
                      refine rg_nil ?_
                      refine qg_then ?_
                      refine cg_true rfl ?_
                      refine cg_draw follows (.op 0 false (.op 1 false (.op 2 false (.op 3 false (.op 4 false (.op 5 false (.op 6 false (.op 7 false (.op 8 false (.op 9 false .done)))))))))) _ (by kernel_rfl) (SubP.of (List.Sublist.refl _)) ?_
                      refine dg_w rfl rfl (.inl rfl) rfl rfl (by exact qw_move rfl) ?_
                      refine dg_w rfl rfl (.inl rfl) rfl rfl (by exact qw_indexAddr_arr rfl rfl (by omega) (by omega)) ?_
                      refine dg_r rfl rfl rfl (.inl rfl) rfl rfl (by exact qr_load1' rfl (mem_cat (ls := [[(b10, _)], K, K0, K1, R, R0, R1, [(b3, _)], [(b4, _)]]) (s := [(b3, _)]) (by repeat (first | exact List.Mem.head _ | apply List.Mem.tail)) (List.Mem.head _)) (arr2_get c0 c1 wj hwj2)) ?_
                      refine dg_w rfl rfl (.inl rfl) rfl rfl (by exact qw_move rfl) ?_
                      refine dg_w rfl rfl (.inl rfl) rfl rfl (by exact qw_indexAddr_arr rfl rfl (by omega) (by omega)) ?_
                      refine dg_r rfl rfl rfl (.inl rfl) rfl rfl (by exact qr_load1' rfl (mem_cat (ls := [[(b10, _)], K, K0, K1, R, R0, R1, [(b3, _)], [(b4, _)]]) (s := [(b4, _)]) (by repeat (first | exact List.Mem.head _ | apply List.Mem.tail)) (List.Mem.head _)) (arr2_get w0 w1 wj hwj2)) ?_
                      refine dg_w rfl rfl (.inl rfl) rfl rfl (by exact qw_fieldAddr rfl) ?_
                      refine dg_r rfl rfl rfl (.inl rfl) rfl rfl (by exact qr_load1 rfl (by repeat (first | exact List.Mem.head _ | apply List.Mem.tail | apply List.mem_append_right | assumption)) rfl) ?_
                      refine dg_w rfl rfl (.inl rfl) rfl rfl (by exact qw_build (.cons rfl (.cons rfl (.nil))) rfl (.cons rfl (by first | exact CellsOf.agg | exact CellsOf.one rfl) (by repeat (first | exact SetSeg.done | apply SetSeg.take | apply SetSeg.skip)) (by rfl) (by rfl) (.cons rfl (by first | exact CellsOf.agg | exact CellsOf.one rfl) (by repeat (first | exact SetSeg.done | apply SetSeg.take | apply SetSeg.skip)) (by rfl) (by rfl) (.nil)))) ?_
                      refine dg_g rfl rfl (.inl rfl) rfl rfl (by exact ev_call0 rfl (.cons rfl (.cons rfl (.cons rfl (.nil)))) ((doesK (args := fun b w => [PT b, PT w, .agg #[I 3, I op.n, I 0, .slice none 0 0]]) (fun s => fuseS s op.n) c0 c1 w0 w1 s0 s1 K0 K1 R0 R1 wj hwj2 O (cat [[(b10, _)], K, R, [(b3, .cells [PT c0, PT c1].toArray 48 (0, 0))], [(b4, .cells [PT w0, PT w1].toArray 54 (0, 0))]] L) h0 h1 g0 g1 (fun b w s K R F' a1 a2 _ hs => does3_ca b w s K R O F' op.n a1 a2 (by rcases hs with rfl | rfl <;> assumption))).pre (fun w h => h.perm (cat_perm (ls' := [K0, K1, R0, R1, [(b10, _)], K, R, [(b3, .cells [PT c0, PT c1].toArray 48 (0, 0))], [(b4, .cells [PT w0, PT w1].toArray 54 (0, 0))]]) (ls := [[(b10, _)], K, K0, K1, R, R0, R1, [(b3, .cells [PT c0, PT c1].toArray 48 (0, 0))], [(b4, .cells [PT w0, PT w1].toArray 54 (0, 0))]]) (by repeat (first | exact PermM.nil | refine PermM.cons (by repeat (first | exact Ins.here | apply Ins.there)) ?_)))))) ?_
                      rintro _ _ ⟨K02, K12, R02, R12, rfl, h02, h12, g02, g12⟩
                      obtain ⟨hm02, hm12⟩ := at_room (f := fun s => fuseS s op.n) (j := wj) (fun s hs => fuse_room _ hs) hm0 hm1
                      refine dg_nil ?_
                      refine qg_block ?_
                      exact qg_cut_sp _ _ ⟨_, _, _, _, e, f, K, K02, K12, R, R02, R12, hm02, hm12, hlo2.up (by omega), h02, h12, g02, g12, rfl, rfl⟩ (by repeat (first | exact Sub.nil | refine Sub.cons rfl ?_ | refine Sub.cons (congrArg (fun z => some (Value.int IntKind.i64 z)) (by omega)) ?_)) (cat_sub (ls' := [K, K02, K12, R, R02, R12, [(b3, _)], [(b4, _)]]) (ls := [K02, K12, R02, R12, [(b10, _)], K, R, [(b3, _)], [(b4, _)]]) (by repeat (first | exact SubM.nil | refine SubM.cons (by repeat (first | exact Ins.here | apply Ins.there)) ?_)))
                    · intro k4
                      refine rg_q (.inl rfl) rfl rfl (by exact QW.qr (qw_assign rfl)) ?_
                      refine rg_nil ?_
                      refine qg_then ?_
                      refine cg_false rfl ?_
                      refine cg_seq ?_
                      refine cg_region ?_
                      refine rg_q (.inl rfl) rfl rfl (by exact QW.qr (qw_fieldAddr rfl)) ?_
                      refine rg_q (.inl rfl) rfl rfl (by exact qr_load1 rfl (by repeat (first | exact List.Mem.head _ | apply List.Mem.tail | apply List.mem_append_right | assumption)) rfl) ?_
                      refine rg_split (.inl rfl) rfl rfl (by exact qc_eql rfl rfl) ?_ ?_
                      · intro k5
                        refine rg_q (.inl rfl) rfl rfl (by exact QW.qr (qw_assign rfl)) ?_
                        refine rg_nil ?_
                        refine qg_then ?_
                        refine cg_true rfl ?_
                        refine cg_seq ?_
                        refine cg_seq ?_
                        refine cg_region ?_
                        refine rg_q (.inl rfl) rfl rfl (by exact QW.qr (qw_move rfl)) ?_
                        refine rg_nil ?_
                        refine qg_then ?_
                        refine cg_block ?_
                        refine cg_loop (fun E' L' m => ∃ (j : Nat) (K0 K1 R0 R1 : List Blk), j ≤ 2 ∧ SlabAt c0 (cj0 op s0 j) K0 ∧ SlabAt c1 (cj1 op s1 j) K1 ∧ RSlabAt w0 (cj0 op s0 j) R0 ∧ RSlabAt w1 (cj1 op s1 j) R1 ∧ E' = [(3, PT b3), (4, PT b4), (5, PT bl), (6, I e), (7, PT rl), (8, I f), (43, .slice (some ⟨bo, oo, none⟩) ops.length co), (44, I ops.length), (45, I k), (10, PT b10), (12, .bool true), (144, I j)] ∧ L' = cat [K0, K1, R0, R1, [(b10, .cells (encOp op).toArray 33 (0, 0))], K, R, [(b3, .cells [PT c0, PT c1].toArray 48 (0, 0))], [(b4, .cells [PT w0, PT w1].toArray 54 (0, 0))]] L ∧ m = 2 - j)
                          _ _ _ ⟨0, K0, K1, R0, R1, by omega, h0, h1, g0, g1, rfl, rfl, rfl⟩ (by repeat (first | exact Sub.nil | refine Sub.cons rfl ?_ | refine Sub.cons (congrArg (fun z => some (Value.int IntKind.i64 z)) (by omega)) ?_)) (cat_perm (ls' := [K0, K1, R0, R1, [(b10, _)], K, R, [(b3, _)], [(b4, _)]]) (ls := [[(b10, _)], K, K0, K1, R, R0, R1, [(b3, _)], [(b4, _)]]) (by repeat (first | exact PermM.nil | refine PermM.cons (by repeat (first | exact Ins.here | apply Ins.there)) ?_))) ?_
                        clear h0 h1 g0 g1
                        clear K0 K1 R0 R1
                        rintro _ _ _ ⟨j, K0, K1, R0, R1, hj2, h0, h1, g0, g1, rfl, rfl, rfl⟩
                        have hcr := cj_room (op := op) hm0 hm1 j
                        refine cg_seq ?_
                        refine cg_region ?_
                        refine rg_split (.inl rfl) rfl rfl (by exact qc_lss rfl rfl) ?_ ?_
                        · intro hj
                          have hjl : j < 2 := by omega
                          refine rg_nil ?_
                          refine qg_then ?_
                          refine cg_seq ?_
                          refine cg_true rfl ?_
                          refine cg_skip ?_
                          refine qg_then ?_
                          refine cg_seq ?_
                          refine cg_block ?_
                          refine cg_seq ?_
                          refine cg_region ?_
                          refine rg_q (.inl rfl) rfl rfl (by exact QW.qr (qw_move rfl)) ?_
                          refine rg_q (.inl rfl) rfl rfl (by exact QW.qr (qw_assign rfl)) ?_
                          refine rg_nil ?_
                          refine qg_then ?_
                          refine cg_draw follows (.op 0 false (.op 1 false (.op 2 false (.op 3 false (.op 4 false (.op 5 false (.op 6 false (.op 7 false (.op 8 false (.op 9 false (.op 10 false (.op 11 false (.op 12 false (.op 13 false (.op 14 false (.op 15 false .done)))))))))))))))) _ (by kernel_rfl) (SubP.of (List.Sublist.refl _)) ?_
                          refine dg_w rfl rfl (.inl rfl) rfl rfl (by exact qw_move rfl) ?_
                          refine dg_w rfl rfl (.inl rfl) rfl rfl (by exact qw_indexAddr_arr rfl rfl (by omega) (by omega)) ?_
                          refine dg_r rfl rfl rfl (.inl rfl) rfl rfl (by exact qr_load1' rfl (mem_cat (ls := [K0, K1, R0, R1, [(b10, _)], K, R, [(b3, _)], [(b4, _)]]) (s := [(b3, _)]) (by repeat (first | exact List.Mem.head _ | apply List.Mem.tail)) (List.Mem.head _)) (arr2_get c0 c1 j hjl)) ?_
                          refine dg_w rfl rfl (.inl rfl) rfl rfl (by exact qw_move rfl) ?_
                          refine dg_w rfl rfl (.inl rfl) rfl rfl (by exact qw_indexAddr_arr rfl rfl (by omega) (by omega)) ?_
                          refine dg_r rfl rfl rfl (.inl rfl) rfl rfl (by exact qr_load1' rfl (mem_cat (ls := [K0, K1, R0, R1, [(b10, _)], K, R, [(b3, _)], [(b4, _)]]) (s := [(b4, _)]) (by repeat (first | exact List.Mem.head _ | apply List.Mem.tail)) (List.Mem.head _)) (arr2_get w0 w1 j hjl)) ?_
                          refine dg_w rfl rfl (.inl rfl) rfl rfl (by exact qw_move rfl) ?_
                          refine dg_w rfl rfl (.inl rfl) rfl rfl (by exact qw_fieldAddr rfl) ?_
                          refine dg_w rfl rfl (.inl rfl) rfl rfl (by exact qw_indexAddr_arr rfl rfl (by omega) (by omega)) ?_
                          refine dg_r rfl rfl rfl (.inl rfl) rfl rfl (by exact qr_load1' rfl (mem_cat (ls := [K0, K1, R0, R1, [(b10, _)], K, R, [(b3, _)], [(b4, _)]]) (s := [(b10, _)]) (by repeat (first | exact List.Mem.head _ | apply List.Mem.tail)) (List.Mem.head _)) (kq_get op j hjl)) ?_
                          refine dg_w rfl rfl (.inl rfl) rfl rfl (by exact qw_move rfl) ?_
                          refine dg_w rfl rfl (.inl rfl) rfl rfl (by exact qw_fieldAddr rfl) ?_
                          refine dg_w rfl rfl (.inl rfl) rfl rfl (by exact qw_indexAddr_arr rfl rfl (by omega) (by omega)) ?_
                          refine dg_r rfl rfl rfl (.inl rfl) rfl rfl (by exact qr_load1' rfl (mem_cat (ls := [K0, K1, R0, R1, [(b10, _)], K, R, [(b3, _)], [(b4, _)]]) (s := [(b10, _)]) (by repeat (first | exact List.Mem.head _ | apply List.Mem.tail)) (List.Mem.head _)) (zq_get op j hjl)) ?_
                          refine dg_w rfl rfl (.inl rfl) rfl rfl (by exact qw_build (.cons rfl (.cons rfl (.cons rfl (.nil)))) rfl (.cons rfl (by first | exact CellsOf.agg | exact CellsOf.one rfl) (by repeat (first | exact SetSeg.done | apply SetSeg.take | apply SetSeg.skip)) (by rfl) (by rfl) (.cons rfl (by first | exact CellsOf.agg | exact CellsOf.one rfl) (by repeat (first | exact SetSeg.done | apply SetSeg.take | apply SetSeg.skip)) (by rfl) (by rfl) (.cons rfl (by first | exact CellsOf.agg | exact CellsOf.one rfl) (by repeat (first | exact SetSeg.done | apply SetSeg.take | apply SetSeg.skip)) (by rfl) (by rfl) (.nil))))) ?_
                          refine dg_g rfl rfl (.inl rfl) rfl rfl (by exact ev_call0 rfl (.cons rfl (.cons rfl (.cons rfl (.nil)))) (doesK (args := fun b w => [PT b, PT w, .agg #[I 4, I (kq op j), I (zq op j), .slice none 0 0]]) (fun s => crashS s (kq op j) (zq op j)) c0 c1 w0 w1 _ _ K0 K1 R0 R1 j hjl O (cat [[(b10, _)], K, R, [(b3, .cells [PT c0, PT c1].toArray 48 (0, 0))], [(b4, .cells [PT w0, PT w1].toArray 54 (0, 0))]] L) h0 h1 g0 g1 (fun b w s K R F' a1 a2 _ hs => does4_ca b w s K R O F' _ _ a1 a2 (by rcases hs with rfl | rfl; exact Nat.le_trans hcr.1 (by decide); exact Nat.le_trans hcr.2 (by decide))))) ?_
                          rintro _ _ ⟨K02, K12, R02, R12, rfl, h02, h12, g02, g12⟩
                          obtain ⟨e1, e2⟩ := cj_step op s0 s1 j hjl
                          rw [e1] at h02 g02
                          rw [e2] at h12 g12
                          refine dg_nil ?_
                          refine qg_block ?_
                          refine qg_then ?_
                          refine cg_region ?_
                          refine rg_q (.inl rfl) rfl rfl (by exact QW.qr (qw_add_in rfl rfl (by unfold inK; omega))) ?_
                          refine rg_q (.inl rfl) rfl rfl (by exact QW.qr (qw_move rfl)) ?_
                          refine rg_nil ?_
                          exact qg_round_sp _ _ _ ⟨j + 1, K02, K12, R02, R12, by omega, h02, h12, g02, g12, rfl, rfl, rfl⟩ (by repeat (first | exact Sub.nil | refine Sub.cons rfl ?_ | refine Sub.cons (congrArg (fun z => some (Value.int IntKind.i64 z)) (by omega)) ?_)) (SubP.of (List.Sublist.refl _)) (by omega)
                        · intro hj
                          obtain rfl : j = 2 := by omega
                          generalize hq0 : cj0 op s0 2 = q0 at h0 g0 hcr
                          generalize hq1 : cj1 op s1 2 = q1 at h1 g1 hcr
                          have hy0 : sizeS q0 ≤ 300000 := Nat.le_trans hcr.1 (by decide)
                          have hy1 : sizeS q1 ≤ 300000 := Nat.le_trans hcr.2 (by decide)
                          refine rg_nil ?_
                          refine qg_then ?_
                          refine cg_seq ?_
                          refine cg_false rfl ?_
                          refine cg_exit ?_
                          refine qg_then_exit ?_
                          refine qg_then_exit ?_
                          refine qg_block_here ?_
                          refine qg_then ?_
                          refine cg_seq ?_
                          refine cg_region ?_
                          refine rg_q (.inl rfl) rfl rfl (by exact QW.qr (qw_indexAddr_arr rfl rfl (by decide) (by decide))) ?_
                          refine rg_q (.inl rfl) rfl rfl (by exact qr_load1 rfl (mem_cat (ls := [K0, K1, R0, R1, [(b10, _)], K, R, [(b3, _)], [(b4, _)]]) (s := [(b3, _)]) (by repeat (first | exact List.Mem.head _ | apply List.Mem.tail)) (List.Mem.head _)) rfl) ?_
                          refine rg_q (.inl rfl) rfl rfl (by exact QW.qr (qw_indexAddr_arr rfl rfl (by decide) (by decide))) ?_
                          refine rg_q (.inl rfl) rfl rfl (by exact qr_load1 rfl (mem_cat (ls := [K0, K1, R0, R1, [(b10, _)], K, R, [(b3, _)], [(b4, _)]]) (s := [(b3, _)]) (by repeat (first | exact List.Mem.head _ | apply List.Mem.tail)) (List.Mem.head _)) rfl) ?_
                          refine rg_e (.inl rfl) rfl rfl (by exact ev_call0 rfl (.cons rfl (.cons rfl (.nil))) (open_ca c0 c1 q0 q1 K0 K1 h0 h1 hy0 hy1 O (cat [R0, R1, [(b10, _)], K, R, [(b3, .cells [PT c0, PT c1].toArray 48 (0, 0))], [(b4, .cells [PT w0, PT w1].toArray 54 (0, 0))]] L))) ?_
                          rintro _ _ h
                          have hoo := open_ok hcr.1 hcr.2
                          generalize hr0 : openS q0 q1 = r at h hoo
                          obtain ⟨l2, s02, s12, e2⟩ := r
                          rcases h with ⟨he, rfl, K02, K12, rfl, h02, h12⟩ | ⟨he, bl2, K2, K02, K12, rfl, rfl, hl2, h02, h12⟩
                          · skip
                            replace he : e2 ≠ 0 := he
                            refine rg_q (.inl rfl) rfl rfl (by exact QW.qr (qw_move rfl)) ?_
                            refine rg_q (.inl rfl) rfl rfl (by exact QW.qr (qw_extract rfl rfl)) ?_
                            refine rg_q (.inl rfl) rfl rfl (by exact QW.qr (qw_extract rfl rfl)) ?_
                            refine rg_q (.inl rfl) rfl rfl (by exact QW.qr (qw_assign rfl)) ?_
                            refine rg_q (.inl rfl) rfl rfl (by exact QW.qr (qw_assign rfl)) ?_
                            refine rg_nil ?_
                            refine qg_then ?_
                            refine cg_seq ?_
                            refine cg_region ?_
                            refine rg_q (.inl rfl) rfl rfl (by exact QW.qr (qw_indexAddr_arr rfl rfl (by decide) (by decide))) ?_
                            refine rg_q (.inl rfl) rfl rfl (by exact qr_load1 rfl (mem_cat (ls := [K02, K12, R0, R1, [(b10, _)], K, R, [(b3, _)], [(b4, _)]]) (s := [(b4, _)]) (by repeat (first | exact List.Mem.head _ | apply List.Mem.tail)) (List.Mem.head _)) rfl) ?_
                            refine rg_q (.inl rfl) rfl rfl (by exact QW.qr (qw_indexAddr_arr rfl rfl (by decide) (by decide))) ?_
                            refine rg_q (.inl rfl) rfl rfl (by exact qr_load1 rfl (mem_cat (ls := [K02, K12, R0, R1, [(b10, _)], K, R, [(b3, _)], [(b4, _)]]) (s := [(b4, _)]) (by repeat (first | exact List.Mem.head _ | apply List.Mem.tail)) (List.Mem.head _)) rfl) ?_
                            refine rg_e (.inl rfl) rfl rfl (by exact ev_call0 rfl (.cons rfl (.cons rfl (.nil))) ((ropen_ca w0 w1 q0 q1 R0 R1 g0 g1 hy0 hy1 O (cat [K02, K12, [(b10, _)], K, R, [(b3, .cells [PT c0, PT c1].toArray 48 (0, 0))], [(b4, .cells [PT w0, PT w1].toArray 54 (0, 0))]] L)).pre (fun w h => h.perm (cat_perm (ls' := [R0, R1, K02, K12, [(b10, _)], K, R, [(b3, .cells [PT c0, PT c1].toArray 48 (0, 0))], [(b4, .cells [PT w0, PT w1].toArray 54 (0, 0))]]) (ls := [K02, K12, R0, R1, [(b10, _)], K, R, [(b3, .cells [PT c0, PT c1].toArray 48 (0, 0))], [(b4, .cells [PT w0, PT w1].toArray 54 (0, 0))]]) (by repeat (first | exact PermM.nil | refine PermM.cons (by repeat (first | exact Ins.here | apply Ins.there)) ?_)))))) ?_
                            rintro _ _ h
                            rw [hr0] at h
                            rcases h with ⟨_, rfl, R02, R12, rfl, g02, g12⟩ | ⟨he2, _⟩
                            rotate_left
                            · exact absurd he2 he
                            refine rg_q (.inl rfl) rfl rfl (by exact QW.qr (qw_move rfl)) ?_
                            refine rg_q (.inl rfl) rfl rfl (by exact QW.qr (qw_extract rfl rfl)) ?_
                            refine rg_q (.inl rfl) rfl rfl (by exact QW.qr (qw_extract rfl rfl)) ?_
                            refine rg_q (.inl rfl) rfl rfl (by exact QW.qr (qw_assign rfl)) ?_
                            refine rg_q (.inl rfl) rfl rfl (by exact QW.qr (qw_assign rfl)) ?_
                            refine rg_nil ?_
                            refine qg_then ?_
                            refine cg_region ?_
                            refine rg_q (.inl rfl) rfl rfl (by exact QW.qr (qw_move rfl)) ?_
                            refine rg_q (.inl rfl) rfl rfl (by exact QW.qr (qw_move rfl)) ?_
                            refine rg_q (.inl rfl) rfl rfl (by exact QW.qr (qw_eql_t rfl rfl rfl)) ?_
                            refine rg_q (.inl rfl) rfl rfl (by exact QW.qr (qw_move rfl)) ?_
                            refine rg_q (.inr (guard_mk rfl rfl rfl rfl)) rfl rfl (by exact QW.qr (qw_move rfl)) ?_
                            refine rg_q (.inr (guard_mk rfl rfl rfl rfl)) rfl rfl (by exact QW.qr (qw_eql_nil (e := 70) rfl rfl)) ?_
                            refine rg_q (.inr (guard_mk rfl rfl rfl rfl)) rfl rfl (by exact QW.qr (qw_move rfl)) ?_
                            refine rg_q (.inr (guard_mk rfl rfl rfl rfl)) rfl rfl (by exact QW.qr (qw_eql_nil (e := 91) rfl rfl)) ?_
                            refine rg_q (.inr (guard_mk rfl rfl rfl rfl)) rfl rfl (by exact QW.qr (qw_eql_bool rfl rfl)) ?_
                            refine rg_q (.inl rfl) rfl rfl (by exact QW.qr (qw_pick_t rfl rfl)) ?_
                            refine rg_q (.inl rfl) rfl rfl (by exact QW.qr (qw_assign rfl)) ?_
                            refine rg_nil ?_
                            refine qg_block ?_
                            exact qg_cut_sp _ _ ⟨s02, s12, _, _, e2, e2, [], K02, K12, [], R02, R12, hoo.2.1, hoo.2.2, .inl ⟨rfl, rfl, rfl, rfl⟩, h02, h12, g02, g12, rfl, rfl⟩ (by repeat (first | exact Sub.nil | refine Sub.cons rfl ?_ | refine Sub.cons (congrArg (fun z => some (Value.int IntKind.i64 z)) (by omega)) ?_)) (cat_sub (ls' := [K02, K12, R02, R12, [(b3, _)], [(b4, _)]]) (ls := [R02, R12, K02, K12, [(b10, _)], K, R, [(b3, _)], [(b4, _)]]) (by repeat (first | exact SubM.nil | refine SubM.cons (by repeat (first | exact Ins.here | apply Ins.there)) ?_)))
                          · skip
                            replace he : e2 = 0 := he
                            subst he
                            refine rg_q (.inl rfl) rfl rfl (by exact QW.qr (qw_move rfl)) ?_
                            refine rg_q (.inl rfl) rfl rfl (by exact QW.qr (qw_extract rfl rfl)) ?_
                            refine rg_q (.inl rfl) rfl rfl (by exact QW.qr (qw_extract rfl rfl)) ?_
                            refine rg_q (.inl rfl) rfl rfl (by exact QW.qr (qw_assign rfl)) ?_
                            refine rg_q (.inl rfl) rfl rfl (by exact QW.qr (qw_assign rfl)) ?_
                            refine rg_nil ?_
                            refine qg_then ?_
                            refine cg_seq ?_
                            refine cg_region ?_
                            refine rg_q (.inl rfl) rfl rfl (by exact QW.qr (qw_indexAddr_arr rfl rfl (by decide) (by decide))) ?_
                            refine rg_q (.inl rfl) rfl rfl (by exact qr_load1 rfl (mem_cat (ls := [K2, K02, K12, R0, R1, [(b10, _)], K, R, [(b3, _)], [(b4, _)]]) (s := [(b4, _)]) (by repeat (first | exact List.Mem.head _ | apply List.Mem.tail)) (List.Mem.head _)) rfl) ?_
                            refine rg_q (.inl rfl) rfl rfl (by exact QW.qr (qw_indexAddr_arr rfl rfl (by decide) (by decide))) ?_
                            refine rg_q (.inl rfl) rfl rfl (by exact qr_load1 rfl (mem_cat (ls := [K2, K02, K12, R0, R1, [(b10, _)], K, R, [(b3, _)], [(b4, _)]]) (s := [(b4, _)]) (by repeat (first | exact List.Mem.head _ | apply List.Mem.tail)) (List.Mem.head _)) rfl) ?_
                            refine rg_e (.inl rfl) rfl rfl (by exact ev_call0 rfl (.cons rfl (.cons rfl (.nil))) ((ropen_ca w0 w1 q0 q1 R0 R1 g0 g1 hy0 hy1 O (cat [K2, K02, K12, [(b10, _)], K, R, [(b3, .cells [PT c0, PT c1].toArray 48 (0, 0))], [(b4, .cells [PT w0, PT w1].toArray 54 (0, 0))]] L)).pre (fun w h => h.perm (cat_perm (ls' := [R0, R1, K2, K02, K12, [(b10, _)], K, R, [(b3, .cells [PT c0, PT c1].toArray 48 (0, 0))], [(b4, .cells [PT w0, PT w1].toArray 54 (0, 0))]]) (ls := [K2, K02, K12, R0, R1, [(b10, _)], K, R, [(b3, .cells [PT c0, PT c1].toArray 48 (0, 0))], [(b4, .cells [PT w0, PT w1].toArray 54 (0, 0))]]) (by repeat (first | exact PermM.nil | refine PermM.cons (by repeat (first | exact Ins.here | apply Ins.there)) ?_)))))) ?_
                            rintro _ _ h
                            rw [hr0] at h
                            rcases h with ⟨he2, _⟩ | ⟨_, rl2, R2, R02, R12, rfl, rfl, hr2, g02, g12⟩
                            · exact absurd rfl he2
                            refine rg_q (.inl rfl) rfl rfl (by exact QW.qr (qw_move rfl)) ?_
                            refine rg_q (.inl rfl) rfl rfl (by exact QW.qr (qw_extract rfl rfl)) ?_
                            refine rg_q (.inl rfl) rfl rfl (by exact QW.qr (qw_extract rfl rfl)) ?_
                            refine rg_q (.inl rfl) rfl rfl (by exact QW.qr (qw_assign rfl)) ?_
                            refine rg_q (.inl rfl) rfl rfl (by exact QW.qr (qw_assign rfl)) ?_
                            refine rg_nil ?_
                            refine qg_then ?_
                            refine cg_region ?_
                            refine rg_q (.inl rfl) rfl rfl (by exact QW.qr (qw_move rfl)) ?_
                            refine rg_q (.inl rfl) rfl rfl (by exact QW.qr (qw_move rfl)) ?_
                            refine rg_q (.inl rfl) rfl rfl (by exact QW.qr (qw_eql_t rfl rfl rfl)) ?_
                            refine rg_q (.inl rfl) rfl rfl (by exact QW.qr (qw_move rfl)) ?_
                            refine rg_q (.inr (guard_mk rfl rfl rfl rfl)) rfl rfl (by exact QW.qr (qw_move rfl)) ?_
                            refine rg_q (.inr (guard_mk rfl rfl rfl rfl)) rfl rfl (by exact QW.qr (qw_eql_ptr (e := 70) rfl rfl)) ?_
                            refine rg_q (.inr (guard_mk rfl rfl rfl rfl)) rfl rfl (by exact QW.qr (qw_move rfl)) ?_
                            refine rg_q (.inr (guard_mk rfl rfl rfl rfl)) rfl rfl (by exact QW.qr (qw_eql_ptr (e := 91) rfl rfl)) ?_
                            refine rg_q (.inr (guard_mk rfl rfl rfl rfl)) rfl rfl (by exact QW.qr (qw_eql_bool rfl rfl)) ?_
                            refine rg_q (.inl rfl) rfl rfl (by exact QW.qr (qw_pick_t rfl rfl)) ?_
                            refine rg_q (.inl rfl) rfl rfl (by exact QW.qr (qw_assign rfl)) ?_
                            refine rg_nil ?_
                            refine qg_block ?_
                            exact qg_cut_sp _ _ ⟨s02, s12, _, _, 0, 0, K2, K02, K12, R2, R02, R12, hoo.2.1, hoo.2.2, .inr ⟨l2, bl2, rl2, rfl, rfl, hl2, hr2, hoo.1.up (by omega)⟩, h02, h12, g02, g12, rfl, rfl⟩ (by repeat (first | exact Sub.nil | refine Sub.cons rfl ?_ | refine Sub.cons (congrArg (fun z => some (Value.int IntKind.i64 z)) (by omega)) ?_)) (cat_sub (ls' := [K2, K02, K12, R2, R02, R12, [(b3, _)], [(b4, _)]]) (ls := [R2, R02, R12, K2, K02, K12, [(b10, _)], K, R, [(b3, _)], [(b4, _)]]) (by repeat (first | exact SubM.nil | refine SubM.cons (by repeat (first | exact Ins.here | apply Ins.there)) ?_)))
                      · intro k5
                        refine rg_q (.inl rfl) rfl rfl (by exact QW.qr (qw_assign rfl)) ?_
                        refine rg_nil ?_
                        refine qg_then ?_
                        refine cg_false rfl ?_
                        refine cg_seq ?_
                        refine cg_region ?_
                        refine rg_q (.inl rfl) rfl rfl (by exact QW.qr (qw_fieldAddr rfl)) ?_
                        refine rg_q (.inl rfl) rfl rfl (by exact qr_load1 rfl (by repeat (first | exact List.Mem.head _ | apply List.Mem.tail | apply List.mem_append_right | assumption)) rfl) ?_
                        refine rg_split (.inl rfl) rfl rfl (by exact qc_eql rfl rfl) ?_ ?_
                        · intro k6
                          refine rg_q (.inl rfl) rfl rfl (by exact QW.qr (qw_assign rfl)) ?_
                          refine rg_nil ?_
                          refine qg_then ?_
                          refine cg_true rfl ?_
                          refine cg_draw follows (.op 0 false (.op 1 false (.op 2 false (.op 3 false (.op 4 false (.op 5 false (.op 6 false (.op 7 false (.eff 8 true (.op 9 false (.op 10 false .done))))))))))) _ (by kernel_rfl) (SubP.of (List.Sublist.refl _)) ?_
                          refine dg_w rfl rfl (.inl rfl) rfl rfl (by exact qw_move rfl) ?_
                          refine dg_w rfl rfl (.inl rfl) rfl rfl (by exact qw_indexAddr_arr rfl rfl (by omega) (by omega)) ?_
                          refine dg_r rfl rfl rfl (.inl rfl) rfl rfl (by exact qr_load1' rfl (mem_cat (ls := [[(b10, _)], K, K0, K1, R, R0, R1, [(b3, _)], [(b4, _)]]) (s := [(b3, _)]) (by repeat (first | exact List.Mem.head _ | apply List.Mem.tail)) (List.Mem.head _)) (arr2_get c0 c1 wj hwj2)) ?_
                          refine dg_w rfl rfl (.inl rfl) rfl rfl (by exact qw_move rfl) ?_
                          refine dg_w rfl rfl (.inl rfl) rfl rfl (by exact qw_indexAddr_arr rfl rfl (by omega) (by omega)) ?_
                          refine dg_r rfl rfl rfl (.inl rfl) rfl rfl (by exact qr_load1' rfl (mem_cat (ls := [[(b10, _)], K, K0, K1, R, R0, R1, [(b3, _)], [(b4, _)]]) (s := [(b4, _)]) (by repeat (first | exact List.Mem.head _ | apply List.Mem.tail)) (List.Mem.head _)) (arr2_get w0 w1 wj hwj2)) ?_
                          refine dg_w rfl rfl (.inl rfl) rfl rfl (by exact qw_fieldAddr rfl) ?_
                          refine dg_r rfl rfl rfl (.inl rfl) rfl rfl (by exact qr_load1 rfl (by repeat (first | exact List.Mem.head _ | apply List.Mem.tail | apply List.mem_append_right | assumption)) rfl) ?_
                          refine dgx_e rfl (.inl rfl) rfl rfl (by exact ev_strToBytes (s := ⟨op.value.toArray⟩) rfl) ?_
                          rintro vv _ ⟨Bv, hvv, rfl⟩
                          replace hvv : RdL Bv encB 1 vv op.value := hvv
                          obtain ⟨pvv, cvv, rfl, _⟩ := id hvv
                          refine ⟨(SubP.of (by repeat (first | exact List.Sublist.refl _ | exact List.nil_sublist _ | exact List.sublist_append_right _ _ | apply List.Sublist.cons_cons | apply List.Sublist.cons | refine List.Sublist.trans ?_ (List.sublist_append_right _ _)))), ?_⟩
                          refine dg_w rfl rfl (.inl rfl) rfl rfl (by exact qw_build (.cons rfl (.cons rfl (.nil))) rfl (.cons rfl (by first | exact CellsOf.agg | exact CellsOf.one rfl) (by repeat (first | exact SetSeg.done | apply SetSeg.take | apply SetSeg.skip)) (by rfl) (by rfl) (.cons rfl (by first | exact CellsOf.agg | exact CellsOf.one rfl) (by repeat (first | exact SetSeg.done | apply SetSeg.take | apply SetSeg.skip)) (by rfl) (by rfl) (.nil)))) ?_
                          refine dg_g rfl rfl (.inl rfl) rfl rfl (by exact ev_call0 rfl (.cons rfl (.cons rfl (.cons rfl (.nil)))) ((doesK (args := fun b w => [PT b, PT w, .agg #[I 0, I 0, I 0, .slice pvv op.value.length cvv]]) (fun s => (appendS s op.value).1) c0 c1 w0 w1 s0 s1 K0 K1 R0 R1 wj hwj2 O (cat [Bv, [(b10, _)], K, R, [(b3, .cells [PT c0, PT c1].toArray 48 (0, 0))], [(b4, .cells [PT w0, PT w1].toArray 54 (0, 0))]] L) h0 h1 g0 g1 (fun b w s K R F' a1 a2 hF hs => does0_ca b w s K R O F' op.value _ (hvv.mono (fun q hq => hF q (mem_cat (s := Bv) (by repeat (first | exact List.Mem.head _ | apply List.Mem.tail)) hq))) (by omega) a1 a2 (by rcases hs with rfl | rfl <;> assumption))).pre (fun w h => h.perm (cat_perm (ls' := [K0, K1, R0, R1, Bv, [(b10, _)], K, R, [(b3, .cells [PT c0, PT c1].toArray 48 (0, 0))], [(b4, .cells [PT w0, PT w1].toArray 54 (0, 0))]]) (ls := [Bv, [(b10, _)], K, K0, K1, R, R0, R1, [(b3, .cells [PT c0, PT c1].toArray 48 (0, 0))], [(b4, .cells [PT w0, PT w1].toArray 54 (0, 0))]]) (by repeat (first | exact PermM.nil | refine PermM.cons (by repeat (first | exact Ins.here | apply Ins.there)) ?_)))))) ?_
                          rintro _ _ ⟨K02, K12, R02, R12, rfl, h02, h12, g02, g12⟩
                          obtain ⟨hm02, hm12⟩ := at_room (f := fun s => (appendS s op.value).1) (j := wj) (fun s hs => append_room _ hs) hm0 hm1
                          refine dg_nil ?_
                          refine qg_block ?_
                          exact qg_cut_sp _ _ ⟨_, _, _, _, e, f, K, K02, K12, R, R02, R12, hm02, hm12, hlo2.up (by omega), h02, h12, g02, g12, rfl, rfl⟩ (by repeat (first | exact Sub.nil | refine Sub.cons rfl ?_ | refine Sub.cons (congrArg (fun z => some (Value.int IntKind.i64 z)) (by omega)) ?_)) (cat_sub (ls' := [K, K02, K12, R, R02, R12, [(b3, _)], [(b4, _)]]) (ls := [K02, K12, R02, R12, Bv, [(b10, _)], K, R, [(b3, _)], [(b4, _)]]) (by repeat (first | exact SubM.nil | refine SubM.cons (by repeat (first | exact Ins.here | apply Ins.there)) ?_)))
                        · intro k6
                          refine rg_q (.inl rfl) rfl rfl (by exact QW.qr (qw_assign rfl)) ?_
                          refine rg_nil ?_
                          refine qg_then ?_
                          refine cg_false rfl ?_
                          refine cg_skip ?_
                          refine qg_block ?_
                          exact qg_cut_sp _ _ ⟨s0, s1, _, _, e, f, K, K0, K1, R, R0, R1, hm0, hm1, hlo2.up (by omega), h0, h1, g0, g1, rfl, rfl⟩ (by repeat (first | exact Sub.nil | refine Sub.cons rfl ?_ | refine Sub.cons (congrArg (fun z => some (Value.int IntKind.i64 z)) (by omega)) ?_)) (cat_sub (ls' := [K, K0, K1, R, R0, R1, [(b3, _)], [(b4, _)]]) (ls := [[(b10, _)], K, K0, K1, R, R0, R1, [(b3, _)], [(b4, _)]]) (by repeat (first | exact SubM.nil | refine SubM.cons (by repeat (first | exact Ins.here | apply Ins.there)) ?_)))
        · clear h0 h1 g0 g1 hm0 hm1 hlo hz0 hz1 hop
          clear K K0 K1 R R0 R1 s0 s1 lv mv e f
          rintro _ _ ⟨s0, s1, lv, mv, e, f, K, K0, K1, R, R0, R1, hm0, hm1, hlo, h0, h1, g0, g1, rfl, rfl⟩
          have hz0 : sizeS s0 ≤ 300000 := Nat.le_trans hm0 (by decide)
          have hz1 : sizeS s1 ≤ 300000 := Nat.le_trans hm1 (by decide)
          refine cg_seq ?_
          have hlo2 := hlo
          rcases hlo with ⟨rfl, rfl, hK, hR⟩ | ⟨l, bl, rl, rfl, rfl, hl, hr, hok⟩
          · skip
            refine cg_region ?_
            refine rg_q (.inl rfl) rfl rfl (by exact QW.qr (qw_move rfl)) ?_
            refine rg_q (.inl rfl) rfl rfl (by exact QW.qr (qw_not rfl)) ?_
            refine rg_q (.inl rfl) rfl rfl (by exact QW.qr (qw_move rfl)) ?_
            refine rg_q (.inr (guard_mk rfl rfl rfl rfl)) rfl rfl (by exact QW.qr (qw_indexAddr_arr rfl rfl (by decide) (by decide))) ?_
            refine rg_q (.inr (guard_mk rfl rfl rfl rfl)) rfl rfl (by exact qr_load1 rfl (mem_cat (ls := [K, K0, K1, R, R0, R1, [(b3, _)], [(b4, _)]]) (s := [(b3, _)]) (by repeat (first | exact List.Mem.head _ | apply List.Mem.tail)) (List.Mem.head _)) rfl) ?_
            refine rg_q (.inr (guard_mk rfl rfl rfl rfl)) rfl rfl (by exact QW.qr (qw_indexAddr_arr rfl rfl (by decide) (by decide))) ?_
            refine rg_q (.inr (guard_mk rfl rfl rfl rfl)) rfl rfl (by exact qr_load1 rfl (mem_cat (ls := [K, K0, K1, R, R0, R1, [(b3, _)], [(b4, _)]]) (s := [(b4, _)]) (by repeat (first | exact List.Mem.head _ | apply List.Mem.tail)) (List.Mem.head _)) rfl) ?_
            refine rg_e (.inr (guard_mk rfl rfl rfl rfl)) rfl rfl (by exact ev_call0 rfl (.cons rfl (.cons rfl (.nil))) ((is_ca c0 w0 s0 K0 R0 O (cat [K, K1, R, R1, [(b3, .cells [PT c0, PT c1].toArray 48 (0, 0))], [(b4, .cells [PT w0, PT w1].toArray 54 (0, 0))]] L) h0 g0 hz0).pre (fun w h => h.perm (cat_perm (ls' := [K0, R0, K, K1, R, R1, [(b3, .cells [PT c0, PT c1].toArray 48 (0, 0))], [(b4, .cells [PT w0, PT w1].toArray 54 (0, 0))]]) (ls := [K, K0, K1, R, R0, R1, [(b3, .cells [PT c0, PT c1].toArray 48 (0, 0))], [(b4, .cells [PT w0, PT w1].toArray 54 (0, 0))]]) (by repeat (first | exact PermM.nil | refine PermM.cons (by repeat (first | exact Ins.here | apply Ins.there)) ?_)))))) ?_
            rintro _ _ ⟨rfl, rfl⟩
            · skip
              refine rg_q (.inr (guard_mk rfl rfl rfl rfl)) rfl rfl (by exact QW.qr (qw_not rfl)) ?_
              refine rg_q (.inl rfl) rfl rfl (by exact QW.qr (qw_pick_f rfl rfl)) ?_
              refine rg_q (.inl rfl) rfl rfl (by exact QW.qr (qw_move rfl)) ?_
              refine rg_q (.inr (guard_mk rfl rfl rfl rfl)) rfl rfl (by exact QW.qr (qw_indexAddr_arr rfl rfl (by decide) (by decide))) ?_
              refine rg_q (.inr (guard_mk rfl rfl rfl rfl)) rfl rfl (by exact qr_load1 rfl (mem_cat (ls := [K0, R0, K, K1, R, R1, [(b3, _)], [(b4, _)]]) (s := [(b3, _)]) (by repeat (first | exact List.Mem.head _ | apply List.Mem.tail)) (List.Mem.head _)) rfl) ?_
              refine rg_q (.inr (guard_mk rfl rfl rfl rfl)) rfl rfl (by exact QW.qr (qw_indexAddr_arr rfl rfl (by decide) (by decide))) ?_
              refine rg_q (.inr (guard_mk rfl rfl rfl rfl)) rfl rfl (by exact qr_load1 rfl (mem_cat (ls := [K0, R0, K, K1, R, R1, [(b3, _)], [(b4, _)]]) (s := [(b4, _)]) (by repeat (first | exact List.Mem.head _ | apply List.Mem.tail)) (List.Mem.head _)) rfl) ?_
              refine rg_e (.inr (guard_mk rfl rfl rfl rfl)) rfl rfl (by exact ev_call0 rfl (.cons rfl (.cons rfl (.nil))) ((is_ca c1 w1 s1 K1 R1 O (cat [K0, R0, K, R, [(b3, .cells [PT c0, PT c1].toArray 48 (0, 0))], [(b4, .cells [PT w0, PT w1].toArray 54 (0, 0))]] L) h1 g1 hz1).pre (fun w h => h.perm (cat_perm (ls' := [K1, R1, K0, R0, K, R, [(b3, .cells [PT c0, PT c1].toArray 48 (0, 0))], [(b4, .cells [PT w0, PT w1].toArray 54 (0, 0))]]) (ls := [K0, R0, K, K1, R, R1, [(b3, .cells [PT c0, PT c1].toArray 48 (0, 0))], [(b4, .cells [PT w0, PT w1].toArray 54 (0, 0))]]) (by repeat (first | exact PermM.nil | refine PermM.cons (by repeat (first | exact Ins.here | apply Ins.there)) ?_)))))) ?_
              rintro _ _ ⟨rfl, rfl⟩
              · skip
                refine rg_q (.inr (guard_mk rfl rfl rfl rfl)) rfl rfl (by exact QW.qr (qw_not rfl)) ?_
                refine rg_q (.inl rfl) rfl rfl (by exact QW.qr (qw_pick_f rfl rfl)) ?_
                refine rg_q (.inl rfl) rfl rfl (by exact QW.qr (qw_move rfl)) ?_
                refine rg_q (.inr (guard_mk rfl rfl rfl rfl)) rfl rfl (by exact QW.qr (qw_move rfl)) ?_
                refine rg_q (.inr (guard_mk rfl rfl rfl rfl)) rfl rfl (by exact QW.qr (qw_neq_nil (e := 91) rfl rfl)) ?_
                refine rg_q (.inr (guard_mk rfl rfl rfl rfl)) rfl rfl (by exact QW.qr (qw_move rfl)) ?_
                refine rg_s (guard_mk rfl rfl rfl rfl) rfl rfl ?_
                refine rg_s (guard_mk rfl rfl rfl rfl) rfl rfl ?_
                refine rg_s (guard_mk rfl rfl rfl rfl) rfl rfl ?_
                refine rg_s (guard_mk rfl rfl rfl rfl) rfl rfl ?_
                refine rg_q (.inr (guard_mk rfl rfl rfl rfl)) rfl rfl (by exact QW.qr (qw_pick_f rfl rfl)) ?_
                refine rg_q (.inl rfl) rfl rfl (by exact QW.qr (qw_pick_f rfl rfl)) ?_
                refine rg_nil ?_
                refine qg_then ?_
                refine cg_false rfl ?_
                refine cg_skip ?_
                refine qg_block ?_
                refine qg_then ?_
                refine cg_region ?_
                refine rg_q (.inl rfl) rfl rfl (by exact QW.qr (qw_add_in rfl rfl (by unfold inK; omega))) ?_
                refine rg_q (.inl rfl) rfl rfl (by exact QW.qr (qw_move rfl)) ?_
                refine rg_nil ?_
                exact qg_round_sp _ _ _ ⟨k + 1, s0, s1, _, _, e, f, K, K0, K1, R, R0, R1, by omega, by omega, hm0, hm1, hlo2, h0, h1, g0, g1, rfl, rfl, rfl⟩ (by repeat (first | exact Sub.nil | refine Sub.cons rfl ?_ | refine Sub.cons (congrArg (fun z => some (Value.int IntKind.i64 z)) (by omega)) ?_)) (cat_sub (ls' := [K, K0, K1, R, R0, R1, [(b3, _)], [(b4, _)]]) (ls := [K1, R1, K0, R0, K, R, [(b3, _)], [(b4, _)]]) (by repeat (first | exact SubM.nil | refine SubM.cons (by repeat (first | exact Ins.here | apply Ins.there)) ?_))) (by omega)
          · skip
            have hcnt := weigh_count7 l.has
            have hwt := hok.weight
            refine cg_region ?_
            refine rg_q (.inl rfl) rfl rfl (by exact QW.qr (qw_move rfl)) ?_
            refine rg_q (.inl rfl) rfl rfl (by exact QW.qr (qw_not rfl)) ?_
            refine rg_q (.inl rfl) rfl rfl (by exact QW.qr (qw_move rfl)) ?_
            refine rg_q (.inr (guard_mk rfl rfl rfl rfl)) rfl rfl (by exact QW.qr (qw_indexAddr_arr rfl rfl (by decide) (by decide))) ?_
            refine rg_q (.inr (guard_mk rfl rfl rfl rfl)) rfl rfl (by exact qr_load1 rfl (mem_cat (ls := [K, K0, K1, R, R0, R1, [(b3, _)], [(b4, _)]]) (s := [(b3, _)]) (by repeat (first | exact List.Mem.head _ | apply List.Mem.tail)) (List.Mem.head _)) rfl) ?_
            refine rg_q (.inr (guard_mk rfl rfl rfl rfl)) rfl rfl (by exact QW.qr (qw_indexAddr_arr rfl rfl (by decide) (by decide))) ?_
            refine rg_q (.inr (guard_mk rfl rfl rfl rfl)) rfl rfl (by exact qr_load1 rfl (mem_cat (ls := [K, K0, K1, R, R0, R1, [(b3, _)], [(b4, _)]]) (s := [(b4, _)]) (by repeat (first | exact List.Mem.head _ | apply List.Mem.tail)) (List.Mem.head _)) rfl) ?_
            refine rg_e (.inr (guard_mk rfl rfl rfl rfl)) rfl rfl (by exact ev_call0 rfl (.cons rfl (.cons rfl (.nil))) ((is_ca c0 w0 s0 K0 R0 O (cat [K, K1, R, R1, [(b3, .cells [PT c0, PT c1].toArray 48 (0, 0))], [(b4, .cells [PT w0, PT w1].toArray 54 (0, 0))]] L) h0 g0 hz0).pre (fun w h => h.perm (cat_perm (ls' := [K0, R0, K, K1, R, R1, [(b3, .cells [PT c0, PT c1].toArray 48 (0, 0))], [(b4, .cells [PT w0, PT w1].toArray 54 (0, 0))]]) (ls := [K, K0, K1, R, R0, R1, [(b3, .cells [PT c0, PT c1].toArray 48 (0, 0))], [(b4, .cells [PT w0, PT w1].toArray 54 (0, 0))]]) (by repeat (first | exact PermM.nil | refine PermM.cons (by repeat (first | exact Ins.here | apply Ins.there)) ?_)))))) ?_
            rintro _ _ ⟨rfl, rfl⟩
            · skip
              refine rg_q (.inr (guard_mk rfl rfl rfl rfl)) rfl rfl (by exact QW.qr (qw_not rfl)) ?_
              refine rg_q (.inl rfl) rfl rfl (by exact QW.qr (qw_pick_f rfl rfl)) ?_
              refine rg_q (.inl rfl) rfl rfl (by exact QW.qr (qw_move rfl)) ?_
              refine rg_q (.inr (guard_mk rfl rfl rfl rfl)) rfl rfl (by exact QW.qr (qw_indexAddr_arr rfl rfl (by decide) (by decide))) ?_
              refine rg_q (.inr (guard_mk rfl rfl rfl rfl)) rfl rfl (by exact qr_load1 rfl (mem_cat (ls := [K0, R0, K, K1, R, R1, [(b3, _)], [(b4, _)]]) (s := [(b3, _)]) (by repeat (first | exact List.Mem.head _ | apply List.Mem.tail)) (List.Mem.head _)) rfl) ?_
              refine rg_q (.inr (guard_mk rfl rfl rfl rfl)) rfl rfl (by exact QW.qr (qw_indexAddr_arr rfl rfl (by decide) (by decide))) ?_
              refine rg_q (.inr (guard_mk rfl rfl rfl rfl)) rfl rfl (by exact qr_load1 rfl (mem_cat (ls := [K0, R0, K, K1, R, R1, [(b3, _)], [(b4, _)]]) (s := [(b4, _)]) (by repeat (first | exact List.Mem.head _ | apply List.Mem.tail)) (List.Mem.head _)) rfl) ?_
              refine rg_e (.inr (guard_mk rfl rfl rfl rfl)) rfl rfl (by exact ev_call0 rfl (.cons rfl (.cons rfl (.nil))) ((is_ca c1 w1 s1 K1 R1 O (cat [K0, R0, K, R, [(b3, .cells [PT c0, PT c1].toArray 48 (0, 0))], [(b4, .cells [PT w0, PT w1].toArray 54 (0, 0))]] L) h1 g1 hz1).pre (fun w h => h.perm (cat_perm (ls' := [K1, R1, K0, R0, K, R, [(b3, .cells [PT c0, PT c1].toArray 48 (0, 0))], [(b4, .cells [PT w0, PT w1].toArray 54 (0, 0))]]) (ls := [K0, R0, K, K1, R, R1, [(b3, .cells [PT c0, PT c1].toArray 48 (0, 0))], [(b4, .cells [PT w0, PT w1].toArray 54 (0, 0))]]) (by repeat (first | exact PermM.nil | refine PermM.cons (by repeat (first | exact Ins.here | apply Ins.there)) ?_)))))) ?_
              rintro _ _ ⟨rfl, rfl⟩
              · skip
                refine rg_q (.inr (guard_mk rfl rfl rfl rfl)) rfl rfl (by exact QW.qr (qw_not rfl)) ?_
                refine rg_q (.inl rfl) rfl rfl (by exact QW.qr (qw_pick_f rfl rfl)) ?_
                refine rg_q (.inl rfl) rfl rfl (by exact QW.qr (qw_move rfl)) ?_
                refine rg_q (.inr (guard_mk rfl rfl rfl rfl)) rfl rfl (by exact QW.qr (qw_move rfl)) ?_
                refine rg_q (.inr (guard_mk rfl rfl rfl rfl)) rfl rfl (by exact QW.qr (qw_neq_ptr (e := 91) rfl rfl)) ?_
                refine rg_q (.inr (guard_mk rfl rfl rfl rfl)) rfl rfl (by exact QW.qr (qw_move rfl)) ?_
                refine rg_q (.inr (guard_mk rfl rfl rfl rfl)) rfl rfl (by exact QW.qr (qw_move rfl)) ?_
                refine rg_q (.inr (guard_mk rfl rfl rfl rfl)) rfl rfl (by exact QW.qr (qw_move rfl)) ?_
                refine rg_e (.inr (guard_mk rfl rfl rfl rfl)) rfl rfl (by exact ev_call0 rfl (.cons rfl (.cons rfl (.nil))) ((same_ca bl rl c0 c1 w0 w1 l K R _ O (cat [K1, R1, K0, R0, [(b3, .cells [PT c0, PT c1].toArray 48 (0, 0))], [(b4, .cells [PT w0, PT w1].toArray 54 (0, 0))]] L) hl hr hok (by omega)).pre (fun w h => h.perm (cat_perm (ls' := [K, R, K1, R1, K0, R0, [(b3, .cells [PT c0, PT c1].toArray 48 (0, 0))], [(b4, .cells [PT w0, PT w1].toArray 54 (0, 0))]]) (ls := [K1, R1, K0, R0, K, R, [(b3, .cells [PT c0, PT c1].toArray 48 (0, 0))], [(b4, .cells [PT w0, PT w1].toArray 54 (0, 0))]]) (by repeat (first | exact PermM.nil | refine PermM.cons (by repeat (first | exact Ins.here | apply Ins.there)) ?_)))))) ?_
                rintro _ _ ⟨rfl, rfl⟩
                · skip
                  refine rg_q (.inr (guard_mk rfl rfl rfl rfl)) rfl rfl (by exact QW.qr (qw_not rfl)) ?_
                  refine rg_q (.inr (guard_mk rfl rfl rfl rfl)) rfl rfl (by exact QW.qr (qw_pick_t rfl rfl)) ?_
                  refine rg_q (.inl rfl) rfl rfl (by exact QW.qr (qw_pick_f rfl rfl)) ?_
                  refine rg_nil ?_
                  refine qg_then ?_
                  refine cg_false rfl ?_
                  refine cg_skip ?_
                  refine qg_block ?_
                  refine qg_then ?_
                  refine cg_region ?_
                  refine rg_q (.inl rfl) rfl rfl (by exact QW.qr (qw_add_in rfl rfl (by unfold inK; omega))) ?_
                  refine rg_q (.inl rfl) rfl rfl (by exact QW.qr (qw_move rfl)) ?_
                  refine rg_nil ?_
                  exact qg_round_sp _ _ _ ⟨k + 1, s0, s1, _, _, e, f, K, K0, K1, R, R0, R1, by omega, by omega, hm0, hm1, hlo2, h0, h1, g0, g1, rfl, rfl, rfl⟩ (by repeat (first | exact Sub.nil | refine Sub.cons rfl ?_ | refine Sub.cons (congrArg (fun z => some (Value.int IntKind.i64 z)) (by omega)) ?_)) (cat_sub (ls' := [K, K0, K1, R, R0, R1, [(b3, _)], [(b4, _)]]) (ls := [K, R, K1, R1, K0, R0, [(b3, _)], [(b4, _)]]) (by repeat (first | exact SubM.nil | refine SubM.cons (by repeat (first | exact Ins.here | apply Ins.there)) ?_))) (by omega)
      · skip
        rw [decide_eq_false hfit]
        refine rg_q (.inr (guard_mk rfl rfl rfl rfl)) rfl rfl (by exact QW.qr (qw_not rfl)) ?_
        refine rg_q (.inl rfl) rfl rfl (by exact QW.qr (qw_pick_f rfl rfl)) ?_
        refine rg_nil ?_
        refine qg_then ?_
        refine cg_true rfl ?_
        refine cg_exit ?_
        refine qg_then_exit ?_
        refine qg_block_on rfl ?_
        refine qg_then_exit ?_
        refine qg_then_exit ?_
        refine qg_block_here ?_
        refine qg_then ?_
        refine cg_seq ?_
        refine cg_region ?_
        refine rg_e (.inl rfl) rfl rfl (by exact ev_call0 rfl (.nil) (awake_ca O _)) ?_
        rintro _ _ ⟨rfl, rfl⟩
        refine rg_q (.inl rfl) rfl rfl (by exact QW.qr (qw_assign rfl)) ?_
        refine rg_nil ?_
        refine qg_then ?_
        refine cg_ret ?_
        exact qg_end_sp (.inl rfl) _ (.cons (.tmp rfl) (.nil)) _ (cat_sub (ls' := []) (ls := [[(b10, _)], K, K0, K1, R, R0, R1, [(b3, _)], [(b4, _)]]) (by repeat (first | exact SubM.nil | refine SubM.cons (by repeat (first | exact Ins.here | apply Ins.there)) ?_))) ⟨rfl, rfl⟩
  · intro hlt
    refine rg_nil ?_
    refine qg_then ?_
    refine cg_seq ?_
    refine cg_false rfl ?_
    refine cg_exit ?_
    refine qg_then_exit ?_
    refine qg_then_exit ?_
    refine qg_block_here ?_
    refine qg_then ?_
    refine cg_seq ?_
    refine cg_region ?_
    refine rg_e (.inl rfl) rfl rfl (by exact ev_call0 rfl (.nil) (awake_ca O _)) ?_
    rintro _ _ ⟨rfl, rfl⟩
    refine rg_q (.inl rfl) rfl rfl (by exact QW.qr (qw_assign rfl)) ?_
    refine rg_nil ?_
    refine qg_then ?_
    refine cg_ret ?_
    exact qg_end_sp (.inl rfl) _ (.cons (.tmp rfl) (.nil)) _ (cat_sub (ls' := []) (ls := [K, K0, K1, R, R0, R1, [(b3, _)], [(b4, _)]]) (by repeat (first | exact SubM.nil | refine SubM.cons (by repeat (first | exact Ins.here | apply Ins.there)) ?_))) ⟨rfl, rfl⟩

end Go.Proofs.Ytcbbogaanebefaa