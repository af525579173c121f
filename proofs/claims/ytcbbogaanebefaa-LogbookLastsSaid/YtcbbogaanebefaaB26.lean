/-
  THE WALK of the law LogbookLasts. Condition: none.
-/
import Derived.Test.YtcbbogaanebefaaB25
namespace Go.Proofs.Ytcbbogaanebefaa
open Fw
open Go.Proofs (encStr)
set_option linter.unusedVariables false
set_option linter.unusedSimpArgs false
set_option maxRecDepth 100000
set_option maxHeartbeats 2000000

theorem own1 (b : Nat) (x : Bytes) : OwnL 9 encN 1 (.slice (some ⟨b, 0, none⟩) 1 1) [x] [(b, .cells [encStr x].toArray 9 (0, 0))] :=
  OwnL.of (enc := encN) (k := 1) (xs := [x]) (rest := []) (fun _ => rfl) rfl (Nat.le_refl 1)
theorem encN1 : ∀ (x : Bytes), ∀ v ∈ encN x, v.oneCell' = true := by
  intro x v hv
  simp only [encN, List.mem_cons, List.not_mem_nil, or_false] at hv
  subst hv; rfl
theorem Lst.sz {n : Nat} {l : Lb} {s0 s1 : Slab} {hs : List Kept} (h : Lst n l s0 s1 hs) (hn : n ≤ 51) : l.has.length ≤ 1000000 ∧ (∀ t ∈ l.has, t.1.length ≤ 1000000 ∧ t.2.length ≤ 1000000) ∧ sizeS s0 ≤ 300000 ∧ sizeS s1 ≤ 300000 ∧ LbOk l 300000 := by
  have h1 := weigh_count l.has
  have h2 := h.cg.weight
  have h3 := h.life1
  have h4 := h.life2
  have h5 := h.z0
  have h6 := h.z1
  exact ⟨by omega, fun t ht => by
    have := h.cg.ok t.1 t.2 ((getG_some h.cg.nd).2 ht)
    omega, by omega, by omega, LbOk.of h.at_ (by omega) (by omega) h.cg.nd h.cg.ok (by omega)⟩
theorem shot3_ca (bl b0 b1 : Nat) {n : Nat} {l : Lb} {s0 s1 : Slab} {hs : List Kept} {K : List Blk} (O : Out) (F : List Blk) (h : Lst n l s0 s1 hs) (hn : n ≤ 51) (hl : LbIn bl b0 b1 l K) :
    CA Try.prog 19 [PT bl] O (cat [K] F) fun v L' => v = encStr (shotF l.has) ∧ L' = cat [K] F :=
  shot_ca bl b0 b1 l K O F hl h.cg.nd (h.sz hn).1 (h.sz hn).2.1
def fz0 (j : Nat) (s : Slab) (n : Int) : Slab := if j = 0 then fuseS s n else s
def fz1 (j : Nat) (s : Slab) (n : Int) : Slab := if j = 0 then s else fuseS s n
theorem fz_bytes (j : Nat) (s : Slab) (n : Int) : ((fz0 j s n).sure = s.sure ∧ (fz0 j s n).loose = s.loose) ∧ ((fz1 j s n).sure = s.sure ∧ (fz1 j s n).loose = s.loose) := by
  have h := fuseS_bytes s n
  unfold fz0 fz1
  split
  · exact ⟨h, rfl, rfl⟩
  · exact ⟨⟨rfl, rfl⟩, h⟩
theorem fuseK_ca (b0 b1 : Nat) (s0 s1 : Slab) (K0 K1 : List Blk) (j : Nat) (hj : j < 2) (n : Int) (O : Out) (F : List Blk) (h0 : SlabAt b0 s0 K0) (h1 : SlabAt b1 s1 K1) :
    CA Try.prog 20 [PT (bK b0 b1 j), I n] O (cat [K0, K1] F) fun v L' => ∃ e K02 K12, v = I e ∧ L' = cat [K02, K12] F ∧ SlabAt b0 (fz0 j s0 n) K02 ∧ SlabAt b1 (fz1 j s1 n) K12 := by
  have h01 : j = 0 ∨ j = 1 := by omega
  rcases h01 with rfl | rfl
  · exact (fuse_ca b0 s0 K0 n O (cat [K1] F) h0).mono fun v L' ⟨e, K2, h2, h3, h4⟩ => ⟨e, K2, K1, h2, h3, h4, h1⟩
  · refine ((fuse_ca b1 s1 K1 n O (cat [K0] F) h1).pre (fun w h => h.perm (cat_perm (ls' := [K1, K0]) (ls := [K0, K1]) (by repeat (first | exact PermM.nil | refine PermM.cons (by repeat (first | exact Ins.here | apply Ins.there)) ?_))))).post fun v L' ⟨e, K2, h2, h3, h4⟩ => ?_
    subst h3
    exact ⟨cat [K0, K2] F, ⟨e, K0, K2, h2, rfl, h0, h4⟩, cat_sub (ls' := [K0, K2]) (ls := [K2, K0]) (by repeat (first | exact SubM.nil | refine SubM.cons (by repeat (first | exact Ins.here | apply Ins.there)) ?_))⟩
def cr0 (op : OpT) (s : Slab) (j : Nat) : Slab := if 0 < j then crashS s op.k0 op.z0 else s
def cr1 (op : OpT) (s : Slab) (j : Nat) : Slab := if 1 < j then crashS s op.k1 op.z1 else s
def kJ (op : OpT) (j : Nat) : Int := if j = 0 then op.k0 else op.k1
def zJ (op : OpT) (j : Nat) : Int := if j = 0 then op.z0 else op.z1
theorem crashK_ca (b0 b1 : Nat) (op : OpT) (s0 s1 : Slab) (K0 K1 : List Blk) (j : Nat) (hj : j < 2) (O : Out) (F : List Blk) (h0 : SlabAt b0 (cr0 op s0 j) K0) (h1 : SlabAt b1 (cr1 op s1 j) K1) (hz0 : sizeS s0 ≤ 300000) (hz1 : sizeS s1 ≤ 300000) :
    CA Try.prog 21 [PT (bK b0 b1 j), I (kJ op j), I (zJ op j)] O (cat [K0, K1] F) fun v L' => v = I 0 ∧ ∃ K02 K12, L' = cat [K02, K12] F ∧ SlabAt b0 (cr0 op s0 (j + 1)) K02 ∧ SlabAt b1 (cr1 op s1 (j + 1)) K12 := by
  unfold sizeS at hz0 hz1
  have h01 : j = 0 ∨ j = 1 := by omega
  rcases h01 with rfl | rfl
  · exact (crash_ca b0 s0 K0 op.k0 op.z0 O (cat [K1] F) h0 (by omega)).mono fun v L' ⟨h2, K2, h3, h4⟩ => ⟨h2, K2, K1, h3, h4, h1⟩
  · refine ((crash_ca b1 s1 K1 op.k1 op.z1 O (cat [K0] F) h1 (by omega)).pre (fun w h => h.perm (cat_perm (ls' := [K1, K0]) (ls := [K0, K1]) (by repeat (first | exact PermM.nil | refine PermM.cons (by repeat (first | exact Ins.here | apply Ins.there)) ?_))))).post fun v L' ⟨h2, K2, h3, h4⟩ => ?_
    subst h3
    exact ⟨cat [K0, K2] F, ⟨h2, K0, K2, rfl, h0, h4⟩, cat_sub (ls' := [K0, K2]) (ls := [K2, K0]) (by repeat (first | exact SubM.nil | refine SubM.cons (by repeat (first | exact Ins.here | apply Ins.there)) ?_))⟩
theorem arr_get (b0 b1 j : Nat) (hj : j < 2) : [PT b0, PT b1].toArray[0 + (j : Int).toNat * 1]? = some (PT (bK b0 b1 j)) := by
  have h01 : j = 0 ∨ j = 1 := by omega
  rcases h01 with rfl | rfl <;> rfl
theorem keep_get (op : OpT) (j : Nat) (hj : j < 2) : (encOp op).toArray[0 + 5 + (j : Int).toNat * 1]? = some (I (kJ op j)) := by
  have h01 : j = 0 ∨ j = 1 := by omega
  rcases h01 with rfl | rfl <;> rfl
theorem zeros_get (op : OpT) (j : Nat) (hj : j < 2) : (encOp op).toArray[0 + 7 + (j : Int).toNat * 1]? = some (I (zJ op j)) := by
  have h01 : j = 0 ∨ j = 1 := by omega
  rcases h01 with rfl | rfl <;> rfl

theorem lasts_ca (ops : List OpT) (sv : Value) (O : Out) (L : List Blk) (hs : RdW L encOp sv ops) (hn : ops.length < 9223372036854775808) :
    CA Try.prog 5 [sv] O L fun v L' => v = .bool true ∧ L' = L := by
  obtain ⟨po, co, rfl, hR⟩ := id hs
  clear hs
  refine ca_enter Try.func5 rfl rfl ?_
  rw [Try.ntmps5]
  simp only [envOf]
  refine cg_seq ?_
  refine cg_region ?_
  refine rg_q (.inl rfl) rfl rfl (by exact QW.qr (qw_assign rfl)) ?_
  refine rg_nil ?_
  refine qg_then ?_
  refine cg_seq ?_
  refine cg_region ?_
  refine rg_e (.inl rfl) rfl rfl (by exact ev_call0 rfl (.nil) (new_ca O _)) ?_
  rintro _ _ ⟨b0, Ka, rfl, rfl, ha⟩
  refine rg_e (.inl rfl) rfl rfl (by exact ev_call0 rfl (.nil) (new_ca O _)) ?_
  rintro _ _ ⟨b1, Kb, rfl, rfl, hb⟩
  refine rg_q (.inl rfl) rfl rfl (by exact QW.qr (qw_build_arr (.cons rfl (.cons rfl (.nil))) (.cons rfl (by first | exact CellsOf.agg | exact CellsOf.one rfl) (by repeat (first | exact SetSeg.done | apply SetSeg.take | apply SetSeg.skip)) (by rfl) (by rfl) (.cons rfl (by first | exact CellsOf.agg | exact CellsOf.one rfl) (by repeat (first | exact SetSeg.done | apply SetSeg.take | apply SetSeg.skip)) (by rfl) (by rfl) (.nil))))) ?_
  refine rg_e (.inl rfl) rfl rfl (by exact ev_alloc (by first | exact CellsOf.agg | exact CellsOf.one rfl)) ?_
  rintro _ _ ⟨b3, rfl, rfl⟩
  refine rg_e0 (.inl rfl) rfl (by exact ev_store rfl rfl (by first | exact CellsOf.agg | exact CellsOf.one rfl) (by repeat (first | exact List.Mem.head _ | apply List.Mem.tail | apply List.mem_append_right | assumption)) (by repeat (first | exact SetSeg.done | apply SetSeg.take | apply SetSeg.skip)) rfl rfl (by repeat (first | exact Upd.here | apply Upd.there | apply Upd.app)) (by first | exact Or.inl ⟨inferInstance, rfl⟩ | exact Or.inr inferInstance)) ?_
  rintro _ _ ⟨rfl, rfl⟩
  refine rg_nil ?_
  refine qg_then ?_
  refine cg_seq ?_
  refine cg_region ?_
  refine rg_q (.inl rfl) rfl rfl (by exact QW.qr (qw_indexAddr_arr rfl rfl (by decide) (by decide))) ?_
  refine rg_q (.inl rfl) rfl rfl (by exact qr_load1 rfl (by repeat (first | exact List.Mem.head _ | apply List.Mem.tail | apply List.mem_append_right | assumption)) rfl) ?_
  refine rg_q (.inl rfl) rfl rfl (by exact QW.qr (qw_indexAddr_arr rfl rfl (by decide) (by decide))) ?_
  refine rg_q (.inl rfl) rfl rfl (by exact qr_load1 rfl (by repeat (first | exact List.Mem.head _ | apply List.Mem.tail | apply List.mem_append_right | assumption)) rfl) ?_
  refine rg_e (.inl rfl) rfl rfl (by exact ev_call0 rfl (.cons rfl (.cons rfl (.nil))) ((open3_ca b0 b1 O (cat [[(b3, .cells [PT b0, PT b1].toArray 48 (0, 0))]] L) ha hb (by decide) (by decide) aw_open).pre (fun w h => h.perm (cat_perm (ls' := [Ka, Kb, [(b3, .cells [PT b0, PT b1].toArray 48 (0, 0))]]) (ls := [[(b3, .cells [PT b0, PT b1].toArray 48 (0, 0))], Kb, Ka]) (by repeat (first | exact PermM.nil | refine PermM.cons (by repeat (first | exact Ins.here | apply Ins.there)) ?_)))))) ?_
  rintro _ _ ⟨bl, K2, K02, K12, rfl, rfl, hl2, h02, h12⟩
  refine rg_q (.inl rfl) rfl rfl (by exact QW.qr (qw_move rfl)) ?_
  refine rg_q (.inl rfl) rfl rfl (by exact QW.qr (qw_extract rfl rfl)) ?_
  refine rg_q (.inl rfl) rfl rfl (by exact QW.qr (qw_extract rfl rfl)) ?_
  refine rg_q (.inl rfl) rfl rfl (by exact QW.qr (qw_assign rfl)) ?_
  refine rg_q (.inl rfl) rfl rfl (by exact QW.qr (qw_assign rfl)) ?_
  refine rg_nil ?_
  refine qg_then ?_
  refine cg_seq ?_
  refine cg_seq ?_
  refine cg_region ?_
  refine rg_q (.inl rfl) rfl rfl (by exact QW.qr (qw_move rfl)) ?_
  refine rg_q (.inl rfl) rfl rfl (by exact QW.qr (qw_eql_ptr (e := 70) rfl rfl)) ?_
  refine rg_q (.inl rfl) rfl rfl (by exact QW.qr (qw_move rfl)) ?_
  refine rg_q (.inr (guard_mk rfl rfl rfl rfl)) rfl rfl (by exact QW.qr (qw_move rfl)) ?_
  refine rg_q (.inr (guard_mk rfl rfl rfl rfl)) rfl rfl (by exact QW.qr (qw_neq_f rfl rfl (fun h => h rfl))) ?_
  refine rg_q (.inl rfl) rfl rfl (by exact QW.qr (qw_pick_f rfl rfl)) ?_
  refine rg_q (.inl rfl) rfl rfl (by exact QW.qr (qw_move rfl)) ?_
  refine rg_e (.inr (guard_mk rfl rfl rfl rfl)) rfl rfl (by exact ev_call0 rfl (.nil) (awake_ca O _)) ?_
  rintro _ _ ⟨rfl, rfl⟩
  · skip
    refine rg_q (.inr (guard_mk rfl rfl rfl rfl)) rfl rfl (by exact QW.qr (qw_not rfl)) ?_
    refine rg_q (.inl rfl) rfl rfl (by exact QW.qr (qw_pick_f rfl rfl)) ?_
    refine rg_nil ?_
    refine qg_then ?_
    refine cg_false rfl ?_
    refine cg_skip ?_
    refine qg_then ?_
    refine cg_seq ?_
    refine cg_region ?_
    refine rg_q (.inl rfl) rfl rfl (by exact QW.qr (qw_move rfl)) ?_
    refine rg_e (.inl rfl) rfl rfl (by exact ev_call0 rfl (.cons rfl (.nil)) (shot3_ca bl b0 b1 O (cat [K02, K12, [(b3, .cells [PT b0, PT b1].toArray 48 (0, 0))]] L) lasts_start (by decide) hl2)) ?_
    rintro _ _ ⟨rfl, rfl⟩
    refine rg_e (.inl rfl) rfl rfl (by exact ev_buildSlice (.cons rfl (.nil)) rfl (by first | exact CellsOf.agg | exact CellsOf.one rfl) (by rfl) (.cons rfl (by first | exact CellsOf.agg | exact CellsOf.one rfl) (by repeat (first | exact SetSeg.done | apply SetSeg.take | apply SetSeg.skip)) (by rfl) (by rfl) (.nil))) ?_
    rintro _ _ ⟨b41, rfl, rfl⟩
    refine rg_q (.inl rfl) rfl rfl (by exact QW.qr (qw_assign rfl)) ?_
    refine rg_nil ?_
    refine qg_then ?_
    refine cg_seq ?_
    refine cg_seq ?_
    refine cg_region ?_
    refine rg_q (.inl rfl) rfl rfl (by exact QW.qr (qw_move rfl)) ?_
    refine rg_q (.inl rfl) rfl rfl (by exact QW.qr (qw_len_slice (t := 22) (.cons rfl (.nil)) rfl)) ?_
    refine rg_q (.inl rfl) rfl rfl (by exact QW.qr (qw_move rfl)) ?_
    refine rg_nil ?_
    refine qg_then ?_
    refine cg_block ?_
    refine cg_loop (fun E' L' m => ∃ (k : Nat) (l : Lb) (s0 s1 : Slab) (hs : List Kept) (bl : Nat) (K K0 K1 : List Blk) (mv : Value) (Bm : List Blk), k ≤ 50 ∧ k ≤ ops.length ∧ Lst k l s0 s1 hs ∧ LbIn bl b0 b1 l K ∧ SlabAt b0 s0 K0 ∧ SlabAt b1 s1 K1 ∧ OwnL 9 encN 1 mv (hs.map shotF) Bm ∧
      E' = [(3, PT b3), (4, PT bl), (6, mv), (42, .slice po ops.length co), (43, .int .i64 ops.length), (44, .int .i64 k)] ∧ L' = cat [K, K0, K1, [(b3, .cells [PT b0, PT b1].toArray 48 (0, 0))], Bm] L ∧ m = ops.length - k)
      _ _ _ ⟨0, ⟨0, 1, [], 0⟩, sA1, newS, [[]], bl, K2, K02, K12, _, [(b41, _)], by omega, by omega, lasts_start, hl2, h02, h12, own1 b41 _, rfl, rfl, rfl⟩ (by repeat (first | exact Sub.nil | refine Sub.cons rfl ?_ | refine Sub.cons (congrArg (fun z => some (Value.int IntKind.i64 z)) (by omega)) ?_)) (cat_perm (ls' := [K2, K02, K12, [(b3, _)], [(b41, _)]]) (ls := [[(b41, _)], K2, K02, K12, [(b3, _)]]) (by repeat (first | exact PermM.nil | refine PermM.cons (by repeat (first | exact Ins.here | apply Ins.there)) ?_))) ?_
    clear hl2 h02 h12 ha hb
    clear K2 K02 K12 bl
    rintro _ _ _ ⟨k, l, s0, s1, hs, bl, K, K0, K1, mv, Bm, hk50, hkn, hinv, hl, h0, h1, hom, rfl, rfl, rfl⟩
    refine cg_seq ?_
    refine cg_region ?_
    refine rg_split (.inl rfl) rfl rfl (by exact qc_lss rfl rfl) ?_ ?_
    · intro hlt
      have hklt : k < ops.length := by omega
      obtain ⟨bo, oo, Ao, to, fo, rfl, hmo, hsego⟩ := hR (by omega)
      have hop := hsego.elem (enc := encOp) (k := 9) (fun _ => rfl) hklt
      generalize ops[k] = op at hop
      unfold encOp at hop
      have hsz := hinv.sz (by omega)
      have hz0 := hsz.2.2.1
      have hz1 := hsz.2.2.2.1
      obtain ⟨pm, cm, rfl, hqm⟩ := id (hom.rd (fun _ => rfl) (by decide))
      refine rg_nil ?_
      refine qg_then ?_
      refine cg_seq ?_
      refine cg_true rfl ?_
      refine cg_skip ?_
      refine qg_then ?_
      refine cg_cut (fun E' L' => ∃ (l : Lb) (s0 s1 : Slab) (hs : List Kept) (bl : Nat) (K K0 K1 : List Blk) (mv : Value) (Bm : List Blk), k + 1 ≤ 50 ∧ Lst (k + 1) l s0 s1 hs ∧ LbIn bl b0 b1 l K ∧ SlabAt b0 s0 K0 ∧ SlabAt b1 s1 K1 ∧ OwnL 9 encN 1 mv (hs.map shotF) Bm ∧
        E' = [(3, PT b3), (4, PT bl), (6, mv), (42, .slice (some ⟨bo, oo, none⟩) ops.length co), (43, .int .i64 ops.length), (44, .int .i64 k)] ∧ L' = cat [K, K0, K1, [(b3, .cells [PT b0, PT b1].toArray 48 (0, 0))], Bm] L) ?_ ?_
      · -- the first part
        refine cg_block ?_
        refine cg_seq ?_
        refine cg_region ?_
        refine rg_q (.inl rfl) rfl rfl (by exact QW.qr (qw_move rfl)) ?_
        refine rg_q (.inl rfl) rfl rfl (by exact QW.qr (qw_indexAddr rfl rfl (by omega) (by omega))) ?_
        refine rg_q (.inl rfl) rfl rfl (by exact qr_loadS rfl (mem_catF hmo) hop rfl) ?_
        refine rg_e (.inl rfl) rfl rfl (by exact ev_alloc (by first | exact CellsOf.agg | exact CellsOf.one rfl)) ?_
        rintro _ _ ⟨b8, rfl, rfl⟩
        refine rg_q (.inl rfl) rfl rfl (by exact QW.qr (qw_assign rfl)) ?_
        refine rg_e0 (.inl rfl) rfl (by exact ev_store rfl rfl (by first | exact CellsOf.agg | exact CellsOf.one rfl) (by repeat (first | exact List.Mem.head _ | apply List.Mem.tail | apply List.mem_append_right | assumption)) (by repeat (first | exact SetSeg.done | apply SetSeg.take | apply SetSeg.skip)) rfl rfl (by repeat (first | exact Upd.here | apply Upd.there | apply Upd.app)) (by first | exact Or.inl ⟨inferInstance, rfl⟩ | exact Or.inr inferInstance)) ?_
        rintro _ _ ⟨rfl, rfl⟩
        refine rg_nil ?_
        refine qg_then ?_
        refine cg_seq ?_
        refine cg_seq ?_
        refine cg_region ?_
        refine rg_q (.inl rfl) rfl rfl (by exact QW.qr (qw_move rfl)) ?_
        refine rg_split (.inl rfl) rfl rfl (by exact qc_geq rfl rfl) ?_ ?_
        · intro hge
          refine rg_q (.inl rfl) rfl rfl (by exact QW.qr (qw_move rfl)) ?_
          refine rg_s (guard_mk rfl rfl rfl rfl) rfl rfl ?_
          refine rg_s (guard_mk rfl rfl rfl rfl) rfl rfl ?_
          refine rg_s (guard_mk rfl rfl rfl rfl) rfl rfl ?_
          refine rg_q (.inl rfl) rfl rfl (by exact QW.qr (qw_pick_t rfl rfl)) ?_
          refine rg_nil ?_
          refine qg_then ?_
          refine cg_true rfl ?_
          refine cg_exit ?_
          refine qg_then_exit ?_
          refine qg_block_on rfl ?_
          refine qg_then_exit ?_
          refine qg_then_exit ?_
          refine qg_block_here ?_
          refine qg_then ?_
          refine cg_seq ?_
          refine cg_region ?_
          refine rg_q (.inl rfl) rfl rfl (by exact QW.qr (qw_assign rfl)) ?_
          refine rg_nil ?_
          refine qg_then ?_
          refine cg_ret ?_
          exact qg_end_sp (.inl rfl) _ (.cons (.tmp rfl) (.nil)) _ (cat_sub (ls' := []) (ls := [[(b8, _)], K, K0, K1, [(b3, _)], Bm]) (by repeat (first | exact SubM.nil | refine SubM.cons (by repeat (first | exact Ins.here | apply Ins.there)) ?_))) ⟨rfl, rfl⟩
        · intro hge
          refine rg_q (.inl rfl) rfl rfl (by exact QW.qr (qw_move rfl)) ?_
          refine rg_q (.inr (guard_mk rfl rfl rfl rfl)) rfl rfl (by exact qr_loadN rfl (by repeat (first | exact List.Mem.head _ | apply List.Mem.tail | apply List.mem_append_right | assumption)) (by repeat (first | exact SegL.done | apply SegL.take | apply SegL.skip))) ?_
          refine rg_e (.inr (guard_mk rfl rfl rfl rfl)) rfl rfl (by exact ev_call0 rfl (.cons rfl (.nil)) (fits_ca op O _)) ?_
          rintro _ _ ⟨rfl, rfl⟩
          by_cases hfit : fitsO op
          · skip
            rw [decide_eq_true hfit]
            refine rg_q (.inr (guard_mk rfl rfl rfl rfl)) rfl rfl (by exact QW.qr (qw_not rfl)) ?_
            refine rg_q (.inl rfl) rfl rfl (by exact QW.qr (qw_pick_f rfl rfl)) ?_
            refine rg_nil ?_
            refine qg_then ?_
            refine cg_false rfl ?_
            refine cg_skip ?_
            refine qg_then ?_
            refine cg_seq ?_
            refine cg_region ?_
            refine rg_q (.inl rfl) rfl rfl (by exact QW.qr (qw_fieldAddr rfl)) ?_
            refine rg_q (.inl rfl) rfl rfl (by exact qr_load1 rfl (by repeat (first | exact List.Mem.head _ | apply List.Mem.tail | apply List.mem_append_right | assumption)) rfl) ?_
            refine rg_nil ?_
            refine qg_then ?_
            refine cg_block ?_
            refine cg_seq ?_
            refine cg_region ?_
            refine rg_split (.inl rfl) rfl rfl (by exact qc_eql rfl rfl) ?_ ?_
            · intro k0
              refine rg_q (.inl rfl) rfl rfl (by exact QW.qr (qw_assign rfl)) ?_
              refine rg_nil ?_
              refine qg_then ?_
              refine cg_true rfl ?_
              refine cg_seq ?_
              refine cg_region ?_
              refine rg_q (.inl rfl) rfl rfl (by exact QW.qr (qw_move rfl)) ?_
              refine rg_e (.inl rfl) rfl rfl (by exact ev_call0 rfl (.cons rfl (.nil)) ((shot3_ca bl b0 b1 O (cat [[(b8, _)], K0, K1, [(b3, .cells [PT b0, PT b1].toArray 48 (0, 0))], Bm] L) hinv (by omega) hl).pre (fun w h => h.perm (cat_perm (ls' := [K, [(b8, _)], K0, K1, [(b3, .cells [PT b0, PT b1].toArray 48 (0, 0))], Bm]) (ls := [[(b8, _)], K, K0, K1, [(b3, .cells [PT b0, PT b1].toArray 48 (0, 0))], Bm]) (by repeat (first | exact PermM.nil | refine PermM.cons (by repeat (first | exact Ins.here | apply Ins.there)) ?_)))))) ?_
              rintro _ _ ⟨rfl, rfl⟩
              refine rg_q (.inl rfl) rfl rfl (by exact QW.qr (qw_assign rfl)) ?_
              refine rg_nil ?_
              refine qg_then ?_
              refine cg_seq ?_
              refine cg_region ?_
              refine rg_q (.inl rfl) rfl rfl (by exact QW.qr (qw_move rfl)) ?_
              refine rg_q (.inl rfl) rfl rfl (by exact QW.qr (qw_fieldAddr rfl)) ?_
              refine rg_q (.inl rfl) rfl rfl (by exact qr_load1 rfl (by repeat (first | exact List.Mem.head _ | apply List.Mem.tail | apply List.mem_append_right | assumption)) rfl) ?_
              refine rg_q (.inl rfl) rfl rfl (by exact QW.qr (qw_fieldAddr rfl)) ?_
              refine rg_q (.inl rfl) rfl rfl (by exact qr_load1 rfl (by repeat (first | exact List.Mem.head _ | apply List.Mem.tail | apply List.mem_append_right | assumption)) rfl) ?_
              refine rg_e (.inl rfl) rfl rfl (by exact ev_strToBytes (s := ⟨op.value.toArray⟩) rfl) ?_
              rintro vv _ ⟨Bv, hvv, rfl⟩
              replace hvv : RdL Bv encB 1 vv op.value := hvv
              obtain ⟨l2, s02, s12, e, hres, hinv2, hsm⟩ := lasts_put hinv op.name op.value
              refine rg_e (.inl rfl) rfl rfl (by exact ev_call0 rfl (.cons rfl (.cons rfl (.cons rfl (.nil)))) ((put3_ca bl b0 b1 O (cat [Bv, [(b8, _)], [(b3, .cells [PT b0, PT b1].toArray 48 (0, 0))], Bm] L) hl h0 h1 hz0 hz1 op.name op.value vv (hvv.mono (fun q hq => mem_cat (s := Bv) (by repeat (first | exact List.Mem.head _ | apply List.Mem.tail)) hq)) hres).pre (fun w h => h.perm (cat_perm (ls' := [K, K0, K1, Bv, [(b8, _)], [(b3, .cells [PT b0, PT b1].toArray 48 (0, 0))], Bm]) (ls := [Bv, K, [(b8, _)], K0, K1, [(b3, .cells [PT b0, PT b1].toArray 48 (0, 0))], Bm]) (by repeat (first | exact PermM.nil | refine PermM.cons (by repeat (first | exact Ins.here | apply Ins.there)) ?_)))))) ?_
              rintro _ _ ⟨rfl, K2, K02, K12, rfl, hl2, h02, h12⟩
              refine rg_q (.inl rfl) rfl rfl (by exact QW.qr (qw_assign rfl)) ?_
              refine rg_nil ?_
              refine qg_then ?_
              refine cg_seq ?_
              refine cg_seq ?_
              refine cg_region ?_
              refine rg_q (.inl rfl) rfl rfl (by exact QW.qr (qw_move rfl)) ?_
              refine rg_split (.inl rfl) rfl rfl (by exact qc_neq rfl rfl) ?_ ?_
              · intro he
                refine rg_q (.inl rfl) rfl rfl (by exact QW.qr (qw_move rfl)) ?_
                refine rg_q (.inr (guard_mk rfl rfl rfl rfl)) rfl rfl (by exact QW.qr (qw_move rfl)) ?_
                refine rg_e (.inr (guard_mk rfl rfl rfl rfl)) rfl rfl (by exact ev_call0 rfl (.cons rfl (.nil)) (shot3_ca bl b0 b1 O (cat [K02, K12, Bv, [(b8, _)], [(b3, .cells [PT b0, PT b1].toArray 48 (0, 0))], Bm] L) hinv2 (by omega) hl2)) ?_
                rintro _ _ ⟨rfl, rfl⟩
                refine rg_q (.inr (guard_mk rfl rfl rfl rfl)) rfl rfl (by exact QW.qr (qw_move rfl)) ?_
                refine rg_q (.inr (guard_mk rfl rfl rfl rfl)) rfl rfl (by exact QW.qr (qw_val (v' := .bool false) (qw_neq_str rfl rfl) (by rw [hsm he]; simp))) ?_
                refine rg_q (.inl rfl) rfl rfl (by exact QW.qr (qw_pick_t rfl rfl)) ?_
                refine rg_nil ?_
                refine qg_then ?_
                refine cg_false rfl ?_
                refine cg_skip ?_
                refine qg_then ?_
                refine cg_region ?_
                refine rg_q (.inl rfl) rfl rfl (by exact QW.qr (qw_move rfl)) ?_
                refine rg_q (.inl rfl) rfl rfl (by exact QW.qr (qw_move rfl)) ?_
                refine rg_e (.inl rfl) rfl rfl (by exact ev_call0 rfl (.cons rfl (.nil)) (shot3_ca bl b0 b1 O (cat [K02, K12, Bv, [(b8, _)], [(b3, .cells [PT b0, PT b1].toArray 48 (0, 0))], Bm] L) hinv2 (by omega) hl2)) ?_
                rintro _ _ ⟨rfl, rfl⟩
                refine rg_e (.inl rfl) rfl rfl (by exact ev_buildSlice (.cons rfl (.nil)) rfl (by first | exact CellsOf.agg | exact CellsOf.one rfl) (by rfl) (.cons rfl (by first | exact CellsOf.agg | exact CellsOf.one rfl) (by repeat (first | exact SetSeg.done | apply SetSeg.take | apply SetSeg.skip)) (by rfl) (by rfl) (.nil))) ?_
                rintro _ _ ⟨b80, rfl, rfl⟩
                refine rg_e (.inl rfl) rfl rfl (by exact ev_appendL (ys := [shotF l2.has]) (T := 41) (T2 := 41) (.cons rfl (.cons rfl .nil)) rfl rfl hom (R := cat [[(b80, _)], K2, K02, K12, Bv, [(b8, _)], [(b3, .cells [PT b0, PT b1].toArray 48 (0, 0))]] L) (cat_perm (ls' := [Bm, [(b80, _)], K2, K02, K12, Bv, [(b8, _)], [(b3, .cells [PT b0, PT b1].toArray 48 (0, 0))]]) (ls := [[(b80, _)], K2, K02, K12, Bv, [(b8, _)], [(b3, .cells [PT b0, PT b1].toArray 48 (0, 0))], Bm]) (by repeat (first | exact PermM.nil | refine PermM.cons (by repeat (first | exact Ins.here | apply Ins.there)) ?_))) (((own1 b80 _).rd (fun _ => rfl) (by decide)).mono (fun q hq => mem_cat (s := [(b80, _)]) (by repeat (first | exact List.Mem.head _ | apply List.Mem.tail)) hq)).src (fun _ => rfl) encN1 (by rw [List.length_map]; have := hinv.len; simp only [List.length_cons, List.length_nil]; omega) rfl rfl rfl rfl) ?_
                rintro mv2 _ ⟨Bm2, hom2, rfl⟩
                refine rg_q (.inl rfl) rfl rfl (by exact QW.qr (qw_assign rfl)) ?_
                refine rg_nil ?_
                refine qg_block ?_
                refine qg_block ?_
                exact qg_cut_sp _ _ ⟨l2, s02, s12, hs ++ [l2.has], bl, K2, K02, K12, mv2, Bm2, by omega, hinv2, hl2, h02, h12, (by rw [List.map_append]; exact hom2), rfl, rfl⟩ (by repeat (first | exact Sub.nil | refine Sub.cons rfl ?_ | refine Sub.cons (congrArg (fun z => some (Value.int IntKind.i64 z)) (by omega)) ?_)) (cat_sub (ls' := [K2, K02, K12, [(b3, _)], Bm2]) (ls := [Bm2, [(b80, _)], K2, K02, K12, Bv, [(b8, _)], [(b3, _)]]) (by repeat (first | exact SubM.nil | refine SubM.cons (by repeat (first | exact Ins.here | apply Ins.there)) ?_)))
              · intro he
                refine rg_q (.inl rfl) rfl rfl (by exact QW.qr (qw_move rfl)) ?_
                refine rg_s (guard_mk rfl rfl rfl rfl) rfl rfl ?_
                refine rg_s (guard_mk rfl rfl rfl rfl) rfl rfl ?_
                refine rg_s (guard_mk rfl rfl rfl rfl) rfl rfl ?_
                refine rg_s (guard_mk rfl rfl rfl rfl) rfl rfl ?_
                refine rg_q (.inl rfl) rfl rfl (by exact QW.qr (qw_pick_f rfl rfl)) ?_
                refine rg_nil ?_
                refine qg_then ?_
                refine cg_false rfl ?_
                refine cg_skip ?_
                refine qg_then ?_
                refine cg_region ?_
                refine rg_q (.inl rfl) rfl rfl (by exact QW.qr (qw_move rfl)) ?_
                refine rg_q (.inl rfl) rfl rfl (by exact QW.qr (qw_move rfl)) ?_
                refine rg_e (.inl rfl) rfl rfl (by exact ev_call0 rfl (.cons rfl (.nil)) (shot3_ca bl b0 b1 O (cat [K02, K12, Bv, [(b8, _)], [(b3, .cells [PT b0, PT b1].toArray 48 (0, 0))], Bm] L) hinv2 (by omega) hl2)) ?_
                rintro _ _ ⟨rfl, rfl⟩
                refine rg_e (.inl rfl) rfl rfl (by exact ev_buildSlice (.cons rfl (.nil)) rfl (by first | exact CellsOf.agg | exact CellsOf.one rfl) (by rfl) (.cons rfl (by first | exact CellsOf.agg | exact CellsOf.one rfl) (by repeat (first | exact SetSeg.done | apply SetSeg.take | apply SetSeg.skip)) (by rfl) (by rfl) (.nil))) ?_
                rintro _ _ ⟨b80, rfl, rfl⟩
                refine rg_e (.inl rfl) rfl rfl (by exact ev_appendL (ys := [shotF l2.has]) (T := 41) (T2 := 41) (.cons rfl (.cons rfl .nil)) rfl rfl hom (R := cat [[(b80, _)], K2, K02, K12, Bv, [(b8, _)], [(b3, .cells [PT b0, PT b1].toArray 48 (0, 0))]] L) (cat_perm (ls' := [Bm, [(b80, _)], K2, K02, K12, Bv, [(b8, _)], [(b3, .cells [PT b0, PT b1].toArray 48 (0, 0))]]) (ls := [[(b80, _)], K2, K02, K12, Bv, [(b8, _)], [(b3, .cells [PT b0, PT b1].toArray 48 (0, 0))], Bm]) (by repeat (first | exact PermM.nil | refine PermM.cons (by repeat (first | exact Ins.here | apply Ins.there)) ?_))) (((own1 b80 _).rd (fun _ => rfl) (by decide)).mono (fun q hq => mem_cat (s := [(b80, _)]) (by repeat (first | exact List.Mem.head _ | apply List.Mem.tail)) hq)).src (fun _ => rfl) encN1 (by rw [List.length_map]; have := hinv.len; simp only [List.length_cons, List.length_nil]; omega) rfl rfl rfl rfl) ?_
                rintro mv2 _ ⟨Bm2, hom2, rfl⟩
                refine rg_q (.inl rfl) rfl rfl (by exact QW.qr (qw_assign rfl)) ?_
                refine rg_nil ?_
                refine qg_block ?_
                refine qg_block ?_
                exact qg_cut_sp _ _ ⟨l2, s02, s12, hs ++ [l2.has], bl, K2, K02, K12, mv2, Bm2, by omega, hinv2, hl2, h02, h12, (by rw [List.map_append]; exact hom2), rfl, rfl⟩ (by repeat (first | exact Sub.nil | refine Sub.cons rfl ?_ | refine Sub.cons (congrArg (fun z => some (Value.int IntKind.i64 z)) (by omega)) ?_)) (cat_sub (ls' := [K2, K02, K12, [(b3, _)], Bm2]) (ls := [Bm2, [(b80, _)], K2, K02, K12, Bv, [(b8, _)], [(b3, _)]]) (by repeat (first | exact SubM.nil | refine SubM.cons (by repeat (first | exact Ins.here | apply Ins.there)) ?_)))
            · intro k0
              refine rg_q (.inl rfl) rfl rfl (by exact QW.qr (qw_assign rfl)) ?_
              refine rg_nil ?_
              refine qg_then ?_
              refine cg_false rfl ?_
              refine cg_seq ?_
              refine cg_region ?_
              refine rg_split (.inl rfl) rfl rfl (by exact qc_eql rfl rfl) ?_ ?_
              · intro k1
                refine rg_q (.inl rfl) rfl rfl (by exact QW.qr (qw_assign rfl)) ?_
                refine rg_nil ?_
                refine qg_then ?_
                refine cg_true rfl ?_
                refine cg_seq ?_
                obtain ⟨l2, s02, s12, e, hres, hinv2⟩ := lasts_drop hinv op.name
                refine cg_region ?_
                refine rg_q (.inl rfl) rfl rfl (by exact QW.qr (qw_move rfl)) ?_
                refine rg_q (.inl rfl) rfl rfl (by exact QW.qr (qw_fieldAddr rfl)) ?_
                refine rg_q (.inl rfl) rfl rfl (by exact qr_load1 rfl (by repeat (first | exact List.Mem.head _ | apply List.Mem.tail | apply List.mem_append_right | assumption)) rfl) ?_
                refine rg_e (.inl rfl) rfl rfl (by exact ev_call0 rfl (.cons rfl (.cons rfl (.nil))) ((drop3_ca bl b0 b1 O (cat [[(b8, _)], [(b3, .cells [PT b0, PT b1].toArray 48 (0, 0))], Bm] L) hl h0 h1 hz0 hz1 op.name (fun hh => by have := hfit.1; omega) hres).pre (fun w h => h.perm (cat_perm (ls' := [K, K0, K1, [(b8, _)], [(b3, .cells [PT b0, PT b1].toArray 48 (0, 0))], Bm]) (ls := [[(b8, _)], K, K0, K1, [(b3, _)], Bm]) (by repeat (first | exact PermM.nil | refine PermM.cons (by repeat (first | exact Ins.here | apply Ins.there)) ?_)))))) ?_
                rintro _ _ ⟨rfl, K2, K02, K12, rfl, hl2, h02, h12⟩
                refine rg_nil ?_
                refine qg_then ?_
                refine cg_region ?_
                refine rg_q (.inl rfl) rfl rfl (by exact QW.qr (qw_move rfl)) ?_
                refine rg_q (.inl rfl) rfl rfl (by exact QW.qr (qw_move rfl)) ?_
                refine rg_e (.inl rfl) rfl rfl (by exact ev_call0 rfl (.cons rfl (.nil)) (shot3_ca bl b0 b1 O (cat [K02, K12, [(b8, _)], [(b3, .cells [PT b0, PT b1].toArray 48 (0, 0))], Bm] L) hinv2 (by omega) hl2)) ?_
                rintro _ _ ⟨rfl, rfl⟩
                refine rg_e (.inl rfl) rfl rfl (by exact ev_buildSlice (.cons rfl (.nil)) rfl (by first | exact CellsOf.agg | exact CellsOf.one rfl) (by rfl) (.cons rfl (by first | exact CellsOf.agg | exact CellsOf.one rfl) (by repeat (first | exact SetSeg.done | apply SetSeg.take | apply SetSeg.skip)) (by rfl) (by rfl) (.nil))) ?_
                rintro _ _ ⟨b91, rfl, rfl⟩
                refine rg_e (.inl rfl) rfl rfl (by exact ev_appendL (ys := [shotF l2.has]) (T := 41) (T2 := 41) (.cons rfl (.cons rfl .nil)) rfl rfl hom (R := cat [[(b91, _)], K2, K02, K12, [(b8, _)], [(b3, .cells [PT b0, PT b1].toArray 48 (0, 0))]] L) (cat_perm (ls' := [Bm, [(b91, _)], K2, K02, K12, [(b8, _)], [(b3, .cells [PT b0, PT b1].toArray 48 (0, 0))]]) (ls := [[(b91, _)], K2, K02, K12, [(b8, _)], [(b3, .cells [PT b0, PT b1].toArray 48 (0, 0))], Bm]) (by repeat (first | exact PermM.nil | refine PermM.cons (by repeat (first | exact Ins.here | apply Ins.there)) ?_))) (((own1 b91 _).rd (fun _ => rfl) (by decide)).mono (fun q hq => mem_cat (s := [(b91, _)]) (by repeat (first | exact List.Mem.head _ | apply List.Mem.tail)) hq)).src (fun _ => rfl) encN1 (by rw [List.length_map]; have := hinv.len; simp only [List.length_cons, List.length_nil]; omega) rfl rfl rfl rfl) ?_
                rintro mv2 _ ⟨Bm2, hom2, rfl⟩
                refine rg_q (.inl rfl) rfl rfl (by exact QW.qr (qw_assign rfl)) ?_
                refine rg_nil ?_
                refine qg_block ?_
                refine qg_block ?_
                exact qg_cut_sp _ _ ⟨l2, s02, s12, hs ++ [l2.has], bl, K2, K02, K12, mv2, Bm2, by omega, hinv2, hl2, h02, h12, (by rw [List.map_append]; exact hom2), rfl, rfl⟩ (by repeat (first | exact Sub.nil | refine Sub.cons rfl ?_ | refine Sub.cons (congrArg (fun z => some (Value.int IntKind.i64 z)) (by omega)) ?_)) (cat_sub (ls' := [K2, K02, K12, [(b3, _)], Bm2]) (ls := [Bm2, [(b91, _)], K2, K02, K12, [(b8, _)], [(b3, _)]]) (by repeat (first | exact SubM.nil | refine SubM.cons (by repeat (first | exact Ins.here | apply Ins.there)) ?_)))
              · intro k1
                refine rg_q (.inl rfl) rfl rfl (by exact QW.qr (qw_assign rfl)) ?_
                refine rg_nil ?_
                refine qg_then ?_
                refine cg_false rfl ?_
                refine cg_seq ?_
                refine cg_region ?_
                refine rg_split (.inl rfl) rfl rfl (by exact qc_eql rfl rfl) ?_ ?_
                · intro k2
                  refine rg_q (.inl rfl) rfl rfl (by exact QW.qr (qw_assign rfl)) ?_
                  refine rg_nil ?_
                  refine qg_then ?_
                  refine cg_true rfl ?_
                  refine cg_seq ?_
                  obtain ⟨l2, s02, s12, e, hres, hA, hB⟩ := lasts_sync hinv
                  refine cg_region ?_
                  refine rg_q (.inl rfl) rfl rfl (by exact QW.qr (qw_move rfl)) ?_
                  refine rg_e (.inl rfl) rfl rfl (by exact ev_call0 rfl (.cons rfl (.nil)) ((sync3_ca bl b0 b1 O (cat [[(b8, _)], [(b3, .cells [PT b0, PT b1].toArray 48 (0, 0))], Bm] L) hl h0 h1 hz0 hz1 hres).pre (fun w h => h.perm (cat_perm (ls' := [K, K0, K1, [(b8, _)], [(b3, .cells [PT b0, PT b1].toArray 48 (0, 0))], Bm]) (ls := [[(b8, _)], K, K0, K1, [(b3, _)], Bm]) (by repeat (first | exact PermM.nil | refine PermM.cons (by repeat (first | exact Ins.here | apply Ins.there)) ?_)))))) ?_
                  rintro _ _ ⟨rfl, K2, K02, K12, rfl, hl2, h02, h12⟩
                  refine rg_split (.inl rfl) rfl rfl (by exact qc_eql rfl rfl) ?_ ?_
                  · intro he
                    refine rg_nil ?_
                    refine qg_then ?_
                    refine cg_true rfl ?_
                    refine cg_region ?_
                    refine rg_q (.inl rfl) rfl rfl (by exact QW.qr (qw_move rfl)) ?_
                    refine rg_e (.inl rfl) rfl rfl (by exact ev_call0 rfl (.cons rfl (.nil)) (shot3_ca bl b0 b1 O (cat [K02, K12, [(b8, _)], [(b3, .cells [PT b0, PT b1].toArray 48 (0, 0))], Bm] L) (hB he) (by omega) hl2)) ?_
                    rintro _ _ ⟨rfl, rfl⟩
                    refine rg_e (.inl rfl) rfl rfl (by exact ev_buildSlice (.cons rfl (.nil)) rfl (by first | exact CellsOf.agg | exact CellsOf.one rfl) (by rfl) (.cons rfl (by first | exact CellsOf.agg | exact CellsOf.one rfl) (by repeat (first | exact SetSeg.done | apply SetSeg.take | apply SetSeg.skip)) (by rfl) (by rfl) (.nil))) ?_
                    rintro _ _ ⟨b100, rfl, rfl⟩
                    refine rg_q (.inl rfl) rfl rfl (by exact QW.qr (qw_assign rfl)) ?_
                    refine rg_nil ?_
                    refine qg_block ?_
                    refine qg_block ?_
                    exact qg_cut_sp _ _ ⟨l2, s02, s12, [l2.has], bl, K2, K02, K12, _, [(b100, _)], by omega, hB he, hl2, h02, h12, own1 b100 _, rfl, rfl⟩ (by repeat (first | exact Sub.nil | refine Sub.cons rfl ?_ | refine Sub.cons (congrArg (fun z => some (Value.int IntKind.i64 z)) (by omega)) ?_)) (cat_sub (ls' := [K2, K02, K12, [(b3, _)], [(b100, _)]]) (ls := [[(b100, _)], K2, K02, K12, [(b8, _)], [(b3, _)], Bm]) (by repeat (first | exact SubM.nil | refine SubM.cons (by repeat (first | exact Ins.here | apply Ins.there)) ?_)))
                  · intro he
                    refine rg_nil ?_
                    refine qg_then ?_
                    refine cg_false rfl ?_
                    refine cg_skip ?_
                    refine qg_block ?_
                    refine qg_block ?_
                    exact qg_cut_sp _ _ ⟨l2, s02, s12, hs, bl, K2, K02, K12, _, Bm, by omega, hA he, hl2, h02, h12, hom, rfl, rfl⟩ (by repeat (first | exact Sub.nil | refine Sub.cons rfl ?_ | refine Sub.cons (congrArg (fun z => some (Value.int IntKind.i64 z)) (by omega)) ?_)) (cat_sub (ls' := [K2, K02, K12, [(b3, _)], Bm]) (ls := [K2, K02, K12, [(b8, _)], [(b3, _)], Bm]) (by repeat (first | exact SubM.nil | refine SubM.cons (by repeat (first | exact Ins.here | apply Ins.there)) ?_)))
                · intro k2
                  refine rg_q (.inl rfl) rfl rfl (by exact QW.qr (qw_assign rfl)) ?_
                  refine rg_nil ?_
                  refine qg_then ?_
                  refine cg_false rfl ?_
                  refine cg_seq ?_
                  refine cg_region ?_
                  refine rg_split (.inl rfl) rfl rfl (by exact qc_eql rfl rfl) ?_ ?_
                  · intro k3
                    refine rg_q (.inl rfl) rfl rfl (by exact QW.qr (qw_assign rfl)) ?_
                    refine rg_nil ?_
                    refine qg_then ?_
                    refine cg_true rfl ?_
                    refine cg_seq ?_
                    obtain ⟨l2, s02, s12, e, hres, hA, hB⟩ := lasts_compact hinv hk50
                    refine cg_region ?_
                    refine rg_q (.inl rfl) rfl rfl (by exact QW.qr (qw_move rfl)) ?_
                    refine rg_e (.inl rfl) rfl rfl (by exact ev_call0 rfl (.cons rfl (.nil)) ((compact3_ca bl b0 b1 O (cat [[(b8, _)], [(b3, .cells [PT b0, PT b1].toArray 48 (0, 0))], Bm] L) hl h0 h1 hz0 hz1 hsz.2.2.2.2 hres).pre (fun w h => h.perm (cat_perm (ls' := [K, K0, K1, [(b8, _)], [(b3, .cells [PT b0, PT b1].toArray 48 (0, 0))], Bm]) (ls := [[(b8, _)], K, K0, K1, [(b3, _)], Bm]) (by repeat (first | exact PermM.nil | refine PermM.cons (by repeat (first | exact Ins.here | apply Ins.there)) ?_)))))) ?_
                    rintro _ _ ⟨rfl, K2, K02, K12, rfl, hl2, h02, h12⟩
                    refine rg_split (.inl rfl) rfl rfl (by exact qc_eql rfl rfl) ?_ ?_
                    · intro he
                      refine rg_nil ?_
                      refine qg_then ?_
                      refine cg_true rfl ?_
                      refine cg_region ?_
                      refine rg_q (.inl rfl) rfl rfl (by exact QW.qr (qw_move rfl)) ?_
                      refine rg_e (.inl rfl) rfl rfl (by exact ev_call0 rfl (.cons rfl (.nil)) (shot3_ca bl b0 b1 O (cat [K02, K12, [(b8, _)], [(b3, .cells [PT b0, PT b1].toArray 48 (0, 0))], Bm] L) (hB he) (by omega) hl2)) ?_
                      rintro _ _ ⟨rfl, rfl⟩
                      refine rg_e (.inl rfl) rfl rfl (by exact ev_buildSlice (.cons rfl (.nil)) rfl (by first | exact CellsOf.agg | exact CellsOf.one rfl) (by rfl) (.cons rfl (by first | exact CellsOf.agg | exact CellsOf.one rfl) (by repeat (first | exact SetSeg.done | apply SetSeg.take | apply SetSeg.skip)) (by rfl) (by rfl) (.nil))) ?_
                      rintro _ _ ⟨b108, rfl, rfl⟩
                      refine rg_q (.inl rfl) rfl rfl (by exact QW.qr (qw_assign rfl)) ?_
                      refine rg_nil ?_
                      refine qg_block ?_
                      refine qg_block ?_
                      exact qg_cut_sp _ _ ⟨l2, s02, s12, [l2.has], bl, K2, K02, K12, _, [(b108, _)], by omega, hB he, hl2, h02, h12, own1 b108 _, rfl, rfl⟩ (by repeat (first | exact Sub.nil | refine Sub.cons rfl ?_ | refine Sub.cons (congrArg (fun z => some (Value.int IntKind.i64 z)) (by omega)) ?_)) (cat_sub (ls' := [K2, K02, K12, [(b3, _)], [(b108, _)]]) (ls := [[(b108, _)], K2, K02, K12, [(b8, _)], [(b3, _)], Bm]) (by repeat (first | exact SubM.nil | refine SubM.cons (by repeat (first | exact Ins.here | apply Ins.there)) ?_)))
                    · intro he
                      refine rg_nil ?_
                      refine qg_then ?_
                      refine cg_false rfl ?_
                      refine cg_skip ?_
                      refine qg_block ?_
                      refine qg_block ?_
                      exact qg_cut_sp _ _ ⟨l2, s02, s12, hs, bl, K2, K02, K12, _, Bm, by omega, hA he, hl2, h02, h12, hom, rfl, rfl⟩ (by repeat (first | exact Sub.nil | refine Sub.cons rfl ?_ | refine Sub.cons (congrArg (fun z => some (Value.int IntKind.i64 z)) (by omega)) ?_)) (cat_sub (ls' := [K2, K02, K12, [(b3, _)], Bm]) (ls := [K2, K02, K12, [(b8, _)], [(b3, _)], Bm]) (by repeat (first | exact SubM.nil | refine SubM.cons (by repeat (first | exact Ins.here | apply Ins.there)) ?_)))
                  · intro k3
                    refine rg_q (.inl rfl) rfl rfl (by exact QW.qr (qw_assign rfl)) ?_
                    refine rg_nil ?_
                    refine qg_then ?_
                    refine cg_false rfl ?_
                    refine cg_seq ?_
                    refine cg_region ?_
                    refine rg_split (.inl rfl) rfl rfl (by exact qc_eql rfl rfl) ?_ ?_
                    · intro k4
                      refine rg_q (.inl rfl) rfl rfl (by exact QW.qr (qw_assign rfl)) ?_
                      refine rg_nil ?_
                      refine qg_then ?_
                      refine cg_true rfl ?_
                      obtain ⟨wj, hwj, hwj2⟩ : ∃ wj : Nat, (op.which.toNat : Int) % 2 = wj ∧ wj < 2 := ⟨op.which.toNat % 2, by omega, by omega⟩
                      refine cg_draw follows (.op 0 false (.op 1 false (.op 2 false (.op 3 false (.op 4 false (.op 5 false (.op 6 false (.op 7 false .done)))))))) _ (by kernel_rfl) (SubP.of (List.Sublist.refl _)) ?_
                      refine dg_w rfl rfl (.inl rfl) rfl rfl (by exact qw_fieldAddr rfl) ?_
                      refine dg_r rfl rfl rfl (.inl rfl) rfl rfl (by exact qr_load1 rfl (by repeat (first | exact List.Mem.head _ | apply List.Mem.tail | apply List.mem_append_right | assumption)) rfl) ?_
                      refine dg_w rfl rfl (.inl rfl) rfl rfl (by exact qw_val (v' := .int .u8 wj) (qw_rem_pos rfl rfl (by omega) (by decide)) (by rw [hwj])) ?_
                      refine dg_w rfl rfl (.inl rfl) rfl rfl (by exact qw_indexAddr_arr rfl rfl (by omega) (by omega)) ?_
                      refine dg_r rfl rfl rfl (.inl rfl) rfl rfl (by exact qr_load1' rfl (mem_cat (ls := [[(b8, _)], K, K0, K1, [(b3, _)], Bm]) (s := [(b3, _)]) (by repeat (first | exact List.Mem.head _ | apply List.Mem.tail)) (List.Mem.head _)) (arr_get b0 b1 wj hwj2)) ?_
                      refine dg_w rfl rfl (.inl rfl) rfl rfl (by exact qw_fieldAddr rfl) ?_
                      refine dg_r rfl rfl rfl (.inl rfl) rfl rfl (by exact qr_load1 rfl (by repeat (first | exact List.Mem.head _ | apply List.Mem.tail | apply List.mem_append_right | assumption)) rfl) ?_
                      refine dg_g rfl rfl (.inl rfl) rfl rfl (by exact ev_call0 rfl (.cons rfl (.cons rfl (.nil))) ((fuseK_ca b0 b1 s0 s1 K0 K1 wj hwj2 op.n O (cat [[(b8, _)], K, [(b3, .cells [PT b0, PT b1].toArray 48 (0, 0))], Bm] L) h0 h1).pre (fun w h => h.perm (cat_perm (ls' := [K0, K1, [(b8, _)], K, [(b3, .cells [PT b0, PT b1].toArray 48 (0, 0))], Bm]) (ls := [[(b8, _)], K, K0, K1, [(b3, _)], Bm]) (by repeat (first | exact PermM.nil | refine PermM.cons (by repeat (first | exact Ins.here | apply Ins.there)) ?_)))))) ?_
                      rintro _ _ ⟨ef, K02, K12, rfl, rfl, h02, h12⟩
                      refine dg_nil ?_
                      refine qg_block ?_
                      refine qg_block ?_
                      exact qg_cut_sp _ _ ⟨l, _, _, hs, bl, K, K02, K12, _, Bm, by omega, (lasts_fuse hinv (fz_bytes wj s0 op.n).1 (fz_bytes wj s1 op.n).2).mono (by omega), hl, h02, h12, hom, rfl, rfl⟩ (by repeat (first | exact Sub.nil | refine Sub.cons rfl ?_ | refine Sub.cons (congrArg (fun z => some (Value.int IntKind.i64 z)) (by omega)) ?_)) (cat_sub (ls' := [K, K02, K12, [(b3, _)], Bm]) (ls := [K02, K12, [(b8, _)], K, [(b3, _)], Bm]) (by repeat (first | exact SubM.nil | refine SubM.cons (by repeat (first | exact Ins.here | apply Ins.there)) ?_)))
                    · intro k4
                      refine rg_q (.inl rfl) rfl rfl (by exact QW.qr (qw_assign rfl)) ?_
                      refine rg_nil ?_
                      refine qg_then ?_
                      refine cg_false rfl ?_
                      refine cg_seq ?_
                      refine cg_region ?_
                      refine rg_split (.inl rfl) rfl rfl (by exact qc_eql rfl rfl) ?_ ?_
                      · intro k5
                        refine rg_q (.inl rfl) rfl rfl (by exact QW.qr (qw_assign rfl)) ?_
                        refine rg_nil ?_
                        refine qg_then ?_
                        refine cg_true rfl ?_
                        refine cg_seq ?_
                        refine cg_seq ?_
                        refine cg_region ?_
                        refine rg_q (.inl rfl) rfl rfl (by exact QW.qr (qw_move rfl)) ?_
                        refine rg_nil ?_
                        refine qg_then ?_
                        refine cg_block ?_
                        refine cg_loop (fun E' L' m => ∃ (j : Nat) (K0 K1 : List Blk), j ≤ 2 ∧ SlabAt b0 (cr0 op s0 j) K0 ∧ SlabAt b1 (cr1 op s1 j) K1 ∧ E' = [(3, PT b3), (4, PT bl), (6, .slice pm (hs.map shotF).length cm), (42, .slice (some ⟨bo, oo, none⟩) ops.length co), (43, .int .i64 ops.length), (44, .int .i64 k), (8, PT b8), (121, .int .i64 j)] ∧ L' = cat [K0, K1, [(b8, .cells (encOp op).toArray 33 (0, 0))], K, [(b3, .cells [PT b0, PT b1].toArray 48 (0, 0))], Bm] L ∧ m = 2 - j)
                          _ _ _ ⟨0, K0, K1, by omega, h0, h1, rfl, rfl, rfl⟩ (by repeat (first | exact Sub.nil | refine Sub.cons rfl ?_ | refine Sub.cons (congrArg (fun z => some (Value.int IntKind.i64 z)) (by omega)) ?_)) (cat_perm (ls' := [K0, K1, [(b8, _)], K, [(b3, _)], Bm]) (ls := [[(b8, _)], K, K0, K1, [(b3, _)], Bm]) (by repeat (first | exact PermM.nil | refine PermM.cons (by repeat (first | exact Ins.here | apply Ins.there)) ?_))) ?_
                        clear h0 h1
                        clear K0 K1
                        rintro _ _ _ ⟨j, K0, K1, hj2, h0, h1, rfl, rfl, rfl⟩
                        refine cg_seq ?_
                        refine cg_region ?_
                        refine rg_split (.inl rfl) rfl rfl (by exact qc_lss rfl rfl) ?_ ?_
                        · intro hj
                          have hjl : j < 2 := by omega
                          refine rg_nil ?_
                          refine qg_then ?_
                          refine cg_seq ?_
                          refine cg_true rfl ?_
                          refine cg_skip ?_
                          refine qg_then ?_
                          refine cg_seq ?_
                          refine cg_block ?_
                          refine cg_seq ?_
                          refine cg_region ?_
                          refine rg_q (.inl rfl) rfl rfl (by exact QW.qr (qw_move rfl)) ?_
                          refine rg_q (.inl rfl) rfl rfl (by exact QW.qr (qw_assign rfl)) ?_
                          refine rg_nil ?_
                          refine qg_then ?_
                          refine cg_draw follows (.op 0 false (.op 1 false (.op 2 false (.op 3 false (.op 4 false (.op 5 false (.op 6 false (.op 7 false (.op 8 false (.op 9 false (.op 10 false (.op 11 false .done)))))))))))) _ (by kernel_rfl) (SubP.of (List.Sublist.refl _)) ?_
                          refine dg_w rfl rfl (.inl rfl) rfl rfl (by exact qw_move rfl) ?_
                          refine dg_w rfl rfl (.inl rfl) rfl rfl (by exact qw_indexAddr_arr rfl rfl (by omega) (by omega)) ?_
                          refine dg_r rfl rfl rfl (.inl rfl) rfl rfl (by exact qr_load1' rfl (mem_cat (ls := [K0, K1, [(b8, _)], K, [(b3, _)], Bm]) (s := [(b3, _)]) (by repeat (first | exact List.Mem.head _ | apply List.Mem.tail)) (List.Mem.head _)) (arr_get b0 b1 j hjl)) ?_
                          refine dg_w rfl rfl (.inl rfl) rfl rfl (by exact qw_move rfl) ?_
                          refine dg_w rfl rfl (.inl rfl) rfl rfl (by exact qw_fieldAddr rfl) ?_
                          refine dg_w rfl rfl (.inl rfl) rfl rfl (by exact qw_indexAddr_arr rfl rfl (by omega) (by omega)) ?_
                          refine dg_r rfl rfl rfl (.inl rfl) rfl rfl (by exact qr_load1' rfl (mem_cat (ls := [K0, K1, [(b8, _)], K, [(b3, _)], Bm]) (s := [(b8, _)]) (by repeat (first | exact List.Mem.head _ | apply List.Mem.tail)) (List.Mem.head _)) (keep_get op j hjl)) ?_
                          refine dg_w rfl rfl (.inl rfl) rfl rfl (by exact qw_move rfl) ?_
                          refine dg_w rfl rfl (.inl rfl) rfl rfl (by exact qw_fieldAddr rfl) ?_
                          refine dg_w rfl rfl (.inl rfl) rfl rfl (by exact qw_indexAddr_arr rfl rfl (by omega) (by omega)) ?_
                          refine dg_r rfl rfl rfl (.inl rfl) rfl rfl (by exact qr_load1' rfl (mem_cat (ls := [K0, K1, [(b8, _)], K, [(b3, _)], Bm]) (s := [(b8, _)]) (by repeat (first | exact List.Mem.head _ | apply List.Mem.tail)) (List.Mem.head _)) (zeros_get op j hjl)) ?_
                          refine dg_g rfl rfl (.inl rfl) rfl rfl (by exact ev_call0 rfl (.cons rfl (.cons rfl (.cons rfl (.nil)))) (crashK_ca b0 b1 op s0 s1 K0 K1 j hjl O (cat [[(b8, _)], K, [(b3, .cells [PT b0, PT b1].toArray 48 (0, 0))], Bm] L) h0 h1 hz0 hz1)) ?_
                          rintro _ _ ⟨rfl, K02, K12, rfl, h02, h12⟩
                          refine dg_nil ?_
                          refine qg_block ?_
                          refine qg_then ?_
                          refine cg_region ?_
                          refine rg_q (.inl rfl) rfl rfl (by exact QW.qr (qw_add_in rfl rfl (by unfold inK; omega))) ?_
                          refine rg_q (.inl rfl) rfl rfl (by exact QW.qr (qw_move rfl)) ?_
                          refine rg_nil ?_
                          exact qg_round_sp _ _ _ ⟨j + 1, K02, K12, by omega, h02, h12, rfl, rfl, rfl⟩ (by repeat (first | exact Sub.nil | refine Sub.cons rfl ?_ | refine Sub.cons (congrArg (fun z => some (Value.int IntKind.i64 z)) (by omega)) ?_)) (SubP.of (List.Sublist.refl _)) (by omega)
                        · intro hj
                          obtain rfl : j = 2 := by omega
                          replace h0 : SlabAt b0 (crashS s0 op.k0 op.z0) K0 := h0
                          replace h1 : SlabAt b1 (crashS s1 op.k1 op.z1) K1 := h1
                          have hc0 := crash_size s0 op.k0 op.z0
                          have hc1 := crash_size s1 op.k1 op.z1
                          obtain ⟨l2, s02, s12, hres, hinv2, xh, hxh, hsame⟩ := lasts_open hinv hk50 op.k0 op.z0 op.k1 op.z1
                          refine rg_nil ?_
                          refine qg_then ?_
                          refine cg_seq ?_
                          refine cg_false rfl ?_
                          refine cg_exit ?_
                          refine qg_then_exit ?_
                          refine qg_then_exit ?_
                          refine qg_block_here ?_
                          refine qg_then ?_
                          refine cg_seq ?_
                          refine cg_region ?_
                          refine rg_q (.inl rfl) rfl rfl (by exact QW.qr (qw_indexAddr_arr rfl rfl (by decide) (by decide))) ?_
                          refine rg_q (.inl rfl) rfl rfl (by exact qr_load1 rfl (mem_cat (ls := [K0, K1, [(b8, _)], K, [(b3, _)], Bm]) (s := [(b3, _)]) (by repeat (first | exact List.Mem.head _ | apply List.Mem.tail)) (List.Mem.head _)) rfl) ?_
                          refine rg_q (.inl rfl) rfl rfl (by exact QW.qr (qw_indexAddr_arr rfl rfl (by decide) (by decide))) ?_
                          refine rg_q (.inl rfl) rfl rfl (by exact qr_load1 rfl (mem_cat (ls := [K0, K1, [(b8, _)], K, [(b3, _)], Bm]) (s := [(b3, _)]) (by repeat (first | exact List.Mem.head _ | apply List.Mem.tail)) (List.Mem.head _)) rfl) ?_
                          refine rg_e (.inl rfl) rfl rfl (by exact ev_call0 rfl (.cons rfl (.cons rfl (.nil))) (open3_ca b0 b1 O (cat [[(b8, _)], K, [(b3, .cells [PT b0, PT b1].toArray 48 (0, 0))], Bm] L) h0 h1 (by omega) (by omega) hres)) ?_
                          rintro _ _ ⟨bl2, K2, K02, K12, rfl, rfl, hl2, h02, h12⟩
                          refine rg_q (.inl rfl) rfl rfl (by exact QW.qr (qw_move rfl)) ?_
                          refine rg_q (.inl rfl) rfl rfl (by exact QW.qr (qw_extract rfl rfl)) ?_
                          refine rg_q (.inl rfl) rfl rfl (by exact QW.qr (qw_extract rfl rfl)) ?_
                          refine rg_q (.inl rfl) rfl rfl (by exact QW.qr (qw_assign rfl)) ?_
                          refine rg_q (.inl rfl) rfl rfl (by exact QW.qr (qw_assign rfl)) ?_
                          refine rg_nil ?_
                          refine qg_then ?_
                          refine cg_seq ?_
                          refine cg_seq ?_
                          refine cg_region ?_
                          refine rg_q (.inl rfl) rfl rfl (by exact QW.qr (qw_move rfl)) ?_
                          refine rg_q (.inl rfl) rfl rfl (by exact QW.qr (qw_eql_ptr (e := 70) rfl rfl)) ?_
                          refine rg_q (.inl rfl) rfl rfl (by exact QW.qr (qw_move rfl)) ?_
                          refine rg_q (.inr (guard_mk rfl rfl rfl rfl)) rfl rfl (by exact QW.qr (qw_move rfl)) ?_
                          refine rg_q (.inr (guard_mk rfl rfl rfl rfl)) rfl rfl (by exact QW.qr (qw_neq_f rfl rfl (fun h => h rfl))) ?_
                          refine rg_q (.inl rfl) rfl rfl (by exact QW.qr (qw_pick_f rfl rfl)) ?_
                          refine rg_nil ?_
                          refine qg_then ?_
                          refine cg_false rfl ?_
                          refine cg_skip ?_
                          refine qg_then ?_
                          refine cg_seq ?_
                          refine cg_region ?_
                          refine rg_q (.inl rfl) rfl rfl (by exact QW.qr (qw_move rfl)) ?_
                          refine rg_e (.inl rfl) rfl rfl (by exact ev_call0 rfl (.cons rfl (.nil)) (shot3_ca bl2 b0 b1 O (cat [K02, K12, [(b8, _)], K, [(b3, .cells [PT b0, PT b1].toArray 48 (0, 0))], Bm] L) hinv2 (by omega) hl2)) ?_
                          rintro _ _ ⟨rfl, rfl⟩
                          have hnow : shotF l2.has ∈ hs.map shotF := by
                            rw [SameG.shot hinv2.cg.nd (hinv.good xh hxh).nd hsame]
                            exact List.mem_map_of_mem hxh
                          have hml := hinv.len
                          generalize hM : hs.map shotF = M at hnow hqm
                          have hMl : M.length = hs.length := by rw [← hM, List.length_map]
                          refine rg_q (.inl rfl) rfl rfl (by exact QW.qr (qw_assign rfl)) ?_
                          refine rg_q (.inl rfl) rfl rfl (by exact QW.qr (qw_assign rfl)) ?_
                          refine rg_nil ?_
                          refine qg_then ?_
                          refine cg_seq ?_
                          refine cg_seq ?_
                          refine cg_region ?_
                          refine rg_q (.inl rfl) rfl rfl (by exact QW.qr (qw_move rfl)) ?_
                          refine rg_q (.inl rfl) rfl rfl (by exact QW.qr (qw_len_slice (t := 41) (.cons rfl (.nil)) rfl)) ?_
                          refine rg_q (.inl rfl) rfl rfl (by exact QW.qr (qw_move rfl)) ?_
                          refine rg_nil ?_
                          refine qg_then ?_
                          refine cg_block ?_
                          refine cg_loop (fun E' L' m => ∃ (j : Nat), j ≤ M.length ∧ E' = [(3, PT b3), (4, PT bl), (6, .slice pm M.length cm), (42, .slice (some ⟨bo, oo, none⟩) ops.length co), (43, .int .i64 ops.length), (44, .int .i64 k), (12, PT bl2), (14, encStr (shotF l2.has)), (15, .bool (decide (shotF l2.has ∈ M.take j))), (153, .slice pm M.length cm), (154, .int .i64 M.length), (155, .int .i64 j)] ∧ L' = cat [K2, K02, K12, [(b8, .cells (encOp op).toArray 33 (0, 0))], K, [(b3, .cells [PT b0, PT b1].toArray 48 (0, 0))], Bm] L ∧ m = M.length - j)
                            _ _ _ ⟨0, by omega, rfl, rfl, rfl⟩ (by repeat (first | exact Sub.nil | refine Sub.cons rfl ?_ | refine Sub.cons (congrArg (fun z => some (Value.int IntKind.i64 z)) (by omega)) ?_)) (List.Perm.refl _) ?_
                          rintro _ _ _ ⟨j, hjM, rfl, rfl, rfl⟩
                          refine cg_seq ?_
                          refine cg_region ?_
                          refine rg_split (.inl rfl) rfl rfl (by exact qc_lss rfl rfl) ?_ ?_
                          · intro hjm
                            have hjml : j < M.length := by omega
                            obtain ⟨bq, oq, Aq, tq, fq, rfl, hmq, hsegq⟩ := hqm.2.2.2 (by omega)
                            have hgq : Aq[oq + (j : Int).toNat * 1]? = some (encStr M[j]) := (hsegq.elem (enc := encN) (k := 1) (fun _ => rfl) hjml).get (i := 0) rfl
                            have htk := List.take_succ_eq_append_getElem hjml
                            generalize M[j] = xm at hgq htk
                            have htake : shotF l2.has ∈ M.take j → shotF l2.has ∈ M.take (j + 1) := fun h => by rw [htk]; exact List.mem_append_left _ h
                            have hstep : ¬ shotF l2.has ∈ M.take j → decide (xm = shotF l2.has) = decide (shotF l2.has ∈ M.take (j + 1)) := fun h => by
                              rw [htk]
                              refine decide_eq_decide.2 ⟨fun h2 => ?_, fun h2 => ?_⟩
                              · rw [h2]; exact List.mem_append_right _ (List.mem_cons_self)
                              · rcases List.mem_append.1 h2 with h3 | h3
                                · exact absurd h3 h
                                · have : shotF l2.has = xm := by simpa using h3
                                  exact this.symm
                            refine rg_nil ?_
                            refine qg_then ?_
                            refine cg_seq ?_
                            refine cg_true rfl ?_
                            refine cg_skip ?_
                            refine qg_then ?_
                            refine cg_seq ?_
                            refine cg_block ?_
                            refine cg_seq ?_
                            refine cg_region ?_
                            refine rg_q (.inl rfl) rfl rfl (by exact QW.qr (qw_indexAddr rfl rfl (by omega) (by omega))) ?_
                            refine rg_q (.inl rfl) rfl rfl (by exact qr_load1' rfl (mem_cat (ls := [K2, K02, K12, [(b8, _)], K, [(b3, _)], Bm]) (s := Bm) (by repeat (first | exact List.Mem.head _ | apply List.Mem.tail)) hmq) hgq) ?_
                            refine rg_q (.inl rfl) rfl rfl (by exact QW.qr (qw_assign rfl)) ?_
                            refine rg_nil ?_
                            refine qg_then ?_
                            by_cases hb : shotF l2.has ∈ M.take j
                            · skip
                              rw [decide_eq_true hb]
                              refine cg_region ?_
                              refine rg_q (.inl rfl) rfl rfl (by exact QW.qr (qw_move rfl)) ?_
                              refine rg_q (.inl rfl) rfl rfl (by exact QW.qr (qw_move rfl)) ?_
                              refine rg_s (guard_mk rfl rfl rfl rfl) rfl rfl ?_
                              refine rg_s (guard_mk rfl rfl rfl rfl) rfl rfl ?_
                              refine rg_s (guard_mk rfl rfl rfl rfl) rfl rfl ?_
                              refine rg_q (.inl rfl) rfl rfl (by exact QW.qr (qw_pick_t rfl rfl)) ?_
                              refine rg_q (.inl rfl) rfl rfl (by exact QW.qr (qw_assign rfl)) ?_
                              refine rg_nil ?_
                              refine qg_block ?_
                              refine qg_then ?_
                              refine cg_region ?_
                              refine rg_q (.inl rfl) rfl rfl (by exact QW.qr (qw_add_in rfl rfl (by unfold inK; omega))) ?_
                              refine rg_q (.inl rfl) rfl rfl (by exact QW.qr (qw_move rfl)) ?_
                              refine rg_nil ?_
                              rw [show (Value.bool true) = .bool (decide (shotF l2.has ∈ M.take (j + 1))) from by rw [decide_eq_true (htake hb)]]
                              exact qg_round_sp _ _ _ ⟨j + 1, by omega, rfl, rfl, rfl⟩ (by repeat (first | exact Sub.nil | refine Sub.cons rfl ?_ | refine Sub.cons (congrArg (fun z => some (Value.int IntKind.i64 z)) (by omega)) ?_)) (SubP.of (List.Sublist.refl _)) (by omega)
                            · skip
                              rw [decide_eq_false hb]
                              refine cg_region ?_
                              refine rg_q (.inl rfl) rfl rfl (by exact QW.qr (qw_move rfl)) ?_
                              refine rg_q (.inl rfl) rfl rfl (by exact QW.qr (qw_move rfl)) ?_
                              refine rg_q (.inr (guard_mk rfl rfl rfl rfl)) rfl rfl (by exact QW.qr (qw_move rfl)) ?_
                              refine rg_q (.inr (guard_mk rfl rfl rfl rfl)) rfl rfl (by exact QW.qr (qw_move rfl)) ?_
                              refine rg_q (.inr (guard_mk rfl rfl rfl rfl)) rfl rfl (by exact QW.qr (qw_eql_str rfl rfl)) ?_
                              refine rg_q (.inl rfl) rfl rfl (by exact QW.qr (qw_pick_f rfl rfl)) ?_
                              refine rg_q (.inl rfl) rfl rfl (by exact QW.qr (qw_assign rfl)) ?_
                              refine rg_nil ?_
                              refine qg_block ?_
                              refine qg_then ?_
                              refine cg_region ?_
                              refine rg_q (.inl rfl) rfl rfl (by exact QW.qr (qw_add_in rfl rfl (by unfold inK; omega))) ?_
                              refine rg_q (.inl rfl) rfl rfl (by exact QW.qr (qw_move rfl)) ?_
                              refine rg_nil ?_
                              rw [show decide (xm = shotF l2.has) = decide (shotF l2.has ∈ M.take (j + 1)) from (hstep hb)]
                              exact qg_round_sp _ _ _ ⟨j + 1, by omega, rfl, rfl, rfl⟩ (by repeat (first | exact Sub.nil | refine Sub.cons rfl ?_ | refine Sub.cons (congrArg (fun z => some (Value.int IntKind.i64 z)) (by omega)) ?_)) (SubP.of (List.Sublist.refl _)) (by omega)
                          · intro hjm
                            obtain rfl : j = M.length := by omega
                            rw [show decide (shotF l2.has ∈ M.take M.length) = true from by rw [List.take_length]; exact decide_eq_true hnow]
                            refine rg_nil ?_
                            refine qg_then ?_
                            refine cg_seq ?_
                            refine cg_false rfl ?_
                            refine cg_exit ?_
                            refine qg_then_exit ?_
                            refine qg_then_exit ?_
                            refine qg_block_here ?_
                            refine qg_then ?_
                            refine cg_seq ?_
                            refine cg_seq ?_
                            refine cg_region ?_
                            refine rg_q (.inl rfl) rfl rfl (by exact QW.qr (qw_move rfl)) ?_
                            refine rg_q (.inl rfl) rfl rfl (by exact QW.qr (qw_not rfl)) ?_
                            refine rg_q (.inl rfl) rfl rfl (by exact QW.qr (qw_move rfl)) ?_
                            refine rg_q (.inr (guard_mk rfl rfl rfl rfl)) rfl rfl (by exact QW.qr (qw_move rfl)) ?_
                            refine rg_e (.inr (guard_mk rfl rfl rfl rfl)) rfl rfl (by exact ev_call0 rfl (.cons rfl (.nil)) (life_in bl2 b0 b1 l2 K2 O _ hl2 (fun q hq => mem_cat (ls := [K2, K02, K12, [(b8, _)], K, [(b3, _)], Bm]) (s := K2) (by repeat (first | exact List.Mem.head _ | apply List.Mem.tail)) hq))) ?_
                            rintro _ _ ⟨rfl, rfl⟩
                            refine rg_q (.inr (guard_mk rfl rfl rfl rfl)) rfl rfl (by exact QW.qr (qw_leq_f rfl rfl (by have := hinv2.life1; omega))) ?_
                            refine rg_q (.inl rfl) rfl rfl (by exact QW.qr (qw_pick_f rfl rfl)) ?_
                            refine rg_nil ?_
                            refine qg_then ?_
                            refine cg_false rfl ?_
                            refine cg_skip ?_
                            refine qg_then ?_
                            refine cg_region ?_
                            refine rg_q (.inl rfl) rfl rfl (by exact QW.qr (qw_move rfl)) ?_
                            refine rg_q (.inl rfl) rfl rfl (by exact QW.qr (qw_move rfl)) ?_
                            refine rg_e (.inl rfl) rfl rfl (by exact ev_buildSlice (.cons rfl (.nil)) rfl (by first | exact CellsOf.agg | exact CellsOf.one rfl) (by rfl) (.cons rfl (by first | exact CellsOf.agg | exact CellsOf.one rfl) (by repeat (first | exact SetSeg.done | apply SetSeg.take | apply SetSeg.skip)) (by rfl) (by rfl) (.nil))) ?_
                            rintro _ _ ⟨b175, rfl, rfl⟩
                            refine rg_q (.inl rfl) rfl rfl (by exact QW.qr (qw_assign rfl)) ?_
                            refine rg_q (.inl rfl) rfl rfl (by exact QW.qr (qw_assign rfl)) ?_
                            refine rg_nil ?_
                            refine qg_block ?_
                            refine qg_block ?_
                            exact qg_cut_sp _ _ ⟨l2, s02, s12, [l2.has], bl2, K2, K02, K12, _, [(b175, _)], by omega, hinv2, hl2, h02, h12, own1 b175 _, rfl, rfl⟩ (by repeat (first | exact Sub.nil | refine Sub.cons rfl ?_ | refine Sub.cons (congrArg (fun z => some (Value.int IntKind.i64 z)) (by omega)) ?_)) (cat_sub (ls' := [K2, K02, K12, [(b3, _)], [(b175, _)]]) (ls := [[(b175, _)], K2, K02, K12, [(b8, _)], K, [(b3, _)], Bm]) (by repeat (first | exact SubM.nil | refine SubM.cons (by repeat (first | exact Ins.here | apply Ins.there)) ?_)))
                      · intro k5
                        refine rg_q (.inl rfl) rfl rfl (by exact QW.qr (qw_assign rfl)) ?_
                        refine rg_nil ?_
                        refine qg_then ?_
                        refine cg_false rfl ?_
                        refine cg_skip ?_
                        refine qg_block ?_
                        refine qg_block ?_
                        exact qg_cut_sp _ _ ⟨l, s0, s1, hs, bl, K, K0, K1, _, Bm, by omega, hinv.mono (by omega), hl, h0, h1, hom, rfl, rfl⟩ (by repeat (first | exact Sub.nil | refine Sub.cons rfl ?_ | refine Sub.cons (congrArg (fun z => some (Value.int IntKind.i64 z)) (by omega)) ?_)) (cat_sub (ls' := [K, K0, K1, [(b3, _)], Bm]) (ls := [[(b8, _)], K, K0, K1, [(b3, _)], Bm]) (by repeat (first | exact SubM.nil | refine SubM.cons (by repeat (first | exact Ins.here | apply Ins.there)) ?_)))
          · skip
            rw [decide_eq_false hfit]
            refine rg_q (.inr (guard_mk rfl rfl rfl rfl)) rfl rfl (by exact QW.qr (qw_not rfl)) ?_
            refine rg_q (.inl rfl) rfl rfl (by exact QW.qr (qw_pick_f rfl rfl)) ?_
            refine rg_nil ?_
            refine qg_then ?_
            refine cg_true rfl ?_
            refine cg_exit ?_
            refine qg_then_exit ?_
            refine qg_block_on rfl ?_
            refine qg_then_exit ?_
            refine qg_then_exit ?_
            refine qg_block_here ?_
            refine qg_then ?_
            refine cg_seq ?_
            refine cg_region ?_
            refine rg_q (.inl rfl) rfl rfl (by exact QW.qr (qw_assign rfl)) ?_
            refine rg_nil ?_
            refine qg_then ?_
            refine cg_ret ?_
            exact qg_end_sp (.inl rfl) _ (.cons (.tmp rfl) (.nil)) _ (cat_sub (ls' := []) (ls := [[(b8, _)], K, K0, K1, [(b3, _)], Bm]) (by repeat (first | exact SubM.nil | refine SubM.cons (by repeat (first | exact Ins.here | apply Ins.there)) ?_))) ⟨rfl, rfl⟩
      · clear hl h0 h1 hinv hz0 hz1 hsz hop hom hqm
        clear pm cm hs K K0 K1 bl l s0 s1 Bm
        rintro _ _ ⟨l, s0, s1, hs, bl, K, K0, K1, mv, Bm, hk51, hinv, hl, h0, h1, hom, rfl, rfl⟩
        refine cg_region ?_
        refine rg_q (.inl rfl) rfl rfl (by exact QW.qr (qw_add_in rfl rfl (by unfold inK; omega))) ?_
        refine rg_q (.inl rfl) rfl rfl (by exact QW.qr (qw_move rfl)) ?_
        refine rg_nil ?_
        exact qg_round_sp _ _ _ ⟨k + 1, l, s0, s1, hs, bl, K, K0, K1, mv, Bm, by omega, by omega, hinv, hl, h0, h1, hom, rfl, rfl, rfl⟩ (by repeat (first | exact Sub.nil | refine Sub.cons rfl ?_ | refine Sub.cons (congrArg (fun z => some (Value.int IntKind.i64 z)) (by omega)) ?_)) (SubP.of (List.Sublist.refl _)) (by omega)
    · intro hlt
      refine rg_nil ?_
      refine qg_then ?_
      refine cg_seq ?_
      refine cg_false rfl ?_
      refine cg_exit ?_
      refine qg_then_exit ?_
      refine qg_then_exit ?_
      refine qg_block_here ?_
      refine qg_then ?_
      refine cg_seq ?_
      refine cg_region ?_
      refine rg_q (.inl rfl) rfl rfl (by exact QW.qr (qw_assign rfl)) ?_
      refine rg_nil ?_
      refine qg_then ?_
      refine cg_ret ?_
      exact qg_end_sp (.inl rfl) _ (.cons (.tmp rfl) (.nil)) _ (cat_sub (ls' := []) (ls := [K, K0, K1, [(b3, _)], Bm]) (by repeat (first | exact SubM.nil | refine SubM.cons (by repeat (first | exact Ins.here | apply Ins.there)) ?_))) ⟨rfl, rfl⟩

end Go.Proofs.Ytcbbogaanebefaa