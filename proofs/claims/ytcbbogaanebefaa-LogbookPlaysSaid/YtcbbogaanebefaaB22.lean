/-
  THE WALK of the law LogbookLives. Condition: none.
-/
import Derived.Test.YtcbbogaanebefaaB21
namespace Go.Proofs.Ytcbbogaanebefaa
open Fw
open Go.Proofs (encStr)
set_option linter.unusedVariables false
set_option linter.unusedSimpArgs false
set_option maxRecDepth 100000
set_option maxHeartbeats 2000000

theorem LbOk.of {l : Lb} {w : Nat} (h1 : l.at_ = 0 ∨ l.at_ = 1) (h2 : 0 ≤ l.life) (h3 : l.life ≤ 4294967295) (h4 : (l.has.map Prod.fst).Nodup) (h5 : KeptOk l.has) (h6 : weigh l.has ≤ w) : LbOk l w :=
  ⟨h1, ⟨h2, h3⟩, h4, fun e he => (h5 e.1 e.2 ((getG_some h4).2 he)).1, h6⟩
section
variable (bl b0 b1 : Nat) {l : Lb} {s0 s1 : Slab} {K K0 K1 : List Blk} {l2 : Lb} {s02 s12 : Slab} {e : Int} (O : Out) (F : List Blk) (hl : LbIn bl b0 b1 l K) (h0 : SlabAt b0 s0 K0) (h1 : SlabAt b1 s1 K1) (hz0 : sizeS s0 ≤ 300000) (hz1 : sizeS s1 ≤ 300000)
include hl h0 h1 hz0 hz1
theorem put3_ca (name val : Bytes) (vv : Value) (hv : RdL F encB 1 vv val) (hres : act2 (fun l s => putL l s name val) l s0 s1 = (l2, s02, s12, e)) : CA Try.prog 10 [PT bl, encStr name, vv] O (cat [K, K0, K1] F) fun v L' => v = I e ∧ ∃ K2 K02 K12, L' = cat [K2, K02, K12] F ∧ LbIn bl b0 b1 l2 K2 ∧ SlabAt b0 s02 K02 ∧ SlabAt b1 s12 K12 := by
  have h := put2_ca bl b0 b1 l s0 s1 K K0 K1 O F hl h0 h1 hz0 hz1 name val vv hv
  rw [hres] at h
  exact h
theorem drop3_ca (name : Bytes) (hn : hasG l.has name = true → name.length ≤ 100000) (hres : act2 (fun l s => dropL l s name) l s0 s1 = (l2, s02, s12, e)) : CA Try.prog 11 [PT bl, encStr name] O (cat [K, K0, K1] F) fun v L' => v = I e ∧ ∃ K2 K02 K12, L' = cat [K2, K02, K12] F ∧ LbIn bl b0 b1 l2 K2 ∧ SlabAt b0 s02 K02 ∧ SlabAt b1 s12 K12 := by
  have h := drop2_ca bl b0 b1 l s0 s1 K K0 K1 O F hl h0 h1 hz0 hz1 name hn
  rw [hres] at h
  exact h
theorem sync3_ca (hres : act2 syncL l s0 s1 = (l2, s02, s12, e)) : CA Try.prog 12 [PT bl] O (cat [K, K0, K1] F) fun v L' => v = I e ∧ ∃ K2 K02 K12, L' = cat [K2, K02, K12] F ∧ LbIn bl b0 b1 l2 K2 ∧ SlabAt b0 s02 K02 ∧ SlabAt b1 s12 K12 := by
  have h := sync2_ca bl b0 b1 l s0 s1 K K0 K1 O F hl h0 h1 hz0 hz1
  rw [hres] at h
  exact h
theorem compact3_ca (hok : LbOk l 300000) (hres : compact2 l s0 s1 = (l2, s02, s12, e)) : CA Try.prog 13 [PT bl] O (cat [K, K0, K1] F) fun v L' => v = I e ∧ ∃ K2 K02 K12, L' = cat [K2, K02, K12] F ∧ LbIn bl b0 b1 l2 K2 ∧ SlabAt b0 s02 K02 ∧ SlabAt b1 s12 K12 := by
  have h := compact2_ca bl b0 b1 l s0 s1 K K0 K1 300000 O F hl h0 h1 hz0 hz1 hok (by decide)
  rw [hres] at h
  exact h
end
theorem open3_ca (b0 b1 : Nat) {s0 s1 : Slab} {K0 K1 : List Blk} {l2 : Lb} {s02 s12 : Slab} (O : Out) (F : List Blk) (h0 : SlabAt b0 s0 K0) (h1 : SlabAt b1 s1 K1) (hz0 : sizeS s0 ≤ 300000) (hz1 : sizeS s1 ≤ 300000) (hres : openS s0 s1 = (l2, s02, s12, 0)) :
    CA Try.prog 8 [PT b0, PT b1] O (cat [K0, K1] F) fun v L' => ∃ bl K2 K02 K12, v = .tuple #[PT bl, I 0] ∧ L' = cat [K2, K02, K12] F ∧ LbIn bl b0 b1 l2 K2 ∧ SlabAt b0 s02 K02 ∧ SlabAt b1 s12 K12 := by
  have h := open_ca b0 b1 s0 s1 K0 K1 h0 h1 hz0 hz1 O F
  rw [hres] at h
  refine h.mono fun v L' h2 => ?_
  rcases h2 with ⟨he, _⟩ | ⟨_, bl, K2, K02, K12, h3⟩
  · exact absurd rfl he
  · exact ⟨bl, K2, K02, K12, h3⟩
theorem get3_ca (bl b0 b1 : Nat) {l : Lb} {K : List Blk} {name x : Bytes} (O : Out) (F : List Blk) (hl : LbIn bl b0 b1 l K) (hv : ∀ t ∈ l.has, t.2.length ≤ 1000000) (hg : getG l.has name = some x) :
    CA Try.prog 16 [PT bl, encStr name] O (cat [K] F) fun v L' => ∃ gv B, v = .tuple #[gv, .bool true] ∧ L' = B ++ cat [K] F ∧ RdL B encB 1 gv x := by
  have h := get_in bl b0 b1 l K name O F hl hv
  rw [hg] at h
  exact h
theorem name_get {has : Kept} {n : Bytes} (h : n ∈ namesOf has) : ∃ x, getG has n = some x := by
  have hm : n ∈ has.map Prod.fst := (namesOf_perm has).mem_iff.1 h
  cases hg : getG has n with
  | none => exact absurd hm (getG_none.1 hg)
  | some x => exact ⟨x, rfl⟩

theorem lives_ca (ops : List OpT) (sv : Value) (O : Out) (L : List Blk) (hs : RdW L encOp sv ops) (hn : ops.length < 9223372036854775808) :
    CA Try.prog 3 [sv] O L fun v L' => v = .bool true ∧ L' = L := by
  obtain ⟨po, co, rfl, hR⟩ := id hs
  refine ca_enter Try.func3 rfl rfl ?_
  rw [Try.ntmps3]
  simp only [envOf]
  refine cg_seq ?_
  refine cg_region ?_
  refine rg_q (.inl rfl) rfl rfl (by exact QW.qr (qw_assign rfl)) ?_
  refine rg_nil ?_
  refine qg_then ?_
  refine cg_seq ?_
  refine cg_region ?_
  refine rg_e (.inl rfl) rfl rfl (by exact ev_call0 rfl (.nil) (new_ca O _)) ?_
  rintro _ _ ⟨b0, Ka, rfl, rfl, ha⟩
  refine rg_e (.inl rfl) rfl rfl (by exact ev_call0 rfl (.nil) (new_ca O _)) ?_
  rintro _ _ ⟨b1, Kb, rfl, rfl, hb⟩
  refine rg_q (.inl rfl) rfl rfl (by exact QW.qr (qw_assign rfl)) ?_
  refine rg_q (.inl rfl) rfl rfl (by exact QW.qr (qw_assign rfl)) ?_
  refine rg_nil ?_
  refine qg_then ?_
  refine cg_seq ?_
  refine cg_region ?_
  refine rg_q (.inl rfl) rfl rfl (by exact QW.qr (qw_move rfl)) ?_
  refine rg_q (.inl rfl) rfl rfl (by exact QW.qr (qw_move rfl)) ?_
  refine rg_e (.inl rfl) rfl rfl (by exact ev_call0 rfl (.cons rfl (.cons rfl (.nil))) ((open3_ca b0 b1 O L ha hb (by decide) (by decide) aw_open).pre (fun w h => h.perm (cat_perm (ls' := [Ka, Kb]) (ls := [Kb, Ka]) (by repeat (first | exact PermM.nil | refine PermM.cons (by repeat (first | exact Ins.here | apply Ins.there)) ?_)))))) ?_
  rintro _ _ ⟨bl, K2, K02, K12, rfl, rfl, hl2, h02, h12⟩
  refine rg_q (.inl rfl) rfl rfl (by exact QW.qr (qw_move rfl)) ?_
  refine rg_q (.inl rfl) rfl rfl (by exact QW.qr (qw_extract rfl rfl)) ?_
  refine rg_q (.inl rfl) rfl rfl (by exact QW.qr (qw_extract rfl rfl)) ?_
  refine rg_q (.inl rfl) rfl rfl (by exact QW.qr (qw_assign rfl)) ?_
  refine rg_q (.inl rfl) rfl rfl (by exact QW.qr (qw_assign rfl)) ?_
  refine rg_nil ?_
  refine qg_then ?_
  refine cg_seq ?_
  refine cg_seq ?_
  refine cg_region ?_
  refine rg_q (.inl rfl) rfl rfl (by exact QW.qr (qw_move rfl)) ?_
  refine rg_q (.inl rfl) rfl rfl (by exact QW.qr (qw_eql_ptr (e := 70) rfl rfl)) ?_
  refine rg_q (.inl rfl) rfl rfl (by exact QW.qr (qw_move rfl)) ?_
  refine rg_q (.inr (guard_mk rfl rfl rfl rfl)) rfl rfl (by exact QW.qr (qw_move rfl)) ?_
  refine rg_q (.inr (guard_mk rfl rfl rfl rfl)) rfl rfl (by exact QW.qr (qw_neq_f rfl rfl (fun h => h rfl))) ?_
  refine rg_q (.inl rfl) rfl rfl (by exact QW.qr (qw_pick_f rfl rfl)) ?_
  refine rg_nil ?_
  refine qg_then ?_
  refine cg_false rfl ?_
  refine cg_skip ?_
  refine qg_then ?_
  refine cg_seq ?_
  refine cg_region ?_
  refine rg_e (.inl rfl) rfl rfl (by exact ev_makeMap0) ?_
  rintro _ _ ⟨b33, rfl, rfl⟩
  refine rg_q (.inl rfl) rfl rfl (by exact QW.qr (qw_assign rfl)) ?_
  refine rg_nil ?_
  refine qg_then ?_
  refine cg_seq ?_
  refine cg_region ?_
  refine rg_q (.inl rfl) rfl rfl (by exact QW.qr (qw_assign rfl)) ?_
  refine rg_nil ?_
  refine qg_then ?_
  refine cg_seq ?_
  refine cg_seq ?_
  refine cg_region ?_
  refine rg_q (.inl rfl) rfl rfl (by exact QW.qr (qw_move rfl)) ?_
  refine rg_q (.inl rfl) rfl rfl (by exact QW.qr (qw_len_slice (t := 22) (.cons rfl (.nil)) rfl)) ?_
  refine rg_q (.inl rfl) rfl rfl (by exact QW.qr (qw_move rfl)) ?_
  refine rg_nil ?_
  refine qg_then ?_
  refine cg_block ?_
  refine cg_loop (fun E' L' m => ∃ (k : Nat) (l : Lb) (s0 s1 : Slab) (bl : Nat) (K K0 K1 : List Blk) (es : Array MapEntry) (c : Nat) (H : Kept), k ≤ 40 ∧ k ≤ ops.length ∧ Inv k l s0 s1 ∧ LbIn bl b0 b1 l K ∧ SlabAt b0 s0 K0 ∧ SlabAt b1 s1 K1 ∧ MapS es c encStr H ∧ SameG H l.has ∧
    E' = [(3, PT b0), (4, PT b1), (5, PT bl), (7, .map (some b33)), (8, U32 l.life), (34, .slice po ops.length co), (35, .int .i64 ops.length), (36, .int .i64 k)] ∧ L' = cat [K, K0, K1, [(b33, .map es c)]] L ∧ m = ops.length - k)
    _ _ _ ⟨0, ⟨0, 1, [], 0⟩, sA1, newS, bl, K2, K02, K12, #[], 0, [], by omega, by omega, lives_start, hl2, h02, h12, MapS.nil, SameG.rfl' _, rfl, rfl, rfl⟩ (by repeat (first | exact Sub.nil | refine Sub.cons rfl ?_ | refine Sub.cons (congrArg (fun z => some (Value.int IntKind.i64 z)) (by omega)) ?_)) (cat_perm (ls' := [K2, K02, K12, [(b33, _)]]) (ls := [[(b33, _)], K2, K02, K12]) (by repeat (first | exact PermM.nil | refine PermM.cons (by repeat (first | exact Ins.here | apply Ins.there)) ?_))) ?_
  clear hl2 h02 h12 ha hb
  clear K2 K02 K12 bl
  rintro _ _ _ ⟨k, l, s0, s1, bl, K, K0, K1, es, c, H, hk40, hkn, hinv, hl, h0, h1, hms, hsame, rfl, rfl, rfl⟩
  refine cg_seq ?_
  refine cg_region ?_
  refine rg_split (.inl rfl) rfl rfl (by exact qc_lss rfl rfl) ?_ ?_
  · intro hlt
    have hklt : k < ops.length := by omega
    obtain ⟨bo, oo, Ao, to, fo, rfl, hmo, hsego⟩ := hR (by omega)
    have hop := hsego.elem (enc := encOp) (k := 9) (fun _ => rfl) hklt
    generalize ops[k] = op at hop
    unfold encOp at hop
    have hi1 := hinv.life1
    have hi2 := hinv.life2
    have hz0 : sizeS s0 ≤ 300000 := by have := hinv.z0; omega
    have hz1 : sizeS s1 ≤ 300000 := by have := hinv.z1; omega
    refine rg_nil ?_
    refine qg_then ?_
    refine cg_seq ?_
    refine cg_true rfl ?_
    refine cg_skip ?_
    refine qg_then ?_
    refine cg_seq ?_
    refine cg_block ?_
    refine cg_seq ?_
    refine cg_region ?_
    refine rg_q (.inl rfl) rfl rfl (by exact QW.qr (qw_move rfl)) ?_
    refine rg_q (.inl rfl) rfl rfl (by exact QW.qr (qw_indexAddr rfl rfl (by omega) (by omega))) ?_
    refine rg_q (.inl rfl) rfl rfl (by exact qr_loadS rfl (mem_catF hmo) hop rfl) ?_
    refine rg_e (.inl rfl) rfl rfl (by exact ev_alloc (by first | exact CellsOf.agg | exact CellsOf.one rfl)) ?_
    rintro _ _ ⟨b10, rfl, rfl⟩
    refine rg_q (.inl rfl) rfl rfl (by exact QW.qr (qw_assign rfl)) ?_
    refine rg_e0 (.inl rfl) rfl (by exact ev_store rfl rfl (by first | exact CellsOf.agg | exact CellsOf.one rfl) (by repeat (first | exact List.Mem.head _ | apply List.Mem.tail | apply List.mem_append_right | assumption)) (by repeat (first | exact SetSeg.done | apply SetSeg.take | apply SetSeg.skip)) rfl rfl (by repeat (first | exact Upd.here | apply Upd.there | apply Upd.app)) (by first | exact Or.inl ⟨inferInstance, rfl⟩ | exact Or.inr inferInstance)) ?_
    rintro _ _ ⟨rfl, rfl⟩
    refine rg_nil ?_
    refine qg_then ?_
    refine cg_seq ?_
    refine cg_seq ?_
    refine cg_region ?_
    refine rg_q (.inl rfl) rfl rfl (by exact QW.qr (qw_move rfl)) ?_
    refine rg_split (.inl rfl) rfl rfl (by exact qc_geq rfl rfl) ?_ ?_
    · intro hge
      refine rg_q (.inl rfl) rfl rfl (by exact QW.qr (qw_move rfl)) ?_
      refine rg_s (guard_mk rfl rfl rfl rfl) rfl rfl ?_
      refine rg_s (guard_mk rfl rfl rfl rfl) rfl rfl ?_
      refine rg_s (guard_mk rfl rfl rfl rfl) rfl rfl ?_
      refine rg_q (.inl rfl) rfl rfl (by exact QW.qr (qw_pick_t rfl rfl)) ?_
      refine rg_nil ?_
      refine qg_then ?_
      refine cg_true rfl ?_
      refine cg_exit ?_
      refine qg_then_exit ?_
      refine qg_block_on rfl ?_
      refine qg_then_exit ?_
      refine qg_then_exit ?_
      refine qg_block_here ?_
      refine qg_then ?_
      refine cg_seq ?_
      refine cg_region ?_
      refine rg_e (.inl rfl) rfl rfl (by exact ev_call0 rfl (.nil) (awake_ca O _)) ?_
      rintro _ _ ⟨rfl, rfl⟩
      refine rg_q (.inl rfl) rfl rfl (by exact QW.qr (qw_assign rfl)) ?_
      refine rg_nil ?_
      refine qg_then ?_
      refine cg_ret ?_
      exact qg_end_sp (.inl rfl) _ (.cons (.tmp rfl) (.nil)) _ (cat_sub (ls' := []) (ls := [[(b10, _)], K, K0, K1, [(b33, _)]]) (by repeat (first | exact SubM.nil | refine SubM.cons (by repeat (first | exact Ins.here | apply Ins.there)) ?_))) ⟨rfl, rfl⟩
    · intro hge
      refine rg_q (.inl rfl) rfl rfl (by exact QW.qr (qw_move rfl)) ?_
      refine rg_q (.inr (guard_mk rfl rfl rfl rfl)) rfl rfl (by exact qr_loadN rfl (by repeat (first | exact List.Mem.head _ | apply List.Mem.tail | apply List.mem_append_right | assumption)) (by repeat (first | exact SegL.done | apply SegL.take | apply SegL.skip))) ?_
      refine rg_e (.inr (guard_mk rfl rfl rfl rfl)) rfl rfl (by exact ev_call0 rfl (.cons rfl (.nil)) (fits_ca op O _)) ?_
      rintro _ _ ⟨rfl, rfl⟩
      by_cases hfit : fitsO op
      · skip
        rw [decide_eq_true hfit]
        refine rg_q (.inr (guard_mk rfl rfl rfl rfl)) rfl rfl (by exact QW.qr (qw_not rfl)) ?_
        refine rg_q (.inl rfl) rfl rfl (by exact QW.qr (qw_pick_f rfl rfl)) ?_
        refine rg_nil ?_
        refine qg_then ?_
        refine cg_false rfl ?_
        refine cg_skip ?_
        refine qg_then ?_
        refine cg_cut (fun E' L' => ∃ (l : Lb) (s0 s1 : Slab) (bl : Nat) (K K0 K1 : List Blk) (es : Array MapEntry) (c : Nat) (H : Kept), Inv (k + 1) l s0 s1 ∧ LbIn bl b0 b1 l K ∧ SlabAt b0 s0 K0 ∧ SlabAt b1 s1 K1 ∧ MapS es c encStr H ∧ SameG H l.has ∧
          E' = [(3, PT b0), (4, PT b1), (5, PT bl), (7, .map (some b33)), (8, U32 l.life), (34, .slice (some ⟨bo, oo, none⟩) ops.length co), (35, .int .i64 ops.length), (36, .int .i64 k)] ∧ L' = cat [K, K0, K1, [(b33, .map es c)]] L) ?_ ?_
        · -- the first part
          refine cg_seq ?_
          refine cg_region ?_
          refine rg_q (.inl rfl) rfl rfl (by exact QW.qr (qw_fieldAddr rfl)) ?_
          refine rg_q (.inl rfl) rfl rfl (by exact qr_load1 rfl (by repeat (first | exact List.Mem.head _ | apply List.Mem.tail | apply List.mem_append_right | assumption)) rfl) ?_
          refine rg_nil ?_
          refine qg_then ?_
          refine cg_block ?_
          refine cg_seq ?_
          refine cg_region ?_
          refine rg_split (.inl rfl) rfl rfl (by exact qc_eql rfl rfl) ?_ ?_
          · intro k0
            refine rg_q (.inl rfl) rfl rfl (by exact QW.qr (qw_assign rfl)) ?_
            refine rg_nil ?_
            refine qg_then ?_
            refine cg_true rfl ?_
            refine cg_seq ?_
            refine cg_region ?_
            refine rg_q (.inl rfl) rfl rfl (by exact QW.qr (qw_move rfl)) ?_
            refine rg_q (.inl rfl) rfl rfl (by exact QW.qr (qw_fieldAddr rfl)) ?_
            refine rg_q (.inl rfl) rfl rfl (by exact qr_load1 rfl (by repeat (first | exact List.Mem.head _ | apply List.Mem.tail | apply List.mem_append_right | assumption)) rfl) ?_
            refine rg_q (.inl rfl) rfl rfl (by exact QW.qr (qw_fieldAddr rfl)) ?_
            refine rg_q (.inl rfl) rfl rfl (by exact qr_load1 rfl (by repeat (first | exact List.Mem.head _ | apply List.Mem.tail | apply List.mem_append_right | assumption)) rfl) ?_
            refine rg_e (.inl rfl) rfl rfl (by exact ev_strToBytes (s := ⟨op.value.toArray⟩) rfl) ?_
            rintro vv _ ⟨Bv, hvv, rfl⟩
            replace hvv : RdL Bv encB 1 vv op.value := hvv
            obtain ⟨l2, s02, s12, e, hres, hinv2, hlife, hcase⟩ := lives_put hinv hk40 op.name op.value
            refine rg_e (.inl rfl) rfl rfl (by exact ev_call0 rfl (.cons rfl (.cons rfl (.cons rfl (.nil)))) ((put3_ca bl b0 b1 O (cat [Bv, [(b10, _)], [(b33, _)]] L) hl h0 h1 hz0 hz1 op.name op.value vv (hvv.mono (fun q hq => mem_cat (s := Bv) (by repeat (first | exact List.Mem.head _ | apply List.Mem.tail)) hq)) hres).pre (fun w h => h.perm (cat_perm (ls' := [K, K0, K1, Bv, [(b10, _)], [(b33, _)]]) (ls := [Bv, [(b10, _)], K, K0, K1, [(b33, _)]]) (by repeat (first | exact PermM.nil | refine PermM.cons (by repeat (first | exact Ins.here | apply Ins.there)) ?_)))))) ?_
            rintro _ _ ⟨rfl, K2, K02, K12, rfl, hl2, h02, h12⟩
            refine rg_split (.inl rfl) rfl rfl (by exact qc_eql rfl rfl) ?_ ?_
            · intro he
              refine rg_nil ?_
              refine qg_then ?_
              refine cg_true rfl ?_
              refine cg_region ?_
              refine rg_q (.inl rfl) rfl rfl (by exact QW.qr (qw_move rfl)) ?_
              refine rg_q (.inl rfl) rfl rfl (by exact QW.qr (qw_fieldAddr rfl)) ?_
              refine rg_q (.inl rfl) rfl rfl (by exact qr_load1 rfl (by repeat (first | exact List.Mem.head _ | apply List.Mem.tail | apply List.mem_append_right | assumption)) rfl) ?_
              refine rg_q (.inl rfl) rfl rfl (by exact QW.qr (qw_fieldAddr rfl)) ?_
              refine rg_q (.inl rfl) rfl rfl (by exact qr_load1 rfl (by repeat (first | exact List.Mem.head _ | apply List.Mem.tail | apply List.mem_append_right | assumption)) rfl) ?_
              refine rg_e0 (.inl rfl) rfl (by exact ev_mapUpdateS (t := op.value) (L' := fun es c => cat [K2, K02, K12, Bv, [(b10, _)], [(b33, .map es c)]] L) rfl rfl rfl hms (fun _ _ => (by repeat (first | exact Upd.here | apply Upd.there | apply Upd.app)))) ?_
              rintro _ _ ⟨rfl, es2, c2, rfl, hms2⟩
              refine rg_nil ?_
              refine qg_block ?_
              have hh2 : l2.has = putG l.has op.name op.value := hcase.elim (·.2) (fun h => absurd he h.1)
              rw [show U32 l.life = U32 l2.life from by rw [hlife]]
              exact qg_cut_sp _ _ ⟨l2, s02, s12, bl, K2, K02, K12, es2, c2, _, hinv2, hl2, h02, h12, hms2, (by rw [hh2]; exact hsame.put _ _), rfl, rfl⟩ (by repeat (first | exact Sub.nil | refine Sub.cons rfl ?_ | refine Sub.cons (congrArg (fun z => some (Value.int IntKind.i64 z)) (by omega)) ?_)) (cat_sub (ls' := [K2, K02, K12, [(b33, _)]]) (ls := [K2, K02, K12, Bv, [(b10, _)], [(b33, _)]]) (by repeat (first | exact SubM.nil | refine SubM.cons (by repeat (first | exact Ins.here | apply Ins.there)) ?_)))
            · intro he
              refine rg_nil ?_
              refine qg_then ?_
              refine cg_false rfl ?_
              refine cg_skip ?_
              refine qg_block ?_
              have hh2 : l2.has = l.has := hcase.elim (fun h => absurd h.1 he) (·.2)
              rw [show U32 l.life = U32 l2.life from by rw [hlife]]
              exact qg_cut_sp _ _ ⟨l2, s02, s12, bl, K2, K02, K12, es, c, _, hinv2, hl2, h02, h12, hms, (by rw [hh2]; exact hsame), rfl, rfl⟩ (by repeat (first | exact Sub.nil | refine Sub.cons rfl ?_ | refine Sub.cons (congrArg (fun z => some (Value.int IntKind.i64 z)) (by omega)) ?_)) (cat_sub (ls' := [K2, K02, K12, [(b33, _)]]) (ls := [K2, K02, K12, Bv, [(b10, _)], [(b33, _)]]) (by repeat (first | exact SubM.nil | refine SubM.cons (by repeat (first | exact Ins.here | apply Ins.there)) ?_)))
          · intro k0
            refine rg_q (.inl rfl) rfl rfl (by exact QW.qr (qw_assign rfl)) ?_
            refine rg_nil ?_
            refine qg_then ?_
            refine cg_false rfl ?_
            refine cg_seq ?_
            refine cg_region ?_
            refine rg_split (.inl rfl) rfl rfl (by exact qc_eql rfl rfl) ?_ ?_
            · intro k1
              refine rg_q (.inl rfl) rfl rfl (by exact QW.qr (qw_assign rfl)) ?_
              refine rg_nil ?_
              refine qg_then ?_
              refine cg_true rfl ?_
              refine cg_seq ?_
              refine cg_region ?_
              refine rg_q (.inl rfl) rfl rfl (by exact QW.qr (qw_move rfl)) ?_
              refine rg_q (.inl rfl) rfl rfl (by exact QW.qr (qw_fieldAddr rfl)) ?_
              refine rg_q (.inl rfl) rfl rfl (by exact qr_load1 rfl (by repeat (first | exact List.Mem.head _ | apply List.Mem.tail | apply List.mem_append_right | assumption)) rfl) ?_
              refine rg_q (.inl rfl) rfl rfl (by exact qr_lookupS2 (ms := H) rfl rfl (by repeat (first | exact List.Mem.head _ | apply List.Mem.tail | apply List.mem_append_right | assumption)) hms) ?_
              refine rg_q (.inl rfl) rfl rfl (by exact QW.qr (qw_move rfl)) ?_
              refine rg_q (.inl rfl) rfl rfl (by exact QW.qr (qw_extract rfl rfl)) ?_
              refine rg_q (.inl rfl) rfl rfl (by exact QW.qr (qw_extract rfl rfl)) ?_
              refine rg_q (.inl rfl) rfl rfl (by exact QW.qr (qw_assign rfl)) ?_
              refine rg_q (.inl rfl) rfl rfl (by exact QW.qr (qw_assign rfl)) ?_
              refine rg_nil ?_
              refine qg_then ?_
              refine cg_seq ?_
              refine cg_seq ?_
              obtain ⟨l2, s02, s12, e, hres, hinv2, hlife, hiff, hdel⟩ := lives_drop hinv hk40 op.name
              have hdd : decide (e = 0) = (getG H op.name).isSome := by
                rw [hsame op.name, getG_has]
                cases hh : hasG l.has op.name with
                | true => exact decide_eq_true (hiff.2 hh)
                | false => exact decide_eq_false fun h => by rw [hiff.1 h] at hh; cases hh
              refine cg_region ?_
              refine rg_q (.inl rfl) rfl rfl (by exact QW.qr (qw_move rfl)) ?_
              refine rg_q (.inl rfl) rfl rfl (by exact QW.qr (qw_fieldAddr rfl)) ?_
              refine rg_q (.inl rfl) rfl rfl (by exact qr_load1 rfl (by repeat (first | exact List.Mem.head _ | apply List.Mem.tail | apply List.mem_append_right | assumption)) rfl) ?_
              refine rg_e (.inl rfl) rfl rfl (by exact ev_call0 rfl (.cons rfl (.cons rfl (.nil))) ((drop3_ca bl b0 b1 O (cat [[(b10, _)], [(b33, _)]] L) hl h0 h1 hz0 hz1 op.name (fun hh => by have := hfit.1; omega) hres).pre (fun w h => h.perm (cat_perm (ls' := [K, K0, K1, [(b10, _)], [(b33, _)]]) (ls := [[(b10, _)], K, K0, K1, [(b33, _)]]) (by repeat (first | exact PermM.nil | refine PermM.cons (by repeat (first | exact Ins.here | apply Ins.there)) ?_)))))) ?_
              rintro _ _ ⟨rfl, K2, K02, K12, rfl, hl2, h02, h12⟩
              refine rg_q (.inl rfl) rfl rfl (by exact QW.qr (qw_eql rfl rfl)) ?_
              refine rg_q (.inl rfl) rfl rfl (by exact QW.qr (qw_move rfl)) ?_
              refine rg_q (.inl rfl) rfl rfl (by exact QW.qr (qw_val (v' := .bool false) (qw_neq_bool rfl rfl) (by rw [← hdd]; simp))) ?_
              refine rg_nil ?_
              refine qg_then ?_
              refine cg_false rfl ?_
              refine cg_skip ?_
              refine qg_then ?_
              refine cg_region ?_
              refine rg_q (.inl rfl) rfl rfl (by exact QW.qr (qw_move rfl)) ?_
              refine rg_q (.inl rfl) rfl rfl (by exact QW.qr (qw_fieldAddr rfl)) ?_
              refine rg_q (.inl rfl) rfl rfl (by exact qr_load1 rfl (by repeat (first | exact List.Mem.head _ | apply List.Mem.tail | apply List.mem_append_right | assumption)) rfl) ?_
              refine rg_e0 (.inl rfl) rfl (by exact ev_deleteS (L' := fun es c => cat [K2, K02, K12, [(b10, _)], [(b33, .map es c)]] L) (.cons rfl (.cons rfl .nil)) hms (fun _ _ => (by repeat (first | exact Upd.here | apply Upd.there | apply Upd.app)))) ?_
              rintro _ _ ⟨rfl, es2, c2, rfl, hms2⟩
              refine rg_nil ?_
              refine qg_block ?_
              rw [show U32 l.life = U32 l2.life from by rw [hlife]]
              exact qg_cut_sp _ _ ⟨l2, s02, s12, bl, K2, K02, K12, es2, c2, _, hinv2, hl2, h02, h12, hms2, ((hsame.del op.name).trans hdel.symm), rfl, rfl⟩ (by repeat (first | exact Sub.nil | refine Sub.cons rfl ?_ | refine Sub.cons (congrArg (fun z => some (Value.int IntKind.i64 z)) (by omega)) ?_)) (cat_sub (ls' := [K2, K02, K12, [(b33, _)]]) (ls := [K2, K02, K12, [(b10, _)], [(b33, _)]]) (by repeat (first | exact SubM.nil | refine SubM.cons (by repeat (first | exact Ins.here | apply Ins.there)) ?_)))
            · intro k1
              refine rg_q (.inl rfl) rfl rfl (by exact QW.qr (qw_assign rfl)) ?_
              refine rg_nil ?_
              refine qg_then ?_
              refine cg_false rfl ?_
              refine cg_seq ?_
              refine cg_region ?_
              refine rg_split (.inl rfl) rfl rfl (by exact qc_eql rfl rfl) ?_ ?_
              · intro k2
                refine rg_q (.inl rfl) rfl rfl (by exact QW.qr (qw_assign rfl)) ?_
                refine rg_nil ?_
                refine qg_then ?_
                refine cg_true rfl ?_
                refine cg_seq ?_
                obtain ⟨l2, s02, s12, hres, hinv2, hlife, hh2⟩ := lives_sync hinv
                refine cg_region ?_
                refine rg_q (.inl rfl) rfl rfl (by exact QW.qr (qw_move rfl)) ?_
                refine rg_e (.inl rfl) rfl rfl (by exact ev_call0 rfl (.cons rfl (.nil)) ((sync3_ca bl b0 b1 O (cat [[(b10, _)], [(b33, _)]] L) hl h0 h1 hz0 hz1 hres).pre (fun w h => h.perm (cat_perm (ls' := [K, K0, K1, [(b10, _)], [(b33, _)]]) (ls := [[(b10, _)], K, K0, K1, [(b33, _)]]) (by repeat (first | exact PermM.nil | refine PermM.cons (by repeat (first | exact Ins.here | apply Ins.there)) ?_)))))) ?_
                rintro _ _ ⟨rfl, K2, K02, K12, rfl, hl2, h02, h12⟩
                refine rg_q (.inl rfl) rfl rfl (by exact QW.qr (qw_neq_f rfl rfl (fun h => h rfl))) ?_
                refine rg_nil ?_
                refine qg_then ?_
                refine cg_false rfl ?_
                refine cg_skip ?_
                refine qg_block ?_
                rw [show U32 l.life = U32 l2.life from by rw [hlife]]
                exact qg_cut_sp _ _ ⟨l2, s02, s12, bl, K2, K02, K12, es, c, _, hinv2, hl2, h02, h12, hms, (by rw [hh2]; exact hsame), rfl, rfl⟩ (by repeat (first | exact Sub.nil | refine Sub.cons rfl ?_ | refine Sub.cons (congrArg (fun z => some (Value.int IntKind.i64 z)) (by omega)) ?_)) (cat_sub (ls' := [K2, K02, K12, [(b33, _)]]) (ls := [K2, K02, K12, [(b10, _)], [(b33, _)]]) (by repeat (first | exact SubM.nil | refine SubM.cons (by repeat (first | exact Ins.here | apply Ins.there)) ?_)))
              · intro k2
                refine rg_q (.inl rfl) rfl rfl (by exact QW.qr (qw_assign rfl)) ?_
                refine rg_nil ?_
                refine qg_then ?_
                refine cg_false rfl ?_
                refine cg_seq ?_
                refine cg_region ?_
                refine rg_split (.inl rfl) rfl rfl (by exact qc_eql rfl rfl) ?_ ?_
                · intro k3
                  refine rg_q (.inl rfl) rfl rfl (by exact QW.qr (qw_assign rfl)) ?_
                  refine rg_nil ?_
                  refine qg_then ?_
                  refine cg_true rfl ?_
                  refine cg_seq ?_
                  refine cg_seq ?_
                  obtain ⟨l2, s02, s12, hres, hinv2, hlife, hh2⟩ := lives_compact hinv hk40
                  refine cg_region ?_
                  refine rg_q (.inl rfl) rfl rfl (by exact QW.qr (qw_move rfl)) ?_
                  refine rg_e (.inl rfl) rfl rfl (by exact ev_call0 rfl (.cons rfl (.nil)) ((compact3_ca bl b0 b1 O (cat [[(b10, _)], [(b33, _)]] L) hl h0 h1 hz0 hz1 (LbOk.of hinv.at_ (by omega) (by omega) hinv.nd hinv.ok (by have := hinv.weight; omega)) hres).pre (fun w h => h.perm (cat_perm (ls' := [K, K0, K1, [(b10, _)], [(b33, _)]]) (ls := [[(b10, _)], K, K0, K1, [(b33, _)]]) (by repeat (first | exact PermM.nil | refine PermM.cons (by repeat (first | exact Ins.here | apply Ins.there)) ?_)))))) ?_
                  rintro _ _ ⟨rfl, K2, K02, K12, rfl, hl2, h02, h12⟩
                  refine rg_q (.inl rfl) rfl rfl (by exact QW.qr (qw_neq_f rfl rfl (fun h => h rfl))) ?_
                  refine rg_nil ?_
                  refine qg_then ?_
                  refine cg_false rfl ?_
                  refine cg_skip ?_
                  refine qg_then ?_
                  refine cg_region ?_
                  refine rg_q (.inl rfl) rfl rfl (by exact QW.qr (qw_move rfl)) ?_
                  refine rg_q (.inl rfl) rfl rfl (by exact QW.qr (qw_add_in rfl rfl (by unfold inK; omega))) ?_
                  refine rg_q (.inl rfl) rfl rfl (by exact QW.qr (qw_assign rfl)) ?_
                  refine rg_nil ?_
                  refine qg_block ?_
                  rw [show Value.int .u32 (l.life + 1) = U32 l2.life from by rw [hlife]; rfl]
                  exact qg_cut_sp _ _ ⟨l2, s02, s12, bl, K2, K02, K12, es, c, _, hinv2, hl2, h02, h12, hms, (by rw [hh2]; exact hsame), rfl, rfl⟩ (by repeat (first | exact Sub.nil | refine Sub.cons rfl ?_ | refine Sub.cons (congrArg (fun z => some (Value.int IntKind.i64 z)) (by omega)) ?_)) (cat_sub (ls' := [K2, K02, K12, [(b33, _)]]) (ls := [K2, K02, K12, [(b10, _)], [(b33, _)]]) (by repeat (first | exact SubM.nil | refine SubM.cons (by repeat (first | exact Ins.here | apply Ins.there)) ?_)))
                · intro k3
                  refine rg_q (.inl rfl) rfl rfl (by exact QW.qr (qw_assign rfl)) ?_
                  refine rg_nil ?_
                  refine qg_then ?_
                  refine cg_false rfl ?_
                  refine cg_seq ?_
                  refine cg_seq ?_
                  obtain ⟨l2, s02, s12, hres, hinv2, hlife, hh2⟩ := lives_open hinv hk40
                  refine cg_region ?_
                  refine rg_q (.inl rfl) rfl rfl (by exact QW.qr (qw_move rfl)) ?_
                  refine rg_q (.inl rfl) rfl rfl (by exact QW.qr (qw_move rfl)) ?_
                  refine rg_e (.inl rfl) rfl rfl (by exact ev_call0 rfl (.cons rfl (.cons rfl (.nil))) ((open3_ca b0 b1 O (cat [[(b10, _)], K, [(b33, _)]] L) h0 h1 hz0 hz1 hres).pre (fun w h => h.perm (cat_perm (ls' := [K0, K1, [(b10, _)], K, [(b33, _)]]) (ls := [[(b10, _)], K, K0, K1, [(b33, _)]]) (by repeat (first | exact PermM.nil | refine PermM.cons (by repeat (first | exact Ins.here | apply Ins.there)) ?_)))))) ?_
                  rintro _ _ ⟨bl2, K2, K02, K12, rfl, rfl, hl2, h02, h12⟩
                  refine rg_q (.inl rfl) rfl rfl (by exact QW.qr (qw_move rfl)) ?_
                  refine rg_q (.inl rfl) rfl rfl (by exact QW.qr (qw_extract rfl rfl)) ?_
                  refine rg_q (.inl rfl) rfl rfl (by exact QW.qr (qw_extract rfl rfl)) ?_
                  refine rg_q (.inl rfl) rfl rfl (by exact QW.qr (qw_assign rfl)) ?_
                  refine rg_q (.inl rfl) rfl rfl (by exact QW.qr (qw_assign rfl)) ?_
                  refine rg_nil ?_
                  refine qg_then ?_
                  refine cg_seq ?_
                  refine cg_region ?_
                  refine rg_q (.inl rfl) rfl rfl (by exact QW.qr (qw_move rfl)) ?_
                  refine rg_q (.inl rfl) rfl rfl (by exact QW.qr (qw_eql_ptr (e := 70) rfl rfl)) ?_
                  refine rg_q (.inl rfl) rfl rfl (by exact QW.qr (qw_move rfl)) ?_
                  refine rg_q (.inr (guard_mk rfl rfl rfl rfl)) rfl rfl (by exact QW.qr (qw_move rfl)) ?_
                  refine rg_q (.inr (guard_mk rfl rfl rfl rfl)) rfl rfl (by exact QW.qr (qw_neq_f rfl rfl (fun h => h rfl))) ?_
                  refine rg_q (.inl rfl) rfl rfl (by exact QW.qr (qw_pick_f rfl rfl)) ?_
                  refine rg_nil ?_
                  refine qg_then ?_
                  refine cg_false rfl ?_
                  refine cg_skip ?_
                  refine qg_then ?_
                  refine cg_region ?_
                  refine rg_q (.inl rfl) rfl rfl (by exact QW.qr (qw_move rfl)) ?_
                  refine rg_q (.inl rfl) rfl rfl (by exact QW.qr (qw_add_in rfl rfl (by unfold inK; omega))) ?_
                  refine rg_q (.inl rfl) rfl rfl (by exact QW.qr (qw_assign rfl)) ?_
                  refine rg_nil ?_
                  refine qg_block ?_
                  rw [show Value.int .u32 (l.life + 1) = U32 l2.life from by rw [hlife]; rfl]
                  exact qg_cut_sp _ _ ⟨l2, s02, s12, bl2, K2, K02, K12, es, c, _, hinv2, hl2, h02, h12, hms, (hsame.trans hh2.symm), rfl, rfl⟩ (by repeat (first | exact Sub.nil | refine Sub.cons rfl ?_ | refine Sub.cons (congrArg (fun z => some (Value.int IntKind.i64 z)) (by omega)) ?_)) (cat_sub (ls' := [K2, K02, K12, [(b33, _)]]) (ls := [K2, K02, K12, [(b10, _)], K, [(b33, _)]]) (by repeat (first | exact SubM.nil | refine SubM.cons (by repeat (first | exact Ins.here | apply Ins.there)) ?_)))
        · clear hms hsame hl h0 h1 hinv hz0 hz1 hi1 hi2 hop
          clear es c H K K0 K1 bl l s0 s1
          rintro _ _ ⟨l, s0, s1, bl, K, K0, K1, es, c, H, hinv, hl, h0, h1, hms, hsame, rfl, rfl⟩
          have hwt := hinv.weight
          have hcnt := weigh_count l.has
          have hns : ∀ t ∈ l.has, t.1.length ≤ 1000000 ∧ t.2.length ≤ 1000000 := fun t ht => by
            have := hinv.ok t.1 t.2 ((getG_some hinv.nd).2 ht)
            omega
          have hperm : H.Perm l.has := SameG.perm hms.nd hinv.nd hsame
          have hnl := namesOf_len l.has
          have hleq : ((namesOf l.has).length : Int) = H.length := by rw [hnl, hperm.length_eq]
          refine cg_seq ?_
          refine cg_seq ?_
          refine cg_region ?_
          refine rg_q (.inl rfl) rfl rfl (by exact QW.qr (qw_move rfl)) ?_
          refine rg_e (.inl rfl) rfl rfl (by exact ev_call0 rfl (.cons rfl (.nil)) (life_in bl b0 b1 l K O _ hl (fun q hq => mem_cat (ls := [K, K0, K1, [(b33, _)]]) (s := K) (by repeat (first | exact List.Mem.head _ | apply List.Mem.tail)) hq))) ?_
          rintro _ _ ⟨rfl, rfl⟩
          refine rg_q (.inl rfl) rfl rfl (by exact QW.qr (qw_move rfl)) ?_
          refine rg_q (.inl rfl) rfl rfl (by exact QW.qr (qw_neq_f rfl rfl (fun h => h rfl))) ?_
          refine rg_q (.inl rfl) rfl rfl (by exact QW.qr (qw_move rfl)) ?_
          refine rg_q (.inr (guard_mk rfl rfl rfl rfl)) rfl rfl (by exact QW.qr (qw_move rfl)) ?_
          refine rg_e (.inr (guard_mk rfl rfl rfl rfl)) rfl rfl (by exact ev_call0 rfl (.cons rfl (.nil)) (names_in bl b0 b1 l K O (cat [K0, K1, [(b33, _)]] L) hl (by omega) (fun t ht => (hns t ht).1))) ?_
          rintro nv _ ⟨Bn, hon, rfl⟩
          obtain ⟨pn, cn, rfl, hqn⟩ := id (hon.rd (fun _ => rfl) (by decide))
          refine rg_q (.inr (guard_mk rfl rfl rfl rfl)) rfl rfl (by exact QW.qr (qw_len_slice (t := 41) (.cons rfl (.nil)) rfl)) ?_
          refine rg_q (.inr (guard_mk rfl rfl rfl rfl)) rfl rfl (by exact QW.qr (qw_move rfl)) ?_
          refine rg_q (.inr (guard_mk rfl rfl rfl rfl)) rfl rfl (by exact qr_len_map (t := 29) (.cons rfl .nil) rfl (mem_cat (ls := [Bn, K, K0, K1, [(b33, _)]]) (s := [(b33, _)]) (by repeat (first | exact List.Mem.head _ | apply List.Mem.tail)) (List.Mem.head _)) hms) ?_
          refine rg_q (.inr (guard_mk rfl rfl rfl rfl)) rfl rfl (by exact QW.qr (qw_neq_f rfl rfl (fun h => h hleq))) ?_
          refine rg_q (.inl rfl) rfl rfl (by exact QW.qr (qw_pick_f rfl rfl)) ?_
          refine rg_nil ?_
          refine qg_then ?_
          refine cg_false rfl ?_
          refine cg_skip ?_
          refine qg_then ?_
          refine cg_seq ?_
          refine cg_region ?_
          refine rg_q (.inl rfl) rfl rfl (by exact QW.qr (qw_move rfl)) ?_
          refine rg_e (.inl rfl) rfl rfl (by exact ev_call0 rfl (.cons rfl (.nil)) ((names_in bl b0 b1 l K O (cat [Bn, K0, K1, [(b33, _)]] L) hl (by omega) (fun t ht => (hns t ht).1)).pre (fun w h => h.perm (cat_perm (ls' := [K, Bn, K0, K1, [(b33, _)]]) (ls := [Bn, K, K0, K1, [(b33, _)]]) (by repeat (first | exact PermM.nil | refine PermM.cons (by repeat (first | exact Ins.here | apply Ins.there)) ?_)))))) ?_
          rintro nv _ ⟨Bm, hom, rfl⟩
          obtain ⟨pm, cm, rfl, hqm⟩ := id (hom.rd (fun _ => rfl) (by decide))
          refine rg_q (.inl rfl) rfl rfl (by exact QW.qr (qw_len_slice (t := 41) (.cons rfl (.nil)) rfl)) ?_
          refine rg_q (.inl rfl) rfl rfl (by exact QW.qr (qw_move rfl)) ?_
          refine rg_nil ?_
          refine qg_then ?_
          refine cg_block ?_
          refine cg_loop (fun E' L' m => ∃ (j : Nat), j ≤ (namesOf l.has).length ∧ E' = [(3, PT b0), (4, PT b1), (5, PT bl), (7, .map (some b33)), (8, U32 l.life), (34, .slice (some ⟨bo, oo, none⟩) ops.length co), (35, .int .i64 ops.length), (36, .int .i64 k), (123, .slice pm (namesOf l.has).length cm), (124, .int .i64 (namesOf l.has).length), (125, .int .i64 j)] ∧ L' = cat [Bm, Bn, K, K0, K1, [(b33, .map es c)]] L ∧ m = (namesOf l.has).length - j)
            _ _ _ ⟨0, by omega, rfl, rfl, rfl⟩ (by repeat (first | exact Sub.nil | refine Sub.cons rfl ?_ | refine Sub.cons (congrArg (fun z => some (Value.int IntKind.i64 z)) (by omega)) ?_)) (cat_perm (ls' := [Bm, Bn, K, K0, K1, [(b33, _)]]) (ls := [Bm, K, Bn, K0, K1, [(b33, _)]]) (by repeat (first | exact PermM.nil | refine PermM.cons (by repeat (first | exact Ins.here | apply Ins.there)) ?_))) ?_
          rintro _ _ _ ⟨j, hjn, rfl, rfl, rfl⟩
          refine cg_seq ?_
          refine cg_region ?_
          refine rg_split (.inl rfl) rfl rfl (by exact qc_lss rfl rfl) ?_ ?_
          · intro hj
            have hjl : j < (namesOf l.has).length := by omega
            obtain ⟨bq, oq, Aq, tq, fq, rfl, hmq, hsegq⟩ := hqm.2.2.2 (by omega)
            have hgq : Aq[oq + (j : Int).toNat * 1]? = some (encStr (namesOf l.has)[j]) := (hsegq.elem (enc := encN) (k := 1) (fun _ => rfl) hjl).get (i := 0) rfl
            obtain ⟨x, hgx⟩ := name_get (List.getElem_mem hjl)
            generalize (namesOf l.has)[j] = nm at hgq hgx
            have hHx : getG H nm = some x := (hsame nm).trans hgx
            refine rg_nil ?_
            refine qg_then ?_
            refine cg_seq ?_
            refine cg_true rfl ?_
            refine cg_skip ?_
            refine qg_then ?_
            refine cg_seq ?_
            refine cg_block ?_
            refine cg_seq ?_
            refine cg_region ?_
            refine rg_q (.inl rfl) rfl rfl (by exact QW.qr (qw_indexAddr rfl rfl (by omega) (by omega))) ?_
            refine rg_q (.inl rfl) rfl rfl (by exact qr_load1' rfl (mem_cat (ls := [Bm, Bn, K, K0, K1, [(b33, _)]]) (s := Bm) (by repeat (first | exact List.Mem.head _ | apply List.Mem.tail)) hmq) hgq) ?_
            refine rg_q (.inl rfl) rfl rfl (by exact QW.qr (qw_assign rfl)) ?_
            refine rg_nil ?_
            refine qg_then ?_
            refine cg_seq ?_
            refine cg_region ?_
            refine rg_q (.inl rfl) rfl rfl (by exact QW.qr (qw_move rfl)) ?_
            refine rg_q (.inl rfl) rfl rfl (by exact QW.qr (qw_move rfl)) ?_
            refine rg_e (.inl rfl) rfl rfl (by exact ev_call0 rfl (.cons rfl (.cons rfl (.nil))) ((get3_ca bl b0 b1 O (cat [Bm, Bn, K0, K1, [(b33, _)]] L) hl (fun t ht => (hns t ht).2) hgx).pre (fun w h => h.perm (cat_perm (ls' := [K, Bm, Bn, K0, K1, [(b33, _)]]) (ls := [Bm, Bn, K, K0, K1, [(b33, _)]]) (by repeat (first | exact PermM.nil | refine PermM.cons (by repeat (first | exact Ins.here | apply Ins.there)) ?_)))))) ?_
            rintro _ _ ⟨gv, Bg, rfl, rfl, hgv⟩
            refine rg_q (.inl rfl) rfl rfl (by exact QW.qr (qw_move rfl)) ?_
            refine rg_q (.inl rfl) rfl rfl (by exact QW.qr (qw_extract rfl rfl)) ?_
            refine rg_q (.inl rfl) rfl rfl (by exact QW.qr (qw_extract rfl rfl)) ?_
            refine rg_q (.inl rfl) rfl rfl (by exact QW.qr (qw_assign rfl)) ?_
            refine rg_q (.inl rfl) rfl rfl (by exact QW.qr (qw_assign rfl)) ?_
            refine rg_nil ?_
            refine qg_then ?_
            refine cg_seq ?_
            refine cg_region ?_
            refine rg_q (.inl rfl) rfl rfl (by exact QW.qr (qw_move rfl)) ?_
            refine rg_q (.inl rfl) rfl rfl (by exact QW.qr (qw_move rfl)) ?_
            refine rg_q (.inl rfl) rfl rfl (by exact qr_val (qr_lookupS2 (ms := H) rfl rfl (mem_cat (ls := [Bg, K, Bm, Bn, K0, K1, [(b33, _)]]) (s := [(b33, _)]) (by repeat (first | exact List.Mem.head _ | apply List.Mem.tail)) (List.Mem.head _)) hms) (v2 := .tuple #[encStr x, .bool true]) (by rw [hHx]; rfl)) ?_
            refine rg_q (.inl rfl) rfl rfl (by exact QW.qr (qw_move rfl)) ?_
            refine rg_q (.inl rfl) rfl rfl (by exact QW.qr (qw_extract rfl rfl)) ?_
            refine rg_q (.inl rfl) rfl rfl (by exact QW.qr (qw_extract rfl rfl)) ?_
            refine rg_q (.inl rfl) rfl rfl (by exact QW.qr (qw_assign rfl)) ?_
            refine rg_q (.inl rfl) rfl rfl (by exact QW.qr (qw_assign rfl)) ?_
            refine rg_nil ?_
            refine qg_then ?_
            refine cg_seq ?_
            refine cg_region ?_
            refine rg_q (.inl rfl) rfl rfl (by exact QW.qr (qw_move rfl)) ?_
            refine rg_q (.inl rfl) rfl rfl (by exact QW.qr (qw_not rfl)) ?_
            refine rg_q (.inl rfl) rfl rfl (by exact QW.qr (qw_move rfl)) ?_
            refine rg_q (.inr (guard_mk rfl rfl rfl rfl)) rfl rfl (by exact QW.qr (qw_move rfl)) ?_
            refine rg_q (.inr (guard_mk rfl rfl rfl rfl)) rfl rfl (by exact QW.qr (qw_not rfl)) ?_
            refine rg_q (.inl rfl) rfl rfl (by exact QW.qr (qw_pick_f rfl rfl)) ?_
            refine rg_q (.inl rfl) rfl rfl (by exact QW.qr (qw_move rfl)) ?_
            refine rg_q (.inr (guard_mk rfl rfl rfl rfl)) rfl rfl (by exact QW.qr (qw_move rfl)) ?_
            refine rg_q (.inr (guard_mk rfl rfl rfl rfl)) rfl rfl (by exact qr_bytesToStr rfl (hgv.mono (fun q hq => mem_cat (ls := [Bg, K, Bm, Bn, K0, K1, [(b33, _)]]) (s := Bg) (by repeat (first | exact List.Mem.head _ | apply List.Mem.tail)) hq)).w) ?_
            refine rg_q (.inr (guard_mk rfl rfl rfl rfl)) rfl rfl (by exact QW.qr (qw_move rfl)) ?_
            refine rg_q (.inr (guard_mk rfl rfl rfl rfl)) rfl rfl (by exact QW.qr (qw_val (v' := .bool false) (qw_neq_str rfl rfl) (by simp))) ?_
            refine rg_q (.inl rfl) rfl rfl (by exact QW.qr (qw_pick_f rfl rfl)) ?_
            refine rg_nil ?_
            refine qg_then ?_
            refine cg_false rfl ?_
            refine cg_skip ?_
            refine qg_block ?_
            refine qg_then ?_
            refine cg_region ?_
            refine rg_q (.inl rfl) rfl rfl (by exact QW.qr (qw_add_in rfl rfl (by unfold inK; omega))) ?_
            refine rg_q (.inl rfl) rfl rfl (by exact QW.qr (qw_move rfl)) ?_
            refine rg_nil ?_
            exact qg_round_sp _ _ _ ⟨j + 1, by omega, rfl, rfl, rfl⟩ (by repeat (first | exact Sub.nil | refine Sub.cons rfl ?_ | refine Sub.cons (congrArg (fun z => some (Value.int IntKind.i64 z)) (by omega)) ?_)) (cat_sub (ls' := [Bm, Bn, K, K0, K1, [(b33, _)]]) (ls := [Bg, K, Bm, Bn, K0, K1, [(b33, _)]]) (by repeat (first | exact SubM.nil | refine SubM.cons (by repeat (first | exact Ins.here | apply Ins.there)) ?_))) (by omega)
          · intro hj
            refine rg_nil ?_
            refine qg_then ?_
            refine cg_seq ?_
            refine cg_false rfl ?_
            refine cg_exit ?_
            refine qg_then_exit ?_
            refine qg_then_exit ?_
            refine qg_block_here ?_
            refine qg_block ?_
            refine qg_then ?_
            refine cg_region ?_
            refine rg_q (.inl rfl) rfl rfl (by exact QW.qr (qw_add_in rfl rfl (by unfold inK; omega))) ?_
            refine rg_q (.inl rfl) rfl rfl (by exact QW.qr (qw_move rfl)) ?_
            refine rg_nil ?_
            exact qg_round_sp _ _ _ ⟨k + 1, l, s0, s1, bl, K, K0, K1, es, c, H, by omega, by omega, hinv, hl, h0, h1, hms, hsame, rfl, rfl, rfl⟩ (by repeat (first | exact Sub.nil | refine Sub.cons rfl ?_ | refine Sub.cons (congrArg (fun z => some (Value.int IntKind.i64 z)) (by omega)) ?_)) (cat_sub (ls' := [K, K0, K1, [(b33, _)]]) (ls := [Bm, Bn, K, K0, K1, [(b33, _)]]) (by repeat (first | exact SubM.nil | refine SubM.cons (by repeat (first | exact Ins.here | apply Ins.there)) ?_))) (by omega)
      · skip
        rw [decide_eq_false hfit]
        refine rg_q (.inr (guard_mk rfl rfl rfl rfl)) rfl rfl (by exact QW.qr (qw_not rfl)) ?_
        refine rg_q (.inl rfl) rfl rfl (by exact QW.qr (qw_pick_f rfl rfl)) ?_
        refine rg_nil ?_
        refine qg_then ?_
        refine cg_true rfl ?_
        refine cg_exit ?_
        refine qg_then_exit ?_
        refine qg_block_on rfl ?_
        refine qg_then_exit ?_
        refine qg_then_exit ?_
        refine qg_block_here ?_
        refine qg_then ?_
        refine cg_seq ?_
        refine cg_region ?_
        refine rg_e (.inl rfl) rfl rfl (by exact ev_call0 rfl (.nil) (awake_ca O _)) ?_
        rintro _ _ ⟨rfl, rfl⟩
        refine rg_q (.inl rfl) rfl rfl (by exact QW.qr (qw_assign rfl)) ?_
        refine rg_nil ?_
        refine qg_then ?_
        refine cg_ret ?_
        exact qg_end_sp (.inl rfl) _ (.cons (.tmp rfl) (.nil)) _ (cat_sub (ls' := []) (ls := [[(b10, _)], K, K0, K1, [(b33, _)]]) (by repeat (first | exact SubM.nil | refine SubM.cons (by repeat (first | exact Ins.here | apply Ins.there)) ?_))) ⟨rfl, rfl⟩
  · intro hlt
    refine rg_nil ?_
    refine qg_then ?_
    refine cg_seq ?_
    refine cg_false rfl ?_
    refine cg_exit ?_
    refine qg_then_exit ?_
    refine qg_then_exit ?_
    refine qg_block_here ?_
    refine qg_then ?_
    refine cg_seq ?_
    refine cg_region ?_
    refine rg_e (.inl rfl) rfl rfl (by exact ev_call0 rfl (.nil) (awake_ca O _)) ?_
    rintro _ _ ⟨rfl, rfl⟩
    refine rg_q (.inl rfl) rfl rfl (by exact QW.qr (qw_assign rfl)) ?_
    refine rg_nil ?_
    refine qg_then ?_
    refine cg_ret ?_
    exact qg_end_sp (.inl rfl) _ (.cons (.tmp rfl) (.nil)) _ (cat_sub (ls' := []) (ls := [K, K0, K1, [(b33, _)]]) (by repeat (first | exact SubM.nil | refine SubM.cons (by repeat (first | exact Ins.here | apply Ins.there)) ?_))) ⟨rfl, rfl⟩

end Go.Proofs.Ytcbbogaanebefaa