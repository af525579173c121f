/-
  THE WALKS of the law's From and sends; of slices.Clone for spots and channels. Conditions: sizes.
-/
import Derived.Test.YtjimpciiaceleaaA20
namespace Go.Proofs.Ytjimpciiaceleaa
open Fw
set_option linter.unusedVariables false
set_option maxRecDepth 100000

theorem webFrom_ca (spots : List (Int × Int)) (es : List Edge) (sv ev : Value) (O : Out) (L : List Blk) (hs : RdW L encSp sv spots) (he : RdW L encE ev es) (hn : spots.length ≤ 1000) (hes : es.length ≤ 1000) :
    CA Try.prog 17 [.agg #[sv, ev]] O L fun v L' => ∃ p c ev' B, v = .agg #[.slice p spots.length c, ev'] ∧ L' = B ++ L ∧ RdL B encSp 2 (.slice p spots.length c) spots ∧ RdL B encE 8 ev' es := by
  obtain ⟨pz, cz, rfl, hRz⟩ := id hs
  obtain ⟨pe, ce, rfl, hRe⟩ := id he
  refine ca_enter Try.func17 rfl rfl ?_
  rw [Try.ntmps17]
  simp only [envOf]
  refine cg_seq ?_
  refine cg_region ?_
  refine rg_e (.inl rfl) rfl rfl (by exact ev_box rfl (by first | exact CellsOf.agg | exact CellsOf.one rfl)) ?_
  rintro _ _ ⟨b1, rfl, rfl⟩
  refine rg_e (.inl rfl) rfl rfl (by exact ev_alloc (by first | exact CellsOf.agg | exact CellsOf.one rfl)) ?_
  rintro _ _ ⟨b2, rfl, rfl⟩
  refine rg_nil ?_
  refine qg_then ?_
  refine cg_seq ?_
  refine cg_region ?_
  refine rg_e (.inl rfl) rfl rfl (by exact ev_alloc (by first | exact CellsOf.agg | exact CellsOf.one rfl)) ?_
  rintro _ _ ⟨b3, rfl, rfl⟩
  refine rg_nil ?_
  refine qg_then ?_
  refine cg_seq ?_
  refine cg_seq ?_
  refine cg_region ?_
  refine rg_q (.inl rfl) rfl rfl (by exact QW.qr (qw_fieldAddr rfl)) ?_
  refine rg_q (.inl rfl) rfl rfl (by exact qr_load1 rfl (by repeat (first | exact List.Mem.head _ | apply List.Mem.tail | apply List.mem_append_right | assumption)) rfl) ?_
  refine rg_q (.inl rfl) rfl rfl (by exact QW.qr (qw_len_slice (t := 29) (.cons rfl (.nil)) rfl)) ?_
  refine rg_q (.inl rfl) rfl rfl (by exact QW.qr (qw_move rfl)) ?_
  refine rg_nil ?_
  refine qg_then ?_
  refine cg_block ?_
  refine cg_loop (fun E' L' m => ∃ (k : Nat) (zv : Value) (Bz : List Blk), k ≤ spots.length ∧ OwnL 73 encSp 2 zv (spots.take k) Bz ∧
    E' = [(1, .pointer (some ⟨b1, 0, none⟩)), (2, .pointer (some ⟨b2, 0, none⟩)), (3, .pointer (some ⟨b3, 0, none⟩)), (9, .slice pz spots.length cz), (10, .int .i64 spots.length), (11, .int .i64 k)] ∧
    L' = (b3, .cells [zv, Value.slice none 0 0].toArray 25 (0, 0)) :: cat [Bz] ((b2, .cells [Value.slice none 0 0, Value.slice none 0 0].toArray 25 (0, 0)) :: (b1, .cells [Value.slice pz spots.length cz, Value.slice pe es.length ce].toArray 32 (0, 0)) :: L) ∧ m = spots.length - k)
    _ _ _ ⟨0, _, [], by omega, OwnL.nil, rfl, rfl, rfl⟩ (by repeat (first | exact Sub.nil | refine Sub.cons rfl ?_ | refine Sub.cons (congrArg (fun z => some (Value.int IntKind.i64 z)) (by omega)) ?_)) (List.Perm.refl _) ?_
  rintro _ _ _ ⟨k, zv, Bz, hk, hown, rfl, rfl, rfl⟩
  obtain ⟨pv, cv, rfl, hlv, hcv, hsv, hRv⟩ := id (hown.rd (fun _ => rfl) (by decide))
  refine cg_seq ?_
  refine cg_region ?_
  refine rg_split (.inl rfl) rfl rfl (by exact qc_lss rfl rfl) ?_ ?_
  · intro hlt
    have hklt : k < spots.length := by omega
    obtain ⟨b0, o0, A0, t0, fz0, rfl, hm0, hseg⟩ := hRz (by omega)
    have hfe := hseg.elem (enc := encSp) (k := 2) (fun _ => rfl) hklt
    obtain ⟨x, hx⟩ : ∃ x, spots[k] = x := ⟨_, rfl⟩
    rw [hx] at hfe
    obtain ⟨x1, x2⟩ := x
    refine rg_nil ?_
    refine qg_then ?_
    refine cg_seq ?_
    refine cg_true rfl ?_
    refine cg_skip ?_
    refine qg_then ?_
    refine cg_seq ?_
    refine cg_block ?_
    refine cg_seq ?_
    refine cg_region ?_
    refine rg_q (.inl rfl) rfl rfl (by exact QW.qr (qw_indexAddr rfl rfl (by omega) (by omega))) ?_
    refine rg_q (.inl rfl) rfl rfl (by exact qr_loadS (vs := [I x1, I x2]) rfl (List.mem_cons_of_mem _ (mem_catF (List.mem_cons_of_mem _ (List.mem_cons_of_mem _ hm0)))) hfe rfl) ?_
    refine rg_e (.inl rfl) rfl rfl (by exact ev_alloc (by first | exact CellsOf.agg | exact CellsOf.one rfl)) ?_
    rintro _ _ ⟨b5, rfl, rfl⟩
    refine rg_e0 (.inl rfl) rfl (by exact ev_store rfl rfl (by first | exact CellsOf.agg | exact CellsOf.one rfl) (by repeat (first | exact List.Mem.head _ | apply List.Mem.tail | apply List.mem_append_right | assumption)) (by repeat (first | exact SetSeg.done | apply SetSeg.take | apply SetSeg.skip)) rfl rfl (by repeat (first | exact Upd.here | apply Upd.there | apply Upd.app)) (by first | exact Or.inl ⟨inferInstance, rfl⟩ | exact Or.inr inferInstance)) ?_
    rintro _ _ ⟨rfl, rfl⟩
    refine rg_nil ?_
    refine qg_then ?_
    refine cg_region ?_
    refine rg_q (.inl rfl) rfl rfl (by exact QW.qr (qw_fieldAddr rfl)) ?_
    refine rg_q (.inl rfl) rfl rfl (by exact qr_load1 rfl (by repeat (first | exact List.Mem.head _ | apply List.Mem.tail | apply List.mem_append_right | assumption)) rfl) ?_
    refine rg_q (.inl rfl) rfl rfl (by exact QW.qr (qw_fieldAddr rfl)) ?_
    refine rg_q (.inl rfl) rfl rfl (by exact qr_load1 rfl (by repeat (first | exact List.Mem.head _ | apply List.Mem.tail | apply List.mem_append_right | assumption)) rfl) ?_
    refine rg_q (.inl rfl) rfl rfl (by exact QW.qr (qw_fieldAddr rfl)) ?_
    refine rg_q (.inl rfl) rfl rfl (by exact qr_load1 rfl (by repeat (first | exact List.Mem.head _ | apply List.Mem.tail | apply List.mem_append_right | assumption)) rfl) ?_
    refine rg_q (.inl rfl) rfl rfl (by exact QW.qr (qw_build (.cons rfl (.cons rfl (.nil))) rfl (.cons rfl (by first | exact CellsOf.agg | exact CellsOf.one rfl) (by repeat (first | exact SetSeg.done | apply SetSeg.take | apply SetSeg.skip)) (by rfl) (by rfl) (.cons rfl (by first | exact CellsOf.agg | exact CellsOf.one rfl) (by repeat (first | exact SetSeg.done | apply SetSeg.take | apply SetSeg.skip)) (by rfl) (by rfl) (.nil))))) ?_
    refine rg_e (.inl rfl) rfl rfl (by exact ev_buildSlice (.cons rfl (.nil)) rfl (by first | exact CellsOf.agg | exact CellsOf.one rfl) (by rfl) (.cons rfl (by first | exact CellsOf.agg | exact CellsOf.one rfl) (by repeat (first | exact SetSeg.done | apply SetSeg.take | apply SetSeg.skip)) (by rfl) (by rfl) (.nil))) ?_
    rintro _ _ ⟨b22, rfl, rfl⟩
    refine rg_e (.inl rfl) rfl rfl (by exact ev_appendL (ys := [(x1, x2)]) (T := 22) (T2 := 22) (.cons rfl (.cons rfl .nil)) rfl rfl hown (R := cat [[(b22, _)], [(b5, _)], [(b3, _)], [(b2, _)], [(b1, _)]] L) (cat_perm (ls' := [Bz, [(b22, _)], [(b5, _)], [(b3, _)], [(b2, _)], [(b1, _)]]) (ls := [[(b22, _)], [(b5, _)], [(b3, _)], Bz, [(b2, _)], [(b1, _)]]) (by repeat (first | exact PermM.nil | refine PermM.cons (by repeat (first | exact Ins.here | apply Ins.there)) ?_))) (.row (List.Mem.head _) (SegL.seg (m := 2) (by repeat (first | exact SegL.done | apply SegL.take | apply SegL.skip))).1 rfl) (fun _ => rfl) encSp_one (by simp only [List.length_singleton, List.length_take]; omega) rfl rfl rfl rfl) ?_
    rintro zv' _ ⟨Bz', hown', rfl⟩
    obtain ⟨pv2, cv2, rfl, hq2⟩ := id (hown'.rd (fun _ => rfl) (by decide))
    refine rg_q (.inl rfl) rfl rfl (by exact QW.qr (qw_fieldAddr rfl)) ?_
    refine rg_e0 (.inl rfl) rfl (by exact ev_store rfl rfl (by first | exact CellsOf.agg | exact CellsOf.one rfl) (by repeat (first | exact List.Mem.head _ | apply List.Mem.tail | apply List.mem_append_right | assumption)) (by repeat (first | exact SetSeg.done | apply SetSeg.take | apply SetSeg.skip)) rfl rfl (by repeat (first | exact Upd.here | apply Upd.there | apply Upd.app)) (by first | exact Or.inl ⟨inferInstance, rfl⟩ | exact Or.inr inferInstance)) ?_
    rintro _ _ ⟨rfl, rfl⟩
    refine rg_nil ?_
    refine qg_block ?_
    refine qg_then ?_
    refine cg_region ?_
    refine rg_q (.inl rfl) rfl rfl (by exact QW.qr (qw_add_in rfl rfl (by unfold inK; omega))) ?_
    refine rg_q (.inl rfl) rfl rfl (by exact QW.qr (qw_move rfl)) ?_
    refine rg_nil ?_
    exact qg_round_sp _ _ _ ⟨k + 1, _, Bz', by omega, by rw [List.take_succ_eq_append_getElem hklt, hx]; exact hown', rfl, rfl, rfl⟩ (by repeat (first | exact Sub.nil | refine Sub.cons rfl ?_ | refine Sub.cons (congrArg (fun z => some (Value.int IntKind.i64 z)) (by omega)) ?_)) (cat_sub (ls' := [[(b3, _)], Bz', [(b2, _)], [(b1, _)]]) (ls := [Bz', [(b22, _)], [(b5, _)], [(b3, _)], [(b2, _)], [(b1, _)]]) (by repeat (first | exact SubM.nil | refine SubM.cons (by repeat (first | exact Ins.here | apply Ins.there)) ?_))) (by omega)
  · intro hlt
    obtain rfl : k = spots.length := by omega
    rw [List.take_length] at hown
    clear hRv hsv hcv hlv
    refine rg_nil ?_
    refine qg_then ?_
    refine cg_seq ?_
    refine cg_false rfl ?_
    refine cg_exit ?_
    refine qg_then_exit ?_
    refine qg_then_exit ?_
    refine qg_block_here ?_
    refine qg_then ?_
    refine cg_seq ?_
    refine cg_seq ?_
    refine cg_region ?_
    refine rg_q (.inl rfl) rfl rfl (by exact QW.qr (qw_fieldAddr rfl)) ?_
    refine rg_q (.inl rfl) rfl rfl (by exact qr_load1 rfl (by repeat (first | exact List.Mem.head _ | apply List.Mem.tail | apply List.mem_append_right | assumption)) rfl) ?_
    refine rg_q (.inl rfl) rfl rfl (by exact QW.qr (qw_len_slice (t := 30) (.cons rfl (.nil)) rfl)) ?_
    refine rg_q (.inl rfl) rfl rfl (by exact QW.qr (qw_move rfl)) ?_
    refine rg_nil ?_
    refine qg_then ?_
    refine cg_block ?_
    refine cg_loop (fun E' L' m => ∃ (k : Nat) (yv : Value) (By : List Blk), k ≤ es.length ∧ OwnL 71 encE 8 yv (es.take k) By ∧
      E' = [(1, .pointer (some ⟨b1, 0, none⟩)), (2, .pointer (some ⟨b2, 0, none⟩)), (3, .pointer (some ⟨b3, 0, none⟩)), (27, .slice pe es.length ce), (28, .int .i64 es.length), (29, .int .i64 k)] ∧
      L' = (b3, .cells [Value.slice pv (spots.take spots.length).length cv, yv].toArray 25 (0, 0)) :: cat [By, Bz] ((b2, .cells [Value.slice none 0 0, Value.slice none 0 0].toArray 25 (0, 0)) :: (b1, .cells [Value.slice pz spots.length cz, Value.slice pe es.length ce].toArray 32 (0, 0)) :: L) ∧ m = es.length - k)
      _ _ _ ⟨0, _, [], by omega, OwnL.nil, rfl, rfl, rfl⟩ (by repeat (first | exact Sub.nil | refine Sub.cons rfl ?_ | refine Sub.cons (congrArg (fun z => some (Value.int IntKind.i64 z)) (by omega)) ?_)) (List.Perm.refl _) ?_
    rintro _ _ _ ⟨k, yv, By, hk, howe, rfl, rfl, rfl⟩
    obtain ⟨py, cy, rfl, hly, hcy, hsy, hRy⟩ := id (howe.rd (fun _ => rfl) (by decide))
    refine cg_seq ?_
    refine cg_region ?_
    refine rg_split (.inl rfl) rfl rfl (by exact qc_lss rfl rfl) ?_ ?_
    · intro hlt
      have hklt : k < es.length := by omega
      obtain ⟨b0, o0, A0, t0, fz0, rfl, hm0, hseg⟩ := hRe (by omega)
      have hfe := hseg.elem (enc := encE) (k := 8) (fun _ => rfl) hklt
      obtain ⟨x, hx⟩ : ∃ x, es[k] = x := ⟨_, rfl⟩
      rw [hx] at hfe
      refine rg_nil ?_
      refine qg_then ?_
      refine cg_seq ?_
      refine cg_true rfl ?_
      refine cg_skip ?_
      refine qg_then ?_
      refine cg_seq ?_
      refine cg_block ?_
      refine cg_seq ?_
      unfold encE
      refine cg_region ?_
      refine rg_q (.inl rfl) rfl rfl (by exact QW.qr (qw_indexAddr rfl rfl (by omega) (by omega))) ?_
      refine rg_q (.inl rfl) rfl rfl (by exact qr_loadS (vs := encE x) rfl (List.mem_cons_of_mem _ (mem_catF (List.mem_cons_of_mem _ (List.mem_cons_of_mem _ hm0)))) hfe rfl) ?_
      refine rg_e (.inl rfl) rfl rfl (by exact ev_alloc (by first | exact CellsOf.agg | exact CellsOf.one rfl)) ?_
      rintro _ _ ⟨b7, rfl, rfl⟩
      refine rg_e0 (.inl rfl) rfl (by exact ev_store rfl rfl (by first | exact CellsOf.agg | exact CellsOf.one rfl) (by repeat (first | exact List.Mem.head _ | apply List.Mem.tail | apply List.mem_append_right | assumption)) (by repeat (first | exact SetSeg.done | apply SetSeg.take | apply SetSeg.skip)) rfl rfl (by repeat (first | exact Upd.here | apply Upd.there | apply Upd.app)) (by first | exact Or.inl ⟨inferInstance, rfl⟩ | exact Or.inr inferInstance)) ?_
      rintro _ _ ⟨rfl, rfl⟩
      refine rg_nil ?_
      refine qg_then ?_
      refine cg_region ?_
      refine rg_q (.inl rfl) rfl rfl (by exact QW.qr (qw_fieldAddr rfl)) ?_
      refine rg_q (.inl rfl) rfl rfl (by exact qr_load1 rfl (by repeat (first | exact List.Mem.head _ | apply List.Mem.tail | apply List.mem_append_right | assumption)) rfl) ?_
      refine rg_q (.inl rfl) rfl rfl (by exact QW.qr (qw_fieldAddr rfl)) ?_
      refine rg_q (.inl rfl) rfl rfl (by exact qr_loadN rfl (by repeat (first | exact List.Mem.head _ | apply List.Mem.tail | apply List.mem_append_right | assumption)) (by repeat (first | exact SegL.done | apply SegL.take | apply SegL.skip))) ?_
      refine rg_q (.inl rfl) rfl rfl (by exact QW.qr (qw_fieldAddr rfl)) ?_
      refine rg_q (.inl rfl) rfl rfl (by exact qr_loadN rfl (by repeat (first | exact List.Mem.head _ | apply List.Mem.tail | apply List.mem_append_right | assumption)) (by repeat (first | exact SegL.done | apply SegL.take | apply SegL.skip))) ?_
      refine rg_q (.inl rfl) rfl rfl (by exact QW.qr (qw_fieldAddr rfl)) ?_
      refine rg_q (.inl rfl) rfl rfl (by exact QW.qr (qw_indexAddr_arr rfl rfl (by omega) (by omega))) ?_
      refine rg_q (.inl rfl) rfl rfl (by exact QW.qr (qw_fieldAddr rfl)) ?_
      refine rg_q (.inl rfl) rfl rfl (by exact qr_load1 rfl (by repeat (first | exact List.Mem.head _ | apply List.Mem.tail | apply List.mem_append_right | assumption)) rfl) ?_
      refine rg_q (.inl rfl) rfl rfl (by exact QW.qr (qw_fieldAddr rfl)) ?_
      refine rg_q (.inl rfl) rfl rfl (by exact QW.qr (qw_indexAddr_arr rfl rfl (by omega) (by omega))) ?_
      refine rg_q (.inl rfl) rfl rfl (by exact QW.qr (qw_fieldAddr rfl)) ?_
      refine rg_q (.inl rfl) rfl rfl (by exact qr_load1 rfl (by repeat (first | exact List.Mem.head _ | apply List.Mem.tail | apply List.mem_append_right | assumption)) rfl) ?_
      refine rg_q (.inl rfl) rfl rfl (by exact QW.qr (qw_build (.cons rfl (.cons rfl (.nil))) rfl (.cons rfl (by first | exact CellsOf.agg | exact CellsOf.one rfl) (by repeat (first | exact SetSeg.done | apply SetSeg.take | apply SetSeg.skip)) (by rfl) (by rfl) (.cons rfl (by first | exact CellsOf.agg | exact CellsOf.one rfl) (by repeat (first | exact SetSeg.done | apply SetSeg.take | apply SetSeg.skip)) (by rfl) (by rfl) (.nil))))) ?_
      refine rg_q (.inl rfl) rfl rfl (by exact QW.qr (qw_fieldAddr rfl)) ?_
      refine rg_q (.inl rfl) rfl rfl (by exact QW.qr (qw_indexAddr_arr rfl rfl (by omega) (by omega))) ?_
      refine rg_q (.inl rfl) rfl rfl (by exact QW.qr (qw_fieldAddr rfl)) ?_
      refine rg_q (.inl rfl) rfl rfl (by exact qr_load1 rfl (by repeat (first | exact List.Mem.head _ | apply List.Mem.tail | apply List.mem_append_right | assumption)) rfl) ?_
      refine rg_q (.inl rfl) rfl rfl (by exact QW.qr (qw_fieldAddr rfl)) ?_
      refine rg_q (.inl rfl) rfl rfl (by exact QW.qr (qw_indexAddr_arr rfl rfl (by omega) (by omega))) ?_
      refine rg_q (.inl rfl) rfl rfl (by exact QW.qr (qw_fieldAddr rfl)) ?_
      refine rg_q (.inl rfl) rfl rfl (by exact qr_load1 rfl (by repeat (first | exact List.Mem.head _ | apply List.Mem.tail | apply List.mem_append_right | assumption)) rfl) ?_
      refine rg_q (.inl rfl) rfl rfl (by exact QW.qr (qw_build (.cons rfl (.cons rfl (.nil))) rfl (.cons rfl (by first | exact CellsOf.agg | exact CellsOf.one rfl) (by repeat (first | exact SetSeg.done | apply SetSeg.take | apply SetSeg.skip)) (by rfl) (by rfl) (.cons rfl (by first | exact CellsOf.agg | exact CellsOf.one rfl) (by repeat (first | exact SetSeg.done | apply SetSeg.take | apply SetSeg.skip)) (by rfl) (by rfl) (.nil))))) ?_
      refine rg_q (.inl rfl) rfl rfl (by exact QW.qr (qw_build_arr (.cons rfl (.cons rfl (.nil))) (.cons rfl (by first | exact CellsOf.agg | exact CellsOf.one rfl) (by repeat (first | exact SetSeg.done | apply SetSeg.take | apply SetSeg.skip)) (by rfl) (by rfl) (.cons rfl (by first | exact CellsOf.agg | exact CellsOf.one rfl) (by repeat (first | exact SetSeg.done | apply SetSeg.take | apply SetSeg.skip)) (by rfl) (by rfl) (.nil))))) ?_
      refine rg_q (.inl rfl) rfl rfl (by exact QW.qr (qw_build (.cons rfl (.cons rfl (.cons rfl (.nil)))) rfl (.cons rfl (by first | exact CellsOf.agg | exact CellsOf.one rfl) (by repeat (first | exact SetSeg.done | apply SetSeg.take | apply SetSeg.skip)) (by rfl) (by rfl) (.cons rfl (by first | exact CellsOf.agg | exact CellsOf.one rfl) (by repeat (first | exact SetSeg.done | apply SetSeg.take | apply SetSeg.skip)) (by rfl) (by rfl) (.cons rfl (by first | exact CellsOf.agg | exact CellsOf.one rfl) (by repeat (first | exact SetSeg.done | apply SetSeg.take | apply SetSeg.skip)) (by rfl) (by rfl) (.nil)))))) ?_
      refine rg_e (.inl rfl) rfl rfl (by exact ev_buildSlice (.cons rfl (.nil)) rfl (by first | exact CellsOf.agg | exact CellsOf.one rfl) (by rfl) (.cons rfl (by first | exact CellsOf.agg | exact CellsOf.one rfl) (by repeat (first | exact SetSeg.done | apply SetSeg.take | apply SetSeg.skip)) (by rfl) (by rfl) (.nil))) ?_
      rintro _ _ ⟨b59, rfl, rfl⟩
      refine rg_e (.inl rfl) rfl rfl (by exact ev_appendL (ys := [x]) (T := 23) (T2 := 23) (.cons rfl (.cons rfl .nil)) rfl rfl howe (R := cat [[(b59, _)], [(b7, _)], [(b3, _)], Bz, [(b2, _)], [(b1, _)]] L) (cat_perm (ls' := [By, [(b59, _)], [(b7, _)], [(b3, _)], Bz, [(b2, _)], [(b1, _)]]) (ls := [[(b59, _)], [(b7, _)], [(b3, _)], By, Bz, [(b2, _)], [(b1, _)]]) (by repeat (first | exact PermM.nil | refine PermM.cons (by repeat (first | exact Ins.here | apply Ins.there)) ?_))) (.row (List.Mem.head _) (SegL.seg (m := 8) (by repeat (first | exact SegL.done | apply SegL.take | apply SegL.skip))).1 rfl) (fun _ => rfl) encE_one (by simp only [List.length_singleton, List.length_take]; omega) rfl rfl rfl rfl) ?_
      rintro yv' _ ⟨By', howe', rfl⟩
      obtain ⟨py2, cy2, rfl, hq2⟩ := id (howe'.rd (fun _ => rfl) (by decide))
      refine rg_q (.inl rfl) rfl rfl (by exact QW.qr (qw_fieldAddr rfl)) ?_
      refine rg_e0 (.inl rfl) rfl (by exact ev_store rfl rfl (by first | exact CellsOf.agg | exact CellsOf.one rfl) (by repeat (first | exact List.Mem.head _ | apply List.Mem.tail | apply List.mem_append_right | assumption)) (by repeat (first | exact SetSeg.done | apply SetSeg.take | apply SetSeg.skip)) rfl rfl (by repeat (first | exact Upd.here | apply Upd.there | apply Upd.app)) (by first | exact Or.inl ⟨inferInstance, rfl⟩ | exact Or.inr inferInstance)) ?_
      rintro _ _ ⟨rfl, rfl⟩
      refine rg_nil ?_
      refine qg_block ?_
      refine qg_then ?_
      refine cg_region ?_
      refine rg_q (.inl rfl) rfl rfl (by exact QW.qr (qw_add_in rfl rfl (by unfold inK; omega))) ?_
      refine rg_q (.inl rfl) rfl rfl (by exact QW.qr (qw_move rfl)) ?_
      refine rg_nil ?_
      exact qg_round_sp _ _ _ ⟨k + 1, _, By', by omega, by rw [List.take_succ_eq_append_getElem hklt, hx]; exact howe', rfl, rfl, rfl⟩ (by repeat (first | exact Sub.nil | refine Sub.cons rfl ?_ | refine Sub.cons (congrArg (fun z => some (Value.int IntKind.i64 z)) (by omega)) ?_)) (cat_sub (ls' := [[(b3, _)], By', Bz, [(b2, _)], [(b1, _)]]) (ls := [By', [(b59, _)], [(b7, _)], [(b3, _)], Bz, [(b2, _)], [(b1, _)]]) (by repeat (first | exact SubM.nil | refine SubM.cons (by repeat (first | exact Ins.here | apply Ins.there)) ?_))) (by omega)
    · intro hlt
      obtain rfl : k = es.length := by omega
      rw [List.take_length] at howe
      refine rg_nil ?_
      refine qg_then ?_
      refine cg_seq ?_
      refine cg_false rfl ?_
      refine cg_exit ?_
      refine qg_then_exit ?_
      refine qg_then_exit ?_
      refine qg_block_here ?_
      refine qg_then ?_
      refine cg_seq ?_
      simp only [List.take_length]
      refine cg_region ?_
      refine rg_q (.inl rfl) rfl rfl (by exact qr_loadN rfl (by repeat (first | exact List.Mem.head _ | apply List.Mem.tail | apply List.mem_append_right | assumption)) (by repeat (first | exact SegL.done | apply SegL.take | apply SegL.skip))) ?_
      refine rg_e0 (.inl rfl) rfl (by exact ev_store rfl rfl (by first | exact CellsOf.agg | exact CellsOf.one rfl) (by repeat (first | exact List.Mem.head _ | apply List.Mem.tail | apply List.mem_append_right | assumption)) (by repeat (first | exact SetSeg.done | apply SetSeg.take | apply SetSeg.skip)) rfl rfl (by repeat (first | exact Upd.here | apply Upd.there | apply Upd.app)) (by first | exact Or.inl ⟨inferInstance, rfl⟩ | exact Or.inr inferInstance)) ?_
      rintro _ _ ⟨rfl, rfl⟩
      refine rg_nil ?_
      refine qg_then ?_
      refine cg_ret ?_
      exact qg_end_sp (.inl rfl) _ (.cons (resCellN rfl (by repeat (first | exact List.Mem.head _ | apply List.Mem.tail | apply List.mem_append_right | assumption)) (by repeat (first | exact SegL.done | apply SegL.take | apply SegL.skip))) (.nil)) _ (cat_sub (ls' := [By, Bz]) (ls := [[(b3, _)], By, Bz, [(b2, _)], [(b1, _)]]) (by repeat (first | exact SubM.nil | refine SubM.cons (by repeat (first | exact Ins.here | apply Ins.there)) ?_))) ⟨_, _, _, By ++ Bz, rfl, by rw [List.append_assoc]; rfl, (hown.rd (fun _ => rfl) (by decide)).mono (fun q hq => List.mem_append_right _ hq), (howe.rd (fun _ => rfl) (by decide)).mono (fun q hq => List.mem_append_left _ hq)⟩

/-- How much a node can send, over its channels. -/
def cansAt (n : Nat) (es : List Edge) (x : Int) : List Int := (stepsF n es x).map (·.can)
theorem stepsFrom_can {x : Int} : ∀ {es : List Edge} {i : Nat} (_ : ∀ e ∈ es, goodEdge e), ∀ s ∈ stepsFrom x i es, isU64 s.can
  | [], _, _, s, hs => by simp [stepsFrom] at hs
  | e :: es, i, hg, s, hs => by
    simp only [stepsFrom] at hs
    rcases List.mem_append.1 hs with hs | hs
    · have he := hg e List.mem_cons_self
      unfold stepOf at hs
      by_cases h0 : sideOf e x = 0
      · rw [if_pos h0] at hs
        have : s = ⟨i, e.e1, e.c0, e.f0⟩ := by simpa using hs
        subst this; exact he.1
      · by_cases h1 : sideOf e x = 1
        · rw [if_neg h0, if_pos h1] at hs
          have : s = ⟨i, e.e0, e.c1, e.f1⟩ := by simpa using hs
          subst this; exact he.2.1
        · rw [if_neg h0, if_neg h1] at hs; simp at hs
    · exact stepsFrom_can (fun e he => hg e (List.mem_cons_of_mem _ he)) s hs
theorem cansAt_u {n : Nat} {es : List Edge} {x : Int} (hg : ∀ e ∈ es, goodEdge e) : ∀ c ∈ cansAt n es x, isU64 c := by
  intro c hc
  unfold cansAt at hc
  obtain ⟨s, hs, rfl⟩ := List.mem_map.1 hc
  unfold stepsF at hs
  split at hs
  · exact stepsFrom_can hg s hs
  · simp at hs
theorem seg_s {A : Array Value} {o k : Nat} {ss : List Step} (h : Seg A o (ss.flatMap encS)) (hk : k < ss.length) : Seg A (o + k * 5) (encS ss[k]) :=
  h.elem (enc := encS) (k := 5) (fun _ => rfl) hk

theorem sends_ca (n : Nat) (es : List Edge) (x : Int) (p : Option Addr) (cap : Nat) (ev : Value) (O : Out) (L : List Blk) (he : RdW L encE ev es) (hg : ∀ e ∈ es, goodEdge e) (hn : n < 9223372036854775808) (hes : es.length ≤ 1000) :
    CA Try.prog 18 [.agg #[.slice p n cap, ev], I x] O L fun v L' => v = .tuple #[U (sumM 0 (cansAt n es x)).1, I (sumM 0 (cansAt n es x)).2] ∧ L' = L := by
  obtain ⟨p2, cap2, rfl, hR2⟩ := id he
  refine ca_enter Try.func18 rfl rfl ?_
  rw [Try.ntmps18]
  simp only [envOf]
  refine cg_seq ?_
  refine cg_region ?_
  refine rg_e (.inl rfl) rfl rfl (by exact ev_box rfl (by first | exact CellsOf.agg | exact CellsOf.one rfl)) ?_
  rintro _ _ ⟨b2, rfl, rfl⟩
  refine rg_q (.inl rfl) rfl rfl (by exact QW.qr (qw_assign rfl)) ?_
  refine rg_q (.inl rfl) rfl rfl (by exact QW.qr (qw_assign rfl)) ?_
  refine rg_nil ?_
  refine qg_then ?_
  refine cg_seq ?_
  refine cg_region ?_
  refine rg_q (.inl rfl) rfl rfl (by exact QW.qr (qw_assign rfl)) ?_
  refine rg_nil ?_
  refine qg_then ?_
  refine cg_seq ?_
  refine cg_seq ?_
  refine cg_region ?_
  refine rg_q (.inl rfl) rfl rfl (by exact qr_loadN rfl (by repeat (first | exact List.Mem.head _ | apply List.Mem.tail | apply List.mem_append_right | assumption)) (by repeat (first | exact SegL.done | apply SegL.take | apply SegL.skip))) ?_
  refine rg_q (.inl rfl) rfl rfl (by exact QW.qr (qw_move rfl)) ?_
  refine rg_e (.inl rfl) rfl rfl (by exact ev_call0 rfl (.cons rfl (.cons rfl (.nil))) (rsteps_ca n es x p cap _ O _ (he.mono (fun q hq => List.mem_cons_of_mem _ hq)) hn (by omega))) ?_
  rintro stv _ ⟨Bs, rfl, hst⟩
  obtain ⟨pst, cst, rfl, hlst, hcst, hsst, hRst⟩ := id hst
  have hsl := stepsF_len n es x
  refine rg_q (.inl rfl) rfl rfl (by exact QW.qr (qw_len_slice (t := 91) (.cons rfl (.nil)) rfl)) ?_
  refine rg_q (.inl rfl) rfl rfl (by exact QW.qr (qw_move rfl)) ?_
  refine rg_nil ?_
  refine qg_then ?_
  refine cg_block ?_
  refine cg_loop (fun E' L' m => ∃ (k : Nat) (ov : Value) (B : List Blk), k ≤ (stepsF n es x).length ∧ OwnL 26 encU 1 ov (((stepsF n es x).take k).map (·.can)) B ∧ E' = [(6, ov), (11, .slice pst (stepsF n es x).length cst), (12, .int .i64 (stepsF n es x).length), (13, .int .i64 k)] ∧ L' = cat [B, Bs, [(b2, .cells [Value.slice p n cap, Value.slice p2 es.length cap2].toArray 25 (0, 0))]] L ∧ m = (stepsF n es x).length - k)
    _ _ _ ⟨0, _, [], by omega, OwnL.nil, rfl, rfl, rfl⟩ (by repeat (first | exact Sub.nil | refine Sub.cons rfl ?_ | refine Sub.cons (congrArg (fun z => some (Value.int IntKind.i64 z)) (by omega)) ?_)) (List.Perm.refl _) ?_
  rintro _ _ _ ⟨k, ov, B, hk, hown, rfl, rfl, rfl⟩
  refine cg_seq ?_
  refine cg_region ?_
  refine rg_split (.inl rfl) rfl rfl (by exact qc_lss rfl rfl) ?_ ?_
  · intro hlt
    have hklt : k < (stepsF n es x).length := by omega
    obtain ⟨b0, o0, A0, t0, fz0, rfl, hm0, hseg⟩ := hRst (by omega)
    have hfe := seg_s hseg hklt
    have htk : ((stepsF n es x).take k).length ≤ k := by rw [List.length_take]; omega
    refine rg_nil ?_
    refine qg_then ?_
    refine cg_seq ?_
    refine cg_true rfl ?_
    refine cg_skip ?_
    refine qg_then ?_
    refine cg_seq ?_
    refine cg_block ?_
    refine cg_seq ?_
    refine cg_region ?_
    refine rg_q (.inl rfl) rfl rfl (by exact QW.qr (qw_indexAddr rfl rfl (by omega) (by omega))) ?_
    refine rg_q (.inl rfl) rfl rfl (by exact qr_loadS rfl (mem_cat (s := Bs) (by simp) hm0) hfe rfl) ?_
    refine rg_e (.inl rfl) rfl rfl (by exact ev_alloc (by first | exact CellsOf.agg | exact CellsOf.one rfl)) ?_
    rintro _ _ ⟨b8, rfl, rfl⟩
    refine rg_e0 (.inl rfl) rfl (by exact ev_store rfl rfl (by first | exact CellsOf.agg | exact CellsOf.one rfl) (by repeat (first | exact List.Mem.head _ | apply List.Mem.tail | apply List.mem_append_right | assumption)) (by repeat (first | exact SetSeg.done | apply SetSeg.take | apply SetSeg.skip)) rfl rfl (by repeat (first | exact Upd.here | apply Upd.there | apply Upd.app)) (by first | exact Or.inl ⟨inferInstance, rfl⟩ | exact Or.inr inferInstance)) ?_
    rintro _ _ ⟨rfl, rfl⟩
    refine rg_nil ?_
    refine qg_then ?_
    unfold encS
    refine cg_region ?_
    refine rg_q (.inl rfl) rfl rfl (by exact QW.qr (qw_move rfl)) ?_
    refine rg_q (.inl rfl) rfl rfl (by exact QW.qr (qw_fieldAddr rfl)) ?_
    refine rg_q (.inl rfl) rfl rfl (by exact qr_load1 rfl (by repeat (first | exact List.Mem.head _ | apply List.Mem.tail | apply List.mem_append_right | assumption)) rfl) ?_
    refine rg_e (.inl rfl) rfl rfl (by exact ev_buildSlice (.cons rfl (.nil)) rfl (by first | exact CellsOf.agg | exact CellsOf.one rfl) (by rfl) (.cons rfl (by first | exact CellsOf.agg | exact CellsOf.one rfl) (by repeat (first | exact SetSeg.done | apply SetSeg.take | apply SetSeg.skip)) (by rfl) (by rfl) (.nil))) ?_
    rintro _ _ ⟨b20, rfl, rfl⟩
    refine rg_e (.inl rfl) rfl rfl (by exact ev_appendL (ys := [(stepsF n es x)[k].can]) (T := 39) (T2 := 39) (.cons rfl (.cons rfl .nil)) rfl rfl hown (R := cat [[(b20, _)], [(b8, _)], Bs, [(b2, _)]] L) (cat_perm (ls' := [B, [(b20, _)], [(b8, _)], Bs, [(b2, _)]]) (ls := [[(b20, _)], [(b8, _)], B, Bs, [(b2, _)]]) (by repeat (first | exact PermM.nil | refine PermM.cons (by repeat (first | exact Ins.here | apply Ins.there)) ?_))) (.row (List.Mem.head _) (SegL.seg (m := 1) (by repeat (first | exact SegL.done | apply SegL.take | apply SegL.skip))).1 rfl) (fun _ => rfl) encU_one (by simp only [List.length_singleton, List.length_map]; omega) rfl rfl rfl rfl) ?_
    rintro ov' _ ⟨B', hown', rfl⟩
    refine rg_q (.inl rfl) rfl rfl (by exact QW.qr (qw_assign rfl)) ?_
    refine rg_nil ?_
    refine qg_block ?_
    refine qg_then ?_
    refine cg_region ?_
    refine rg_q (.inl rfl) rfl rfl (by exact QW.qr (qw_add_in rfl rfl (by unfold inK; omega))) ?_
    refine rg_q (.inl rfl) rfl rfl (by exact QW.qr (qw_move rfl)) ?_
    refine rg_nil ?_
    exact qg_round_sp _ _ _ ⟨k + 1, _, B', by omega, by rw [List.take_succ_eq_append_getElem hklt, List.map_append]; exact hown', rfl, rfl, rfl⟩ (by repeat (first | exact Sub.nil | refine Sub.cons rfl ?_ | refine Sub.cons (congrArg (fun z => some (Value.int IntKind.i64 z)) (by omega)) ?_)) (cat_sub (ls' := [B', Bs, [(b2, _)]]) (ls := [B', [(b20, _)], [(b8, _)], Bs, [(b2, _)]]) (by repeat (first | exact SubM.nil | refine SubM.cons (by repeat (first | exact Ins.here | apply Ins.there)) ?_))) (by omega)
  · intro hlt
    obtain rfl : k = (stepsF n es x).length := by omega
    rw [List.take_length] at hown
    refine rg_nil ?_
    refine qg_then ?_
    refine cg_seq ?_
    refine cg_false rfl ?_
    refine cg_exit ?_
    refine qg_then_exit ?_
    refine qg_then_exit ?_
    refine qg_block_here ?_
    refine qg_then ?_
    refine cg_seq ?_
    refine cg_region ?_
    refine rg_q (.inl rfl) rfl rfl (by exact QW.qr (qw_move rfl)) ?_
    refine rg_e (.inl rfl) rfl rfl (by exact ev_call0 rfl (.cons rfl (.nil)) (rsum_ca (cansAt n es x) ov (cansAt_u hg) (by unfold cansAt; rw [List.length_map]; omega) O _ ((hown.rd (fun _ => rfl) (by decide)).mono (fun q hq => mem_cat (s := B) (by simp) hq)))) ?_
    rintro _ _ ⟨rfl, rfl⟩
    refine rg_q (.inl rfl) rfl rfl (by exact QW.qr (qw_extract rfl rfl)) ?_
    refine rg_q (.inl rfl) rfl rfl (by exact QW.qr (qw_extract rfl rfl)) ?_
    refine rg_q (.inl rfl) rfl rfl (by exact QW.qr (qw_assign rfl)) ?_
    refine rg_q (.inl rfl) rfl rfl (by exact QW.qr (qw_assign rfl)) ?_
    refine rg_nil ?_
    refine qg_then ?_
    refine cg_ret ?_
    exact qg_end_sp (.inl rfl) _ (.cons (.tmp rfl) (.cons (.tmp rfl) (.nil))) L (cat_sub (ls' := []) (ls := [B, Bs, [(b2, _)]]) (by repeat (first | exact SubM.nil | refine SubM.cons (by repeat (first | exact Ins.here | apply Ins.there)) ?_))) ⟨rfl, rfl⟩

theorem cloneSp_nil (O : Out) (L : List Blk) :
    CA Try.prog 40 [.slice none 0 0] O L fun v L' => v = .slice none 0 0 ∧ L' = L := by
  refine ca_enter Try.func40 rfl rfl ?_
  rw [Try.ntmps40]
  simp only [envOf]
  refine cg_seq ?_
  refine cg_region ?_
  refine rg_q (.inl rfl) rfl rfl (by exact QW.qr (qw_assign rfl)) ?_
  refine rg_nil ?_
  refine qg_then ?_
  refine cg_seq ?_
  refine cg_seq ?_
  refine cg_region ?_
  refine rg_q (.inl rfl) rfl rfl (by exact QW.qr (qw_move rfl)) ?_
  refine rg_q (.inl rfl) rfl rfl (by exact QW.qr (qw_val (v' := .bool true) (qw_eql_slice_nil rfl rfl) rfl)) ?_
  refine rg_nil ?_
  refine qg_then ?_
  refine cg_true rfl ?_
  refine cg_seq ?_
  refine cg_region ?_
  refine rg_q (.inl rfl) rfl rfl (by exact QW.qr (qw_assign rfl)) ?_
  refine rg_nil ?_
  refine qg_then ?_
  refine cg_ret ?_
  refine qg_then_ret ?_
  exact qg_end (.inl rfl) _ (.cons (.tmp rfl) (.nil)) _ (by repeat (first | exact List.Sublist.refl _ | exact List.nil_sublist _ | exact List.sublist_append_right _ _ | apply List.Sublist.cons_cons | apply List.Sublist.cons)) ⟨rfl, rfl⟩

theorem cloneSp_some (xs : List (Int × Int)) (q : Addr) (cap : Nat) (O : Out) (L : List Blk) (hs : RdL L encSp 2 (.slice (some q) xs.length cap) xs) (hsz : xs.length ≤ 1000000) :
    CA Try.prog 40 [.slice (some q) xs.length cap] O L fun v L' => ∃ B, OwnL 74 encSp 2 v xs B ∧ L' = B ++ L := by
  refine ca_enter Try.func40 rfl rfl ?_
  rw [Try.ntmps40]
  simp only [envOf]
  refine cg_seq ?_
  refine cg_region ?_
  refine rg_q (.inl rfl) rfl rfl (by exact QW.qr (qw_assign rfl)) ?_
  refine rg_nil ?_
  refine qg_then ?_
  refine cg_seq ?_
  refine cg_seq ?_
  refine cg_region ?_
  refine rg_q (.inl rfl) rfl rfl (by exact QW.qr (qw_move rfl)) ?_
  refine rg_q (.inl rfl) rfl rfl (by exact QW.qr (qw_val (v' := .bool false) (qw_eql_slice_nil rfl rfl) rfl)) ?_
  refine rg_nil ?_
  refine qg_then ?_
  refine cg_false rfl ?_
  refine cg_skip ?_
  refine qg_then ?_
  refine cg_seq ?_
  refine cg_region ?_
  refine rg_e (.inl rfl) rfl rfl (by exact ev_buildSlice (.nil) rfl (by first | exact CellsOf.agg | exact CellsOf.one rfl) (by rfl) (.nil)) ?_
  rintro _ _ ⟨b5, rfl, rfl⟩
  refine rg_q (.inl rfl) rfl rfl (by exact QW.qr (qw_move rfl)) ?_
  refine rg_e (.inl rfl) rfl rfl (by exact ev_appendL (xs := []) (ys := xs) (T := 29) (T2 := 29) (.cons rfl (.cons rfl .nil)) rfl rfl (B := [_]) (R := L) OwnS.empty (List.Perm.refl _) hs.src (fun _ => rfl) encSp_one (by simpa using hsz) rfl rfl rfl rfl) ?_
  rintro ov' _ ⟨B', hown', rfl⟩
  refine rg_q (.inl rfl) rfl rfl (by exact QW.qr (qw_assign rfl)) ?_
  refine rg_nil ?_
  refine qg_then ?_
  refine cg_ret ?_
  exact qg_end (.inl rfl) _ (.cons (.tmp rfl) (.nil)) _ (by repeat (first | exact List.Sublist.refl _ | exact List.nil_sublist _ | exact List.sublist_append_right _ _ | apply List.Sublist.cons_cons | apply List.Sublist.cons)) ⟨_, hown', rfl⟩

theorem cloneSp_ca (xs : List (Int × Int)) (s : Value) (O : Out) (L : List Blk) (hs : RdL L encSp 2 s xs) (hsz : xs.length ≤ 1000000) :
    CA Try.prog 40 [s] O L fun v L' => ∃ B, OwnL 74 encSp 2 v xs B ∧ L' = B ++ L := by
  obtain ⟨p, cap, rfl, hl, hcap, hsp, hR⟩ := id hs
  cases p with
  | some q => exact cloneSp_some xs q cap O L hs hsz
  | none =>
    have h0 : xs.length = 0 := Decidable.byContradiction fun h => by
      obtain ⟨b, o, A, t, fz, h1, _⟩ := hR h
      cases h1
    have hx : xs = [] := List.eq_nil_of_length_eq_zero h0
    have hc : cap = 0 ∨ cap ≠ 0 := by omega
    subst hx
    rcases hc with rfl | hc
    · exact (cloneSp_nil O L).mono fun v L' ⟨h1, h2⟩ => ⟨[], by rw [h1]; exact OwnL.nil, h2⟩
    · exact absurd (hsp.2 rfl) hc

theorem cloneE_nil (O : Out) (L : List Blk) :
    CA Try.prog 41 [.slice none 0 0] O L fun v L' => v = .slice none 0 0 ∧ L' = L := by
  refine ca_enter Try.func41 rfl rfl ?_
  rw [Try.ntmps41]
  simp only [envOf]
  refine cg_seq ?_
  refine cg_region ?_
  refine rg_q (.inl rfl) rfl rfl (by exact QW.qr (qw_assign rfl)) ?_
  refine rg_nil ?_
  refine qg_then ?_
  refine cg_seq ?_
  refine cg_seq ?_
  refine cg_region ?_
  refine rg_q (.inl rfl) rfl rfl (by exact QW.qr (qw_move rfl)) ?_
  refine rg_q (.inl rfl) rfl rfl (by exact QW.qr (qw_val (v' := .bool true) (qw_eql_slice_nil rfl rfl) rfl)) ?_
  refine rg_nil ?_
  refine qg_then ?_
  refine cg_true rfl ?_
  refine cg_seq ?_
  refine cg_region ?_
  refine rg_q (.inl rfl) rfl rfl (by exact QW.qr (qw_assign rfl)) ?_
  refine rg_nil ?_
  refine qg_then ?_
  refine cg_ret ?_
  refine qg_then_ret ?_
  exact qg_end (.inl rfl) _ (.cons (.tmp rfl) (.nil)) _ (by repeat (first | exact List.Sublist.refl _ | exact List.nil_sublist _ | exact List.sublist_append_right _ _ | apply List.Sublist.cons_cons | apply List.Sublist.cons)) ⟨rfl, rfl⟩

theorem cloneE_some (xs : List Edge) (q : Addr) (cap : Nat) (O : Out) (L : List Blk) (hs : RdL L encE 8 (.slice (some q) xs.length cap) xs) (hsz : xs.length ≤ 1000000) :
    CA Try.prog 41 [.slice (some q) xs.length cap] O L fun v L' => ∃ B, OwnL 53 encE 8 v xs B ∧ L' = B ++ L := by
  refine ca_enter Try.func41 rfl rfl ?_
  rw [Try.ntmps41]
  simp only [envOf]
  refine cg_seq ?_
  refine cg_region ?_
  refine rg_q (.inl rfl) rfl rfl (by exact QW.qr (qw_assign rfl)) ?_
  refine rg_nil ?_
  refine qg_then ?_
  refine cg_seq ?_
  refine cg_seq ?_
  refine cg_region ?_
  refine rg_q (.inl rfl) rfl rfl (by exact QW.qr (qw_move rfl)) ?_
  refine rg_q (.inl rfl) rfl rfl (by exact QW.qr (qw_val (v' := .bool false) (qw_eql_slice_nil rfl rfl) rfl)) ?_
  refine rg_nil ?_
  refine qg_then ?_
  refine cg_false rfl ?_
  refine cg_skip ?_
  refine qg_then ?_
  refine cg_seq ?_
  refine cg_region ?_
  refine rg_e (.inl rfl) rfl rfl (by exact ev_buildSlice (.nil) rfl (by first | exact CellsOf.agg | exact CellsOf.one rfl) (by rfl) (.nil)) ?_
  rintro _ _ ⟨b5, rfl, rfl⟩
  refine rg_q (.inl rfl) rfl rfl (by exact QW.qr (qw_move rfl)) ?_
  refine rg_e (.inl rfl) rfl rfl (by exact ev_appendL (xs := []) (ys := xs) (T := 30) (T2 := 30) (.cons rfl (.cons rfl .nil)) rfl rfl (B := [_]) (R := L) OwnS.empty (List.Perm.refl _) hs.src (fun _ => rfl) encE_one (by simpa using hsz) rfl rfl rfl rfl) ?_
  rintro ov' _ ⟨B', hown', rfl⟩
  refine rg_q (.inl rfl) rfl rfl (by exact QW.qr (qw_assign rfl)) ?_
  refine rg_nil ?_
  refine qg_then ?_
  refine cg_ret ?_
  exact qg_end (.inl rfl) _ (.cons (.tmp rfl) (.nil)) _ (by repeat (first | exact List.Sublist.refl _ | exact List.nil_sublist _ | exact List.sublist_append_right _ _ | apply List.Sublist.cons_cons | apply List.Sublist.cons)) ⟨_, hown', rfl⟩

theorem cloneE_ca (xs : List Edge) (s : Value) (O : Out) (L : List Blk) (hs : RdL L encE 8 s xs) (hsz : xs.length ≤ 1000000) :
    CA Try.prog 41 [s] O L fun v L' => ∃ B, OwnL 53 encE 8 v xs B ∧ L' = B ++ L := by
  obtain ⟨p, cap, rfl, hl, hcap, hsp, hR⟩ := id hs
  cases p with
  | some q => exact cloneE_some xs q cap O L hs hsz
  | none =>
    have h0 : xs.length = 0 := Decidable.byContradiction fun h => by
      obtain ⟨b, o, A, t, fz, h1, _⟩ := hR h
      cases h1
    have hx : xs = [] := List.eq_nil_of_length_eq_zero h0
    have hc : cap = 0 ∨ cap ≠ 0 := by omega
    subst hx
    rcases hc with rfl | hc
    · exact (cloneE_nil O L).mono fun v L' ⟨h1, h2⟩ => ⟨[], by rw [h1]; exact OwnL.nil, h2⟩
    · exact absurd (hsp.2 rfl) hc

end Go.Proofs.Ytjimpciiaceleaa