/-
  THE WALKS of web's Sent, path's Route.Go: what goes over a channel. Conditions: sizes; what is sent is there, and fits.
-/
import Derived.Test.YtjimpciiaceleaaA21
import Derived.Test.YtjimpciiaceleaaFwM
namespace Go.Proofs.Ytjimpciiaceleaa
open Fw
set_option linter.unusedVariables false
set_option maxRecDepth 100000

/-- A channel behind a sending of its end s. -/
def moved (e : Edge) (s : Nat) (a : Int) : Edge := if s = 0 then ⟨e.e0, e.e1, e.c0 - a, e.c1 + a, e.f0, e.f1⟩ else ⟨e.e0, e.e1, e.c0 + a, e.c1 - a, e.f0, e.f1⟩
theorem moved_sets {e : Edge} {s : Nat} (hs : s < 2) (a : Int) : ∃ e1, SetSeg (encE e) (2 + (s : Int).toNat * 1) [U (canAt e s - a)] (encE e1) ∧ SetSeg (encE e1) (2 + (1 - (s : Int)).toNat * 1) [U (canAt e (1 - s) + a)] (encE (moved e s a)) := by
  have h01 : s = 0 ∨ s = 1 := by omega
  rcases h01 with rfl | rfl
  · exact ⟨⟨e.e0, e.e1, e.c0 - a, e.c1, e.f0, e.f1⟩, (by repeat (first | exact SetSeg.done | apply SetSeg.take | apply SetSeg.skip)), (by repeat (first | exact SetSeg.done | apply SetSeg.take | apply SetSeg.skip))⟩
  · exact ⟨⟨e.e0, e.e1, e.c0, e.c1 - a, e.f0, e.f1⟩, (by repeat (first | exact SetSeg.done | apply SetSeg.take | apply SetSeg.skip)), (by repeat (first | exact SetSeg.done | apply SetSeg.take | apply SetSeg.skip))⟩
theorem edge_can {A : Array Value} {o : Nat} {e : Edge} (h : Seg A o (encE e)) {s : Nat} (hs : s < 2) : A[o + 2 + (s : Int).toNat * 1]? = some (U (canAt e s)) ∧ A[o + 2 + (1 - (s : Int)).toNat * 1]? = some (U (canAt e (1 - s))) := by
  have h01 : s = 0 ∨ s = 1 := by omega
  rcases h01 with rfl | rfl
  · exact ⟨h.get (i := 2) rfl, h.get (i := 3) rfl⟩
  · exact ⟨h.get (i := 3) rfl, h.get (i := 2) rfl⟩
theorem canAt_u {e : Edge} (h : goodEdge e) (s : Nat) : isU64 (canAt e s) := by
  unfold canAt
  split
  · exact h.1
  · exact h.2.1

theorem sent_ca (spots : List (Int × Int)) (es : List Edge) (x u a : Int) (s : Nat) (sv ev : Value) (hev : ev.oneCell' = true) (O : Out) (L : List Blk) (hs : RdL L encSp 2 sv spots) (he : RdL L encE 8 ev es) (hn : spots.length ≤ 1000) (hes : es.length ≤ 1000)
    (hck : checkF spots.length es = 0) (hx0 : 0 ≤ x) (hx1 : x.toNat < es.length) (hse : sideOf (edgeAt es x) u = s) (hs2 : s < 2) (ha : isU64 a) (hcan : a ≤ canAt (edgeAt es x) s) (hroom : canAt (edgeAt es x) (1 - s) + a < 18446744073709551616) (hg : goodEdge (edgeAt es x)) :
    CA Try.prog 42 [.agg #[sv, ev], I x, I u, U a] O L fun v L' => ∃ zv yv B, v = .tuple #[.agg #[zv, yv], I 0] ∧ L' = B ++ L ∧ RdL B encSp 2 zv spots ∧ RdL B encE 8 yv (es.set x.toNat (moved (edgeAt es x) s a)) := by
  obtain ⟨p, cap, rfl, hls, hcaps, hsps, hRs⟩ := id hs
  have hadd : addM (canAt (edgeAt es x) (1 - s)) a = (canAt (edgeAt es x) (1 - s) + a, 0) := by rw [addM, if_pos hroom]
  have hcu := canAt_u hg s
  have hcu1 := canAt_u hg (1 - s)
  unfold isU64 at hcu
  have ha2 := ha.1
  obtain ⟨pe, ce, rfl, hle, hce, hspe, hRe⟩ := id he
  obtain ⟨b0, o0, A0, t0, fz0, rfl, hm0, hseg⟩ := hRe (by omega)
  have hfe := hseg.elem (enc := encE) (k := 8) (fun _ => rfl) hx1
  rw [edgeAt_eq hx1] at hfe
  refine ca_enter Try.func42 rfl rfl ?_
  rw [Try.ntmps42]
  simp only [envOf]
  refine cg_seq ?_
  refine cg_region ?_
  refine rg_e (.inl rfl) rfl rfl (by exact ev_box rfl (by first | exact CellsOf.agg | exact CellsOf.one rfl)) ?_
  rintro _ _ ⟨b4, rfl, rfl⟩
  refine rg_e (.inl rfl) rfl rfl (by exact ev_alloc (by first | exact CellsOf.agg | exact CellsOf.one rfl)) ?_
  rintro _ _ ⟨b8, rfl, rfl⟩
  refine rg_q (.inl rfl) rfl rfl (by exact QW.qr (qw_assign rfl)) ?_
  refine rg_nil ?_
  refine qg_then ?_
  refine cg_seq ?_
  refine cg_seq ?_
  refine cg_region ?_
  refine rg_q (.inl rfl) rfl rfl (by exact qr_loadN rfl (by repeat (first | exact List.Mem.head _ | apply List.Mem.tail | apply List.mem_append_right | assumption)) (by repeat (first | exact SegL.done | apply SegL.take | apply SegL.skip))) ?_
  refine rg_e (.inl rfl) rfl rfl (by exact ev_call0 rfl (.cons rfl (.nil)) (check_ca spots.length es p cap _ O _ (he.mono (fun q hq => by repeat (first | exact hq | apply List.mem_append_right | apply List.mem_cons_of_mem))) (by omega) (by omega))) ?_
  rintro _ _ ⟨rfl, rfl⟩
  rw [hck]
  refine rg_q (.inl rfl) rfl rfl (by exact QW.qr (qw_assign rfl)) ?_
  refine rg_nil ?_
  refine qg_then ?_
  refine cg_seq ?_
  refine cg_region ?_
  refine rg_q (.inl rfl) rfl rfl (by exact QW.qr (qw_move rfl)) ?_
  refine rg_q (.inl rfl) rfl rfl (by exact QW.qr (qw_neq_f rfl rfl (fun h => h rfl))) ?_
  refine rg_nil ?_
  refine qg_then ?_
  refine cg_false rfl ?_
  refine cg_skip ?_
  refine qg_then ?_
  refine cg_seq ?_
  refine cg_seq ?_
  refine cg_region ?_
  refine rg_q (.inl rfl) rfl rfl (by exact QW.qr (qw_move rfl)) ?_
  refine rg_q (.inl rfl) rfl rfl (by exact QW.qr (qw_lss_f rfl rfl (by omega))) ?_
  refine rg_q (.inl rfl) rfl rfl (by exact QW.qr (qw_move rfl)) ?_
  refine rg_q (.inr (guard_mk rfl rfl rfl rfl)) rfl rfl (by exact QW.qr (qw_move rfl)) ?_
  refine rg_q (.inr (guard_mk rfl rfl rfl rfl)) rfl rfl (by exact QW.qr (qw_fieldAddr rfl)) ?_
  refine rg_q (.inr (guard_mk rfl rfl rfl rfl)) rfl rfl (by exact qr_load1 rfl (by repeat (first | exact List.Mem.head _ | apply List.Mem.tail | apply List.mem_append_right | assumption)) rfl) ?_
  refine rg_q (.inr (guard_mk rfl rfl rfl rfl)) rfl rfl (by exact QW.qr (qw_len_slice (t := 30) (.cons rfl (.nil)) rfl)) ?_
  refine rg_q (.inr (guard_mk rfl rfl rfl rfl)) rfl rfl (by exact QW.qr (qw_geq_f rfl rfl (by omega))) ?_
  refine rg_q (.inl rfl) rfl rfl (by exact QW.qr (qw_pick_f rfl rfl)) ?_
  refine rg_nil ?_
  refine qg_then ?_
  refine cg_false rfl ?_
  refine cg_skip ?_
  refine qg_then ?_
  refine cg_seq ?_
  refine cg_region ?_
  refine rg_q (.inl rfl) rfl rfl (by exact QW.qr (qw_fieldAddr rfl)) ?_
  refine rg_q (.inl rfl) rfl rfl (by exact qr_load1 rfl (by repeat (first | exact List.Mem.head _ | apply List.Mem.tail | apply List.mem_append_right | assumption)) rfl) ?_
  refine rg_q (.inl rfl) rfl rfl (by exact QW.qr (qw_move rfl)) ?_
  refine rg_q (.inl rfl) rfl rfl (by exact QW.qr (qw_indexAddr rfl rfl (by exact hx0) (by show x < _; omega))) ?_
  refine rg_q (.inl rfl) rfl rfl (by exact qr_loadS rfl (List.mem_cons_of_mem _ (List.mem_cons_of_mem _ hm0)) hfe rfl) ?_
  refine rg_q (.inl rfl) rfl rfl (by exact QW.qr (qw_move rfl)) ?_
  refine rg_e (.inl rfl) rfl rfl (by exact ev_call0 rfl (.cons rfl (.cons rfl (.nil))) (side_ca (edgeAt es x) u O _)) ?_
  rintro _ _ ⟨rfl, rfl⟩
  rw [hse]
  refine rg_q (.inl rfl) rfl rfl (by exact QW.qr (qw_assign rfl)) ?_
  refine rg_nil ?_
  refine qg_then ?_
  refine cg_seq ?_
  refine cg_seq ?_
  refine cg_region ?_
  refine rg_q (.inl rfl) rfl rfl (by exact QW.qr (qw_move rfl)) ?_
  refine rg_q (.inl rfl) rfl rfl (by exact QW.qr (qw_lss_f rfl rfl (by omega))) ?_
  refine rg_nil ?_
  refine qg_then ?_
  refine cg_false rfl ?_
  refine cg_skip ?_
  refine qg_then ?_
  refine cg_cut (fun E' L' => ∃ (b : Nat) (zv yv : Value) (Bz By : List Blk), OwnL 74 encSp 2 zv spots Bz ∧ OwnL 53 encE 8 yv es By ∧ E' = [(1, I x), (3, U a), (8, .pointer (some ⟨b8, 0, none⟩)), (11, I s), (12, .pointer (some ⟨b, 0, none⟩))] ∧
    L' = cat [[(b, .cells [zv, yv].toArray 32 (0, 0))], By, Bz, [(b8, .cells [Value.slice none 0 0, Value.slice none 0 0].toArray 32 (0, 0))]] L) ?_ ?_
  · -- the first part
    refine cg_draw follows (.op 0 false (.op 1 false (.op 3 false (.op 4 false (.two 2 true (.two 5 false (.op 6 false (.op 7 true (.op 8 false .done))) 7 true (.op 5 false (.op 6 false (.op 8 false .done)))) 7 true (.op 2 true (.op 5 false (.op 6 false (.op 8 false .done))))))))) _ (by kernel_rfl) (SubP.of (List.Sublist.refl _)) ?_
    refine dg_w rfl rfl (.inl rfl) rfl rfl (by exact qw_fieldAddr rfl) ?_
    refine dg_r rfl rfl rfl (.inl rfl) rfl rfl (by exact qr_load1 rfl (by repeat (first | exact List.Mem.head _ | apply List.Mem.tail | apply List.mem_append_right | assumption)) rfl) ?_
    refine dg_w rfl rfl (.inl rfl) rfl rfl (by exact qw_fieldAddr rfl) ?_
    refine dg_r rfl rfl rfl (.inl rfl) rfl rfl (by exact qr_load1 rfl (by repeat (first | exact List.Mem.head _ | apply List.Mem.tail | apply List.mem_append_right | assumption)) rfl) ?_
    refine dg_two rfl rfl ?_ ?_
    · skip
      refine dg_e rfl rfl (.inl rfl) rfl rfl (by exact ev_call0 rfl (.cons rfl (.nil)) (cloneSp_ca spots _ O _ (hs.mono (fun q hq => by repeat (first | exact hq | apply List.mem_append_right | apply List.mem_cons_of_mem))) (by omega))) ?_
      rintro zv _ ⟨Bz, hoz, rfl⟩
      obtain ⟨pz, cz, rfl, hqz⟩ := id (hoz.rd (fun _ => rfl) (by decide))
      refine ⟨(SubP.of (by repeat (first | exact List.Sublist.refl _ | exact List.nil_sublist _ | exact List.sublist_append_right _ _ | apply List.Sublist.cons_cons | apply List.Sublist.cons | refine List.Sublist.trans ?_ (List.sublist_append_right _ _)))), ?_⟩
      refine dg_two rfl rfl ?_ ?_
      · skip
        refine dg_g rfl rfl (.inl rfl) rfl rfl (by exact ev_call0 rfl (.cons rfl (.nil)) (cloneE_ca es _ O _ (he.mono (fun q hq => by repeat (first | exact hq | apply List.mem_append_right | apply List.mem_cons_of_mem))) (by omega))) ?_
        rintro yv _ ⟨By, hoy, rfl⟩
        obtain ⟨py, cy, rfl, hqy⟩ := id (hoy.rd (fun _ => rfl) (by decide))
        refine dg_w rfl rfl (.inl rfl) rfl rfl (by exact qw_build (.cons rfl (.cons rfl (.nil))) rfl (.cons rfl (by first | exact CellsOf.agg | exact CellsOf.one rfl) (by repeat (first | exact SetSeg.done | apply SetSeg.take | apply SetSeg.skip)) (by rfl) (by rfl) (.cons rfl (by first | exact CellsOf.agg | exact CellsOf.one rfl) (by repeat (first | exact SetSeg.done | apply SetSeg.take | apply SetSeg.skip)) (by rfl) (by rfl) (.nil)))) ?_
        refine dg_e rfl rfl (.inl rfl) rfl rfl (by exact ev_alloc (by first | exact CellsOf.agg | exact CellsOf.one rfl)) ?_
        rintro _ _ ⟨b12, rfl, rfl⟩
        refine ⟨(SubP.of (by repeat (first | exact List.Sublist.refl _ | exact List.nil_sublist _ | exact List.sublist_append_right _ _ | apply List.Sublist.cons_cons | apply List.Sublist.cons | refine List.Sublist.trans ?_ (List.sublist_append_right _ _)))), ?_⟩
        refine dg_g0 rfl rfl (.inl rfl) rfl (by exact ev_store rfl rfl (by first | exact CellsOf.agg | exact CellsOf.one rfl) (by repeat (first | exact List.Mem.head _ | apply List.Mem.tail | apply List.mem_append_right | assumption)) (by repeat (first | exact SetSeg.done | apply SetSeg.take | apply SetSeg.skip)) rfl rfl (by repeat (first | exact Upd.here | apply Upd.there | apply Upd.app)) (by first | exact Or.inl ⟨inferInstance, rfl⟩ | exact Or.inr inferInstance)) ?_
        rintro _ _ ⟨rfl, rfl⟩
        refine dg_nil ?_
        first
          | exact qg_cut_sp _ _ ⟨_, _, _, Bz, By, hoz, hoy, rfl, rfl⟩ (by repeat (first | exact Sub.nil | refine Sub.cons rfl ?_ | refine Sub.cons (congrArg (fun z => some (Value.int IntKind.i64 z)) (by omega)) ?_)) (cat_sub (ls' := [[_], By, Bz, [_]]) (ls := [[_], By, Bz, [_], [_]]) (by repeat (first | exact SubM.nil | refine SubM.cons (by repeat (first | exact Ins.here | apply Ins.there)) ?_)))
          | exact qg_cut_sp _ _ ⟨_, _, _, Bz, By, hoz, hoy, rfl, rfl⟩ (by repeat (first | exact Sub.nil | refine Sub.cons rfl ?_ | refine Sub.cons (congrArg (fun z => some (Value.int IntKind.i64 z)) (by omega)) ?_)) (cat_sub (ls' := [[_], By, Bz, [_]]) (ls := [By, [_], Bz, [_], [_]]) (by repeat (first | exact SubM.nil | refine SubM.cons (by repeat (first | exact Ins.here | apply Ins.there)) ?_)))
          | exact qg_cut_sp _ _ ⟨_, _, _, Bz, By, hoz, hoy, rfl, rfl⟩ (by repeat (first | exact Sub.nil | refine Sub.cons rfl ?_ | refine Sub.cons (congrArg (fun z => some (Value.int IntKind.i64 z)) (by omega)) ?_)) (cat_sub (ls' := [[_], By, Bz, [_]]) (ls := [By, Bz, [_], [_], [_]]) (by repeat (first | exact SubM.nil | refine SubM.cons (by repeat (first | exact Ins.here | apply Ins.there)) ?_)))
      · skip
        refine dg_e rfl rfl (.inl rfl) rfl rfl (by exact ev_alloc (by first | exact CellsOf.agg | exact CellsOf.one rfl)) ?_
        rintro _ _ ⟨b12, rfl, rfl⟩
        refine ⟨(SubP.of (by repeat (first | exact List.Sublist.refl _ | exact List.nil_sublist _ | exact List.sublist_append_right _ _ | apply List.Sublist.cons_cons | apply List.Sublist.cons | refine List.Sublist.trans ?_ (List.sublist_append_right _ _)))), ?_⟩
        refine dg_g rfl rfl (.inl rfl) rfl rfl (by exact ev_call0 rfl (.cons rfl (.nil)) (cloneE_ca es _ O _ (he.mono (fun q hq => by repeat (first | exact hq | apply List.mem_append_right | apply List.mem_cons_of_mem))) (by omega))) ?_
        rintro yv _ ⟨By, hoy, rfl⟩
        obtain ⟨py, cy, rfl, hqy⟩ := id (hoy.rd (fun _ => rfl) (by decide))
        refine dg_w rfl rfl (.inl rfl) rfl rfl (by exact qw_build (.cons rfl (.cons rfl (.nil))) rfl (.cons rfl (by first | exact CellsOf.agg | exact CellsOf.one rfl) (by repeat (first | exact SetSeg.done | apply SetSeg.take | apply SetSeg.skip)) (by rfl) (by rfl) (.cons rfl (by first | exact CellsOf.agg | exact CellsOf.one rfl) (by repeat (first | exact SetSeg.done | apply SetSeg.take | apply SetSeg.skip)) (by rfl) (by rfl) (.nil)))) ?_
        refine dg_g0 rfl rfl (.inl rfl) rfl (by exact ev_store rfl rfl (by first | exact CellsOf.agg | exact CellsOf.one rfl) (by repeat (first | exact List.Mem.head _ | apply List.Mem.tail | apply List.mem_append_right | assumption)) (by repeat (first | exact SetSeg.done | apply SetSeg.take | apply SetSeg.skip)) rfl rfl (by repeat (first | exact Upd.here | apply Upd.there | apply Upd.app)) (by first | exact Or.inl ⟨inferInstance, rfl⟩ | exact Or.inr inferInstance)) ?_
        rintro _ _ ⟨rfl, rfl⟩
        refine dg_nil ?_
        first
          | exact qg_cut_sp _ _ ⟨_, _, _, Bz, By, hoz, hoy, rfl, rfl⟩ (by repeat (first | exact Sub.nil | refine Sub.cons rfl ?_ | refine Sub.cons (congrArg (fun z => some (Value.int IntKind.i64 z)) (by omega)) ?_)) (cat_sub (ls' := [[_], By, Bz, [_]]) (ls := [[_], By, Bz, [_], [_]]) (by repeat (first | exact SubM.nil | refine SubM.cons (by repeat (first | exact Ins.here | apply Ins.there)) ?_)))
          | exact qg_cut_sp _ _ ⟨_, _, _, Bz, By, hoz, hoy, rfl, rfl⟩ (by repeat (first | exact Sub.nil | refine Sub.cons rfl ?_ | refine Sub.cons (congrArg (fun z => some (Value.int IntKind.i64 z)) (by omega)) ?_)) (cat_sub (ls' := [[_], By, Bz, [_]]) (ls := [By, [_], Bz, [_], [_]]) (by repeat (first | exact SubM.nil | refine SubM.cons (by repeat (first | exact Ins.here | apply Ins.there)) ?_)))
          | exact qg_cut_sp _ _ ⟨_, _, _, Bz, By, hoz, hoy, rfl, rfl⟩ (by repeat (first | exact Sub.nil | refine Sub.cons rfl ?_ | refine Sub.cons (congrArg (fun z => some (Value.int IntKind.i64 z)) (by omega)) ?_)) (cat_sub (ls' := [[_], By, Bz, [_]]) (ls := [By, Bz, [_], [_], [_]]) (by repeat (first | exact SubM.nil | refine SubM.cons (by repeat (first | exact Ins.here | apply Ins.there)) ?_)))
    · skip
      refine dg_e rfl rfl (.inl rfl) rfl rfl (by exact ev_alloc (by first | exact CellsOf.agg | exact CellsOf.one rfl)) ?_
      rintro _ _ ⟨b12, rfl, rfl⟩
      refine ⟨(SubP.of (by repeat (first | exact List.Sublist.refl _ | exact List.nil_sublist _ | exact List.sublist_append_right _ _ | apply List.Sublist.cons_cons | apply List.Sublist.cons | refine List.Sublist.trans ?_ (List.sublist_append_right _ _)))), ?_⟩
      refine dg_e rfl rfl (.inl rfl) rfl rfl (by exact ev_call0 rfl (.cons rfl (.nil)) (cloneSp_ca spots _ O _ (hs.mono (fun q hq => by repeat (first | exact hq | apply List.mem_append_right | apply List.mem_cons_of_mem))) (by omega))) ?_
      rintro zv _ ⟨Bz, hoz, rfl⟩
      obtain ⟨pz, cz, rfl, hqz⟩ := id (hoz.rd (fun _ => rfl) (by decide))
      refine ⟨(SubP.of (by repeat (first | exact List.Sublist.refl _ | exact List.nil_sublist _ | exact List.sublist_append_right _ _ | apply List.Sublist.cons_cons | apply List.Sublist.cons | refine List.Sublist.trans ?_ (List.sublist_append_right _ _)))), ?_⟩
      refine dg_g rfl rfl (.inl rfl) rfl rfl (by exact ev_call0 rfl (.cons rfl (.nil)) (cloneE_ca es _ O _ (he.mono (fun q hq => by repeat (first | exact hq | apply List.mem_append_right | apply List.mem_cons_of_mem))) (by omega))) ?_
      rintro yv _ ⟨By, hoy, rfl⟩
      obtain ⟨py, cy, rfl, hqy⟩ := id (hoy.rd (fun _ => rfl) (by decide))
      refine dg_w rfl rfl (.inl rfl) rfl rfl (by exact qw_build (.cons rfl (.cons rfl (.nil))) rfl (.cons rfl (by first | exact CellsOf.agg | exact CellsOf.one rfl) (by repeat (first | exact SetSeg.done | apply SetSeg.take | apply SetSeg.skip)) (by rfl) (by rfl) (.cons rfl (by first | exact CellsOf.agg | exact CellsOf.one rfl) (by repeat (first | exact SetSeg.done | apply SetSeg.take | apply SetSeg.skip)) (by rfl) (by rfl) (.nil)))) ?_
      refine dg_g0 rfl rfl (.inl rfl) rfl (by exact ev_store rfl rfl (by first | exact CellsOf.agg | exact CellsOf.one rfl) (by repeat (first | exact List.Mem.head _ | apply List.Mem.tail | apply List.mem_append_right | assumption)) (by repeat (first | exact SetSeg.done | apply SetSeg.take | apply SetSeg.skip)) rfl rfl (by repeat (first | exact Upd.here | apply Upd.there | apply Upd.app)) (by first | exact Or.inl ⟨inferInstance, rfl⟩ | exact Or.inr inferInstance)) ?_
      rintro _ _ ⟨rfl, rfl⟩
      refine dg_nil ?_
      first
        | exact qg_cut_sp _ _ ⟨_, _, _, Bz, By, hoz, hoy, rfl, rfl⟩ (by repeat (first | exact Sub.nil | refine Sub.cons rfl ?_ | refine Sub.cons (congrArg (fun z => some (Value.int IntKind.i64 z)) (by omega)) ?_)) (cat_sub (ls' := [[_], By, Bz, [_]]) (ls := [[_], By, Bz, [_], [_]]) (by repeat (first | exact SubM.nil | refine SubM.cons (by repeat (first | exact Ins.here | apply Ins.there)) ?_)))
        | exact qg_cut_sp _ _ ⟨_, _, _, Bz, By, hoz, hoy, rfl, rfl⟩ (by repeat (first | exact Sub.nil | refine Sub.cons rfl ?_ | refine Sub.cons (congrArg (fun z => some (Value.int IntKind.i64 z)) (by omega)) ?_)) (cat_sub (ls' := [[_], By, Bz, [_]]) (ls := [By, [_], Bz, [_], [_]]) (by repeat (first | exact SubM.nil | refine SubM.cons (by repeat (first | exact Ins.here | apply Ins.there)) ?_)))
        | exact qg_cut_sp _ _ ⟨_, _, _, Bz, By, hoz, hoy, rfl, rfl⟩ (by repeat (first | exact Sub.nil | refine Sub.cons rfl ?_ | refine Sub.cons (congrArg (fun z => some (Value.int IntKind.i64 z)) (by omega)) ?_)) (cat_sub (ls' := [[_], By, Bz, [_]]) (ls := [By, Bz, [_], [_], [_]]) (by repeat (first | exact SubM.nil | refine SubM.cons (by repeat (first | exact Ins.here | apply Ins.there)) ?_)))
  · rintro _ _ ⟨b12, zv, yv, Bz, By, hoz, hoy, rfl, rfl⟩
    obtain ⟨pz, cz, rfl, hqz⟩ := id (hoz.rd (fun _ => rfl) (by decide))
    obtain ⟨bY, cY, rest, rfl, rfl, hlY, hcY⟩ := hoy.view (fun _ => rfl) (by decide) (by omega)
    obtain ⟨e1, hset1, hset2⟩ := moved_sets (e := edgeAt es x) hs2 a
    have hsegY := (seg_pre (cs := es.flatMap encE) (rest := rest)).elem (enc := encE) (k := 8) (fun _ => rfl) hx1
    rw [edgeAt_eq hx1] at hsegY
    obtain ⟨hgc, hgd⟩ := edge_can hsegY hs2
    have hst1 := setSeg_flat (enc := encE) (k := 8) (fun _ => rfl) rest es x.toNat hx1 (by rw [edgeAt_eq hx1]; exact hset1)
    have hst2 := setSeg_flat (enc := encE) (k := 8) (fun _ => rfl) rest (es.set x.toNat e1) x.toNat (by rw [List.length_set]; exact hx1) (by rw [List.getElem_set_self]; exact hset2)
    rw [List.set_set] at hst2
    rw [show ∀ m : Nat, x.toNat * 8 + (2 + m) = 0 + x.toNat * 8 + 2 + m from fun m => by omega] at hst1 hst2
    refine cg_seq ?_
    refine cg_region ?_
    refine rg_q (.inl rfl) rfl rfl (by exact QW.qr (qw_fieldAddr rfl)) ?_
    refine rg_q (.inl rfl) rfl rfl (by exact qr_load1 rfl (by repeat (first | exact List.Mem.head _ | apply List.Mem.tail | apply List.mem_append_right | assumption)) rfl) ?_
    refine rg_q (.inl rfl) rfl rfl (by exact QW.qr (qw_move rfl)) ?_
    refine rg_q (.inl rfl) rfl rfl (by exact QW.qr (qw_indexAddr rfl rfl (by exact hx0) (by show x < _; omega))) ?_
    refine rg_q (.inl rfl) rfl rfl (by exact QW.qr (qw_assign rfl)) ?_
    refine rg_nil ?_
    refine qg_then ?_
    refine cg_seq ?_
    refine cg_seq ?_
    refine cg_region ?_
    refine rg_q (.inl rfl) rfl rfl (by exact QW.qr (qw_move rfl)) ?_
    refine rg_q (.inl rfl) rfl rfl (by exact QW.qr (qw_move rfl)) ?_
    refine rg_q (.inl rfl) rfl rfl (by exact QW.qr (qw_nilCheck rfl)) ?_
    refine rg_q (.inl rfl) rfl rfl (by exact QW.qr (qw_fieldAddr rfl)) ?_
    refine rg_q (.inl rfl) rfl rfl (by exact QW.qr (qw_indexAddr_arr rfl rfl (by omega) (by omega))) ?_
    refine rg_q (.inl rfl) rfl rfl (by exact qr_load1' rfl (mem_cat (s := [(bY, _)]) (by repeat (first | exact List.Mem.head _ | apply List.Mem.tail)) (List.Mem.head _)) hgc) ?_
    refine rg_q (.inl rfl) rfl rfl (by exact QW.qr (qw_move rfl)) ?_
    refine rg_q (.inl rfl) rfl rfl (by exact QW.qr (qw_lss_f rfl rfl (by omega))) ?_
    refine rg_nil ?_
    refine qg_then ?_
    refine cg_false rfl ?_
    refine cg_skip ?_
    refine qg_then ?_
    refine cg_seq ?_
    refine cg_region ?_
    refine rg_q (.inl rfl) rfl rfl (by exact QW.qr (qw_move rfl)) ?_
    refine rg_q (.inl rfl) rfl rfl (by exact QW.qr (qw_move rfl)) ?_
    refine rg_q (.inl rfl) rfl rfl (by exact QW.qr (qw_sub_in rfl rfl (by unfold inK; omega))) ?_
    refine rg_q (.inl rfl) rfl rfl (by exact QW.qr (qw_nilCheck rfl)) ?_
    refine rg_q (.inl rfl) rfl rfl (by exact QW.qr (qw_fieldAddr rfl)) ?_
    refine rg_q (.inl rfl) rfl rfl (by exact QW.qr (qw_indexAddr_arr rfl rfl (by omega) (by omega))) ?_
    refine rg_q (.inl rfl) rfl rfl (by exact qr_load1' rfl (mem_cat (s := [(bY, _)]) (by repeat (first | exact List.Mem.head _ | apply List.Mem.tail)) (List.Mem.head _)) hgd) ?_
    refine rg_q (.inl rfl) rfl rfl (by exact QW.qr (qw_move rfl)) ?_
    refine rg_e (.inl rfl) rfl rfl (by exact ev_call0 rfl (.cons rfl (.cons rfl (.nil))) (add_ca (canAt (edgeAt es x) (1 - s)) a hcu1 ha O _)) ?_
    rintro _ _ ⟨rfl, rfl⟩
    rw [hadd]
    refine rg_q (.inl rfl) rfl rfl (by exact QW.qr (qw_move rfl)) ?_
    refine rg_q (.inl rfl) rfl rfl (by exact QW.qr (qw_extract rfl rfl)) ?_
    refine rg_q (.inl rfl) rfl rfl (by exact QW.qr (qw_extract rfl rfl)) ?_
    refine rg_q (.inl rfl) rfl rfl (by exact QW.qr (qw_assign rfl)) ?_
    refine rg_q (.inl rfl) rfl rfl (by exact QW.qr (qw_assign rfl)) ?_
    refine rg_nil ?_
    refine qg_then ?_
    refine cg_seq ?_
    refine cg_seq ?_
    refine cg_region ?_
    refine rg_q (.inl rfl) rfl rfl (by exact QW.qr (qw_move rfl)) ?_
    refine rg_q (.inl rfl) rfl rfl (by exact QW.qr (qw_neq_f rfl rfl (fun h => h rfl))) ?_
    refine rg_nil ?_
    refine qg_then ?_
    refine cg_false rfl ?_
    refine cg_skip ?_
    refine qg_then ?_
    refine cg_seq ?_
    refine cg_draw follows (.op 0 false (.op 1 false (.op 2 false (.op 3 false (.op 4 false (.op 5 false (.op 6 false (.op 7 false (.op 8 false (.op 9 false (.op 10 false (.op 11 false (.op 12 false (.op 13 false (.op 14 false (.op 15 false (.op 16 false (.op 18 false (.op 19 false (.op 17 false (.op 20 false (.op 21 false .done)))))))))))))))))))))) _ (by kernel_rfl) (SubP.of (List.Sublist.refl _)) ?_
    refine dg_w rfl rfl (.inl rfl) rfl rfl (by exact qw_move rfl) ?_
    refine dg_w rfl rfl (.inl rfl) rfl rfl (by exact qw_move rfl) ?_
    refine dg_w rfl rfl (.inl rfl) rfl rfl (by exact qw_move rfl) ?_
    refine dg_w rfl rfl (.inl rfl) rfl rfl (by exact qw_move rfl) ?_
    refine dg_w rfl rfl (.inl rfl) rfl rfl (by exact qw_sub_in rfl rfl (by unfold inK; omega)) ?_
    refine dg_w rfl rfl (.inl rfl) rfl rfl (by exact qw_move rfl) ?_
    refine dg_w rfl rfl (.inl rfl) rfl rfl (by exact qw_move rfl) ?_
    refine dg_w rfl rfl (.inl rfl) rfl rfl (by exact qw_nilCheck rfl) ?_
    refine dg_w rfl rfl (.inl rfl) rfl rfl (by exact qw_fieldAddr rfl) ?_
    refine dg_w rfl rfl (.inl rfl) rfl rfl (by exact qw_indexAddr_arr rfl rfl (by omega) (by omega)) ?_
    refine dg_r rfl rfl rfl (.inl rfl) rfl rfl (by exact qr_load1' rfl (mem_cat (s := [(bY, _)]) (by repeat (first | exact List.Mem.head _ | apply List.Mem.tail)) (List.Mem.head _)) hgc) ?_
    refine dg_w rfl rfl (.inl rfl) rfl rfl (by exact qw_move rfl) ?_
    refine dg_w rfl rfl (.inl rfl) rfl rfl (by exact qw_sub_in rfl rfl (by unfold inK; omega)) ?_
    refine dg_w rfl rfl (.inl rfl) rfl rfl (by exact qw_move rfl) ?_
    refine dg_w rfl rfl (.inl rfl) rfl rfl (by exact qw_nilCheck rfl) ?_
    refine dg_w rfl rfl (.inl rfl) rfl rfl (by exact qw_fieldAddr rfl) ?_
    refine dg_w rfl rfl (.inl rfl) rfl rfl (by exact qw_indexAddr_arr rfl rfl (by omega) (by omega)) ?_
    refine dg_w rfl rfl (.inl rfl) rfl rfl (by exact qw_nilCheck rfl) ?_
    refine dg_w rfl rfl (.inl rfl) rfl rfl (by exact qw_fieldAddr rfl) ?_
    refine dg_g0 rfl rfl (.inl rfl) rfl (by exact ev_store rfl rfl (by first | exact CellsOf.agg | exact CellsOf.one rfl) (mem_cat (s := [(bY, _)]) (by repeat (first | exact List.Mem.head _ | apply List.Mem.tail)) (List.Mem.head _)) hst1 rfl rfl (by repeat (first | exact Upd.here | apply Upd.there | apply Upd.app)) (by first | exact Or.inl ⟨inferInstance, rfl⟩ | exact Or.inr inferInstance)) ?_
    rintro _ _ ⟨rfl, rfl⟩
    refine dg_w rfl rfl (.inl rfl) rfl rfl (by exact qw_indexAddr_arr rfl rfl (by omega) (by omega)) ?_
    refine dg_g0 rfl rfl (.inl rfl) rfl (by exact ev_store rfl rfl (by first | exact CellsOf.agg | exact CellsOf.one rfl) (by repeat (first | exact List.Mem.head _ | apply List.Mem.tail | apply List.mem_append_right | assumption)) hst2 rfl rfl (by repeat (first | exact Upd.here | apply Upd.there | apply Upd.app)) (by first | exact Or.inl ⟨inferInstance, rfl⟩ | exact Or.inr inferInstance)) ?_
    rintro _ _ ⟨rfl, rfl⟩
    refine dg_nil ?_
    refine qg_then ?_
    refine cg_seq ?_
    refine cg_region ?_
    refine rg_q (.inl rfl) rfl rfl (by exact qr_loadN rfl (by repeat (first | exact List.Mem.head _ | apply List.Mem.tail | apply List.mem_append_right | assumption)) (by repeat (first | exact SegL.done | apply SegL.take | apply SegL.skip))) ?_
    refine rg_e0 (.inl rfl) rfl (by exact ev_store rfl rfl (by first | exact CellsOf.agg | exact CellsOf.one rfl) (by repeat (first | exact List.Mem.head _ | apply List.Mem.tail | apply List.mem_append_right | assumption)) (by repeat (first | exact SetSeg.done | apply SetSeg.take | apply SetSeg.skip)) rfl rfl (by repeat (first | exact Upd.here | apply Upd.there | apply Upd.app)) (by first | exact Or.inl ⟨inferInstance, rfl⟩ | exact Or.inr inferInstance)) ?_
    rintro _ _ ⟨rfl, rfl⟩
    refine rg_q (.inl rfl) rfl rfl (by exact QW.qr (qw_assign rfl)) ?_
    refine rg_nil ?_
    refine qg_then ?_
    refine cg_ret ?_
    have hoY := OwnL.of (e := 53) (k := 8) (b := bY) (cap := cY) (enc := encE) (xs := es.set x.toNat (moved (edgeAt es x) s a)) (rest := rest) (fun _ => rfl) (by rw [← hlY, List.length_append, List.length_append, flat_length (enc := encE) (k := 8) (fun _ => rfl), flat_length (enc := encE) (k := 8) (fun _ => rfl), List.length_set]) (by rw [List.length_set]; exact hcY)
    rw [List.length_set] at hoY
    exact qg_end_sp (.inl rfl) _ (.cons (resCellN rfl (by repeat (first | exact List.Mem.head _ | apply List.Mem.tail | apply List.mem_append_right | assumption)) (by repeat (first | exact SegL.done | apply SegL.take | apply SegL.skip))) (.cons (.tmp rfl) (.nil))) _ (cat_sub (ls' := [[(bY, _)], Bz]) (ls := [[(b12, _)], [(bY, _)], Bz, [(b8, _)]]) (by repeat (first | exact SubM.nil | refine SubM.cons (by repeat (first | exact Ins.here | apply Ins.there)) ?_))) ⟨_, _, [(bY, _)] ++ Bz, rfl, by rw [List.append_assoc]; rfl, (hoz.rd (fun _ => rfl) (by decide)).mono (fun q hq => List.mem_append_right _ hq), (hoY.rd (fun _ => rfl) (by decide)).mono (fun q hq => List.mem_append_left _ hq)⟩

end Go.Proofs.Ytjimpciiaceleaa