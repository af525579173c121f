/-
  THE WALKS of rebalance's ends and without. Conditions: sizes.
-/
import Derived.Test.YtjimpciiaceleaaA23
namespace Go.Proofs.Ytjimpciiaceleaa
open Fw
set_option linter.unusedVariables false
set_option maxRecDepth 100000

/-- rebalance.ends. -/
def endsF (es : List Edge) (x u : Int) : Int × Int × Int :=
  if 0 ≤ x ∧ x.toNat < es.length then (if sideOf (edgeAt es x) u < 0 then (0, 0, 1) else (sideOf (edgeAt es x) u, endAt (edgeAt es x) (1 - (sideOf (edgeAt es x) u).toNat), 0)) else (0, 0, 1)
theorem side_cases (e : Edge) (u : Int) : sideOf e u = -1 ∨ ∃ s : Nat, s < 2 ∧ sideOf e u = s := by
  rw [sideOf_eq]
  split
  · exact .inr ⟨0, by omega, rfl⟩
  · split
    · exact .inr ⟨1, by omega, rfl⟩
    · exact .inl rfl

theorem ends_ca (es : List Edge) (x u : Int) (sv ev : Value) (hsv : sv.oneCell' = true) (hes : es.length ≤ 1000) (O : Out) (L : List Blk) (he : RdL L encE 8 ev es) :
    CA Try.prog 28 [.agg #[sv, ev], I x, I u] O L fun v L' => v = .tuple #[I (endsF es x u).1, I (endsF es x u).2.1, I (endsF es x u).2.2] ∧ L' = L := by
  obtain ⟨pe, ce, rfl, _, _, _, hRe⟩ := id he
  refine ca_enter Try.func28 rfl rfl ?_
  rw [Try.ntmps28]
  simp only [envOf]
  refine cg_seq ?_
  refine cg_region ?_
  refine rg_e (.inl rfl) rfl rfl (by exact ev_box rfl (by first | exact CellsOf.agg | exact CellsOf.one rfl)) ?_
  rintro _ _ ⟨b3, rfl, rfl⟩
  refine rg_q (.inl rfl) rfl rfl (by exact QW.qr (qw_assign rfl)) ?_
  refine rg_q (.inl rfl) rfl rfl (by exact QW.qr (qw_assign rfl)) ?_
  refine rg_q (.inl rfl) rfl rfl (by exact QW.qr (qw_assign rfl)) ?_
  refine rg_nil ?_
  refine qg_then ?_
  refine cg_seq ?_
  refine cg_seq ?_
  refine cg_region ?_
  refine rg_q (.inl rfl) rfl rfl (by exact QW.qr (qw_move rfl)) ?_
  refine rg_split (.inl rfl) rfl rfl (by exact qc_lss rfl rfl) ?_ ?_
  · intro hneg
    have hfin : endsF es x u = (0, 0, 1) := by rw [endsF, if_neg (fun h => by omega)]
    refine rg_q (.inl rfl) rfl rfl (by exact QW.qr (qw_move rfl)) ?_
    refine rg_s (guard_mk rfl rfl rfl rfl) rfl rfl ?_
    refine rg_s (guard_mk rfl rfl rfl rfl) rfl rfl ?_
    refine rg_s (guard_mk rfl rfl rfl rfl) rfl rfl ?_
    refine rg_s (guard_mk rfl rfl rfl rfl) rfl rfl ?_
    refine rg_s (guard_mk rfl rfl rfl rfl) rfl rfl ?_
    refine rg_q (.inl rfl) rfl rfl (by exact QW.qr (qw_pick_t rfl rfl)) ?_
    refine rg_nil ?_
    refine qg_then ?_
    refine cg_true rfl ?_
    refine cg_seq ?_
    refine cg_region ?_
    refine rg_q (.inl rfl) rfl rfl (by exact QW.qr (qw_assign rfl)) ?_
    refine rg_q (.inl rfl) rfl rfl (by exact QW.qr (qw_assign rfl)) ?_
    refine rg_q (.inl rfl) rfl rfl (by exact QW.qr (qw_assign rfl)) ?_
    refine rg_nil ?_
    refine qg_then ?_
    refine cg_ret ?_
    refine qg_then_ret ?_
    exact qg_end (.inl rfl) _ (.cons (.tmp rfl) (.cons (.tmp rfl) (.cons (.tmp rfl) (.nil)))) _ (by repeat (first | exact List.Sublist.refl _ | exact List.nil_sublist _ | exact List.sublist_append_right _ _ | apply List.Sublist.cons_cons | apply List.Sublist.cons | refine List.Sublist.trans ?_ (List.sublist_append_right _ _))) ⟨by rw [hfin]; rfl, rfl⟩
  · intro hneg
    refine rg_q (.inl rfl) rfl rfl (by exact QW.qr (qw_move rfl)) ?_
    refine rg_q (.inr (guard_mk rfl rfl rfl rfl)) rfl rfl (by exact QW.qr (qw_move rfl)) ?_
    refine rg_q (.inr (guard_mk rfl rfl rfl rfl)) rfl rfl (by exact QW.qr (qw_fieldAddr rfl)) ?_
    refine rg_q (.inr (guard_mk rfl rfl rfl rfl)) rfl rfl (by exact qr_load1 rfl (by repeat (first | exact List.Mem.head _ | apply List.Mem.tail | apply List.mem_append_right | assumption)) rfl) ?_
    refine rg_q (.inr (guard_mk rfl rfl rfl rfl)) rfl rfl (by exact QW.qr (qw_len_slice (t := 30) (.cons rfl (.nil)) rfl)) ?_
    refine rg_split (.inr (guard_mk rfl rfl rfl rfl)) rfl rfl (by exact qc_geq rfl rfl) ?_ ?_
    · intro hbig
      have hfin : endsF es x u = (0, 0, 1) := by rw [endsF, if_neg (fun h => by omega)]
      refine rg_q (.inl rfl) rfl rfl (by exact QW.qr (qw_pick_f rfl rfl)) ?_
      refine rg_nil ?_
      refine qg_then ?_
      refine cg_true rfl ?_
      refine cg_seq ?_
      refine cg_region ?_
      refine rg_q (.inl rfl) rfl rfl (by exact QW.qr (qw_assign rfl)) ?_
      refine rg_q (.inl rfl) rfl rfl (by exact QW.qr (qw_assign rfl)) ?_
      refine rg_q (.inl rfl) rfl rfl (by exact QW.qr (qw_assign rfl)) ?_
      refine rg_nil ?_
      refine qg_then ?_
      refine cg_ret ?_
      refine qg_then_ret ?_
      exact qg_end (.inl rfl) _ (.cons (.tmp rfl) (.cons (.tmp rfl) (.cons (.tmp rfl) (.nil)))) _ (by repeat (first | exact List.Sublist.refl _ | exact List.nil_sublist _ | exact List.sublist_append_right _ _ | apply List.Sublist.cons_cons | apply List.Sublist.cons | refine List.Sublist.trans ?_ (List.sublist_append_right _ _))) ⟨by rw [hfin]; rfl, rfl⟩
    · intro hbig
      have hx0 : 0 ≤ x := by omega
      have hx1 : x.toNat < es.length := by omega
      obtain ⟨b0, o0, A0, t0, fz0, rfl, hm0, hseg⟩ := hRe (by omega)
      have hfe := hseg.elem (enc := encE) (k := 8) (fun _ => rfl) hx1
      rw [edgeAt_eq hx1] at hfe
      refine rg_q (.inl rfl) rfl rfl (by exact QW.qr (qw_pick_f rfl rfl)) ?_
      refine rg_nil ?_
      refine qg_then ?_
      refine cg_false rfl ?_
      refine cg_skip ?_
      refine qg_then ?_
      refine cg_seq ?_
      refine cg_region ?_
      refine rg_q (.inl rfl) rfl rfl (by exact QW.qr (qw_fieldAddr rfl)) ?_
      refine rg_q (.inl rfl) rfl rfl (by exact qr_load1 rfl (by repeat (first | exact List.Mem.head _ | apply List.Mem.tail | apply List.mem_append_right | assumption)) rfl) ?_
      refine rg_q (.inl rfl) rfl rfl (by exact QW.qr (qw_move rfl)) ?_
      refine rg_q (.inl rfl) rfl rfl (by exact QW.qr (qw_indexAddr rfl rfl (by exact hx0) (by show x < _; omega))) ?_
      refine rg_q (.inl rfl) rfl rfl (by exact qr_loadS rfl (List.mem_cons_of_mem _ hm0) hfe rfl) ?_
      refine rg_e (.inl rfl) rfl rfl (by exact ev_alloc (by first | exact CellsOf.agg | exact CellsOf.one rfl)) ?_
      rintro _ _ ⟨b9, rfl, rfl⟩
      refine rg_e0 (.inl rfl) rfl (by exact ev_store rfl rfl (by first | exact CellsOf.agg | exact CellsOf.one rfl) (by repeat (first | exact List.Mem.head _ | apply List.Mem.tail | apply List.mem_append_right | assumption)) (by repeat (first | exact SetSeg.done | apply SetSeg.take | apply SetSeg.skip)) rfl rfl (by repeat (first | exact Upd.here | apply Upd.there | apply Upd.app)) (by first | exact Or.inl ⟨inferInstance, rfl⟩ | exact Or.inr inferInstance)) ?_
      rintro _ _ ⟨rfl, rfl⟩
      refine rg_nil ?_
      refine qg_then ?_
      refine cg_seq ?_
      refine cg_seq ?_
      refine cg_region ?_
      refine rg_q (.inl rfl) rfl rfl (by exact qr_loadN rfl (by repeat (first | exact List.Mem.head _ | apply List.Mem.tail | apply List.mem_append_right | assumption)) (by repeat (first | exact SegL.done | apply SegL.take | apply SegL.skip))) ?_
      refine rg_q (.inl rfl) rfl rfl (by exact QW.qr (qw_move rfl)) ?_
      refine rg_e (.inl rfl) rfl rfl (by exact ev_call0 rfl (.cons rfl (.cons rfl (.nil))) (side_ca (edgeAt es x) u O _)) ?_
      rintro _ _ ⟨rfl, rfl⟩
      refine rg_q (.inl rfl) rfl rfl (by exact QW.qr (qw_assign rfl)) ?_
      refine rg_nil ?_
      refine qg_then ?_
      refine cg_seq ?_
      refine cg_region ?_
      refine rg_q (.inl rfl) rfl rfl (by exact QW.qr (qw_move rfl)) ?_
      refine rg_split (.inl rfl) rfl rfl (by exact qc_lss rfl rfl) ?_ ?_
      · intro hs
        have hfin : endsF es x u = (0, 0, 1) := by rw [endsF, if_pos ⟨hx0, hx1⟩, if_pos hs]
        refine rg_nil ?_
        refine qg_then ?_
        refine cg_true rfl ?_
        refine cg_seq ?_
        refine cg_region ?_
        refine rg_q (.inl rfl) rfl rfl (by exact QW.qr (qw_assign rfl)) ?_
        refine rg_q (.inl rfl) rfl rfl (by exact QW.qr (qw_assign rfl)) ?_
        refine rg_q (.inl rfl) rfl rfl (by exact QW.qr (qw_assign rfl)) ?_
        refine rg_nil ?_
        refine qg_then ?_
        refine cg_ret ?_
        refine qg_then_ret ?_
        exact qg_end (.inl rfl) _ (.cons (.tmp rfl) (.cons (.tmp rfl) (.cons (.tmp rfl) (.nil)))) _ (by repeat (first | exact List.Sublist.refl _ | exact List.nil_sublist _ | exact List.sublist_append_right _ _ | apply List.Sublist.cons_cons | apply List.Sublist.cons | refine List.Sublist.trans ?_ (List.sublist_append_right _ _))) ⟨by rw [hfin]; rfl, rfl⟩
      · intro hs
        have hfin : endsF es x u = (sideOf (edgeAt es x) u, endAt (edgeAt es x) (1 - (sideOf (edgeAt es x) u).toNat), 0) := by rw [endsF, if_pos ⟨hx0, hx1⟩, if_neg hs]
        obtain ⟨s, hs2, hse⟩ : ∃ s : Nat, s < 2 ∧ sideOf (edgeAt es x) u = s := by
          rcases side_cases (edgeAt es x) u with h | h
          · omega
          · exact h
        rw [hse] at hfin ⊢
        have hend := (edge_segj (seg_self (encE (edgeAt es x))) hs2).2.1
        refine rg_nil ?_
        refine qg_then ?_
        refine cg_false rfl ?_
        refine cg_skip ?_
        refine qg_then ?_
        refine cg_seq ?_
        refine cg_draw follows (.op 0 false (.op 1 false (.op 2 false (.op 3 false (.op 4 false (.op 5 false (.op 6 false (.op 7 false (.op 8 false .done))))))))) _ (by kernel_rfl) (SubP.of (List.Sublist.refl _)) ?_
        refine dg_w rfl rfl (.inl rfl) rfl rfl (by exact qw_move rfl) ?_
        refine dg_w rfl rfl (.inl rfl) rfl rfl (by exact qw_move rfl) ?_
        refine dg_w rfl rfl (.inl rfl) rfl rfl (by exact qw_sub_in rfl rfl (by unfold inK; omega)) ?_
        refine dg_w rfl rfl (.inl rfl) rfl rfl (by exact qw_fieldAddr rfl) ?_
        refine dg_w rfl rfl (.inl rfl) rfl rfl (by exact qw_indexAddr_arr rfl rfl (by omega) (by omega)) ?_
        refine dg_r rfl rfl rfl (.inl rfl) rfl rfl (by exact qr_load1' rfl (List.Mem.head _) (by simpa [encE] using hend)) ?_
        refine dg_w rfl rfl (.inl rfl) rfl rfl (by exact qw_assign rfl) ?_
        refine dg_w rfl rfl (.inl rfl) rfl rfl (by exact qw_assign rfl) ?_
        refine dg_w rfl rfl (.inl rfl) rfl rfl (by exact qw_assign rfl) ?_
        refine dg_nil ?_
        refine qg_then ?_
        refine cg_ret ?_
        exact qg_end (.inl rfl) _ (.cons (.tmp rfl) (.cons (.tmp rfl) (.cons (.tmp rfl) (.nil)))) _ (by repeat (first | exact List.Sublist.refl _ | exact List.nil_sublist _ | exact List.sublist_append_right _ _ | apply List.Sublist.cons_cons | apply List.Sublist.cons | refine List.Sublist.trans ?_ (List.sublist_append_right _ _))) ⟨by rw [hfin]; rfl, rfl⟩

def cutE (u : Int) (e : Edge) : Edge := if 0 ≤ sideOf e u then ⟨e.e0, e.e1, 0, 0, e.f0, e.f1⟩ else e
/-- rebalance.without. -/
def withoutF (es : List Edge) (u : Int) : List Edge := es.map (cutE u)
def withoutK (es : List Edge) (u : Int) (k : Nat) : List Edge := (es.take k).map (cutE u) ++ es.drop k
theorem withoutK_len (es : List Edge) (u : Int) (k : Nat) : (withoutK es u k).length = es.length := by
  unfold withoutK
  rw [List.length_append, List.length_map, List.length_take, List.length_drop]
  omega
theorem withoutK_get {es : List Edge} {u : Int} {k : Nat} (hk : k < es.length) (h : k < (withoutK es u k).length) : (withoutK es u k)[k] = es[k] := by
  have : (withoutK es u k)[k]? = some es[k] := by
    unfold withoutK
    have hl : ((es.take k).map (cutE u)).length = k := by rw [List.length_map, List.length_take]; omega
    rw [List.getElem?_append_right (by omega), hl, Nat.sub_self, List.getElem?_drop, Nat.add_zero, List.getElem?_eq_getElem hk]
  rw [List.getElem?_eq_getElem h] at this
  exact Option.some.inj this
theorem withoutK_succ {es : List Edge} {u : Int} {k : Nat} (hk : k < es.length) : withoutK es u (k + 1) = (withoutK es u k).set k (cutE u es[k]) := by
  unfold withoutK
  have hl : ((es.take k).map (cutE u)).length = k := by rw [List.length_map, List.length_take]; omega
  rw [List.take_succ_eq_append_getElem hk, List.map_append, List.set_append_right k _ (by omega), hl, Nat.sub_self, List.drop_eq_getElem_cons hk, List.set_cons_zero, List.append_assoc]
  rfl
theorem withoutK_all (es : List Edge) (u : Int) : withoutK es u es.length = withoutF es u := by
  unfold withoutK withoutF
  rw [List.take_length, List.drop_length, List.append_nil]

theorem without_ca (spots : List (Int × Int)) (es : List Edge) (u : Int) (sv ev : Value) (hn : spots.length ≤ 1000) (hes : es.length ≤ 1000) (O : Out) (L : List Blk) (hs : RdL L encSp 2 sv spots) (he : RdL L encE 8 ev es) :
    CA Try.prog 30 [.agg #[sv, ev], I u] O L fun v L' => ∃ p c yv B, v = .agg #[.slice p spots.length c, yv] ∧ L' = B ++ L ∧ RdL B encSp 2 (.slice p spots.length c) spots ∧ RdL B encE 8 yv (withoutF es u) := by
  obtain ⟨pz, cz, rfl, _⟩ := id hs
  obtain ⟨pe, ce, rfl, _⟩ := id he
  refine ca_enter Try.func30 rfl rfl ?_
  rw [Try.ntmps30]
  simp only [envOf]
  refine cg_seq ?_
  refine cg_region ?_
  refine rg_e (.inl rfl) rfl rfl (by exact ev_box rfl (by first | exact CellsOf.agg | exact CellsOf.one rfl)) ?_
  rintro _ _ ⟨b2, rfl, rfl⟩
  refine rg_e (.inl rfl) rfl rfl (by exact ev_alloc (by first | exact CellsOf.agg | exact CellsOf.one rfl)) ?_
  rintro _ _ ⟨b4, rfl, rfl⟩
  refine rg_nil ?_
  refine qg_then ?_
  refine cg_cut (fun E' L' => ∃ (b : Nat) (zv yv : Value) (Bz By : List Blk), OwnL 74 encSp 2 zv spots Bz ∧ OwnL 53 encE 8 yv es By ∧ E' = [(1, I u), (4, .pointer (some ⟨b4, 0, none⟩)), (5, .pointer (some ⟨b, 0, none⟩))] ∧
    L' = cat [[(b, .cells [zv, yv].toArray 32 (0, 0))], By, Bz, [(b4, .cells [Value.slice none 0 0, Value.slice none 0 0].toArray 32 (0, 0))]] L) ?_ ?_
  · -- the first part
    refine cg_draw follows (.op 0 false (.op 1 false (.op 3 false (.op 4 false (.two 2 true (.two 5 false (.op 6 false (.op 7 true (.op 8 false .done))) 7 true (.op 5 false (.op 6 false (.op 8 false .done)))) 7 true (.op 2 true (.op 5 false (.op 6 false (.op 8 false .done))))))))) _ (by kernel_rfl) (SubP.of (List.Sublist.refl _)) ?_
    refine dg_w rfl rfl (.inl rfl) rfl rfl (by exact qw_fieldAddr rfl) ?_
    refine dg_r rfl rfl rfl (.inl rfl) rfl rfl (by exact qr_load1 rfl (by repeat (first | exact List.Mem.head _ | apply List.Mem.tail | apply List.mem_append_right | assumption)) rfl) ?_
    refine dg_w rfl rfl (.inl rfl) rfl rfl (by exact qw_fieldAddr rfl) ?_
    refine dg_r rfl rfl rfl (.inl rfl) rfl rfl (by exact qr_load1 rfl (by repeat (first | exact List.Mem.head _ | apply List.Mem.tail | apply List.mem_append_right | assumption)) rfl) ?_
    refine dg_two rfl rfl ?_ ?_
    · skip
      refine dg_e rfl rfl (.inl rfl) rfl rfl (by exact ev_call0 rfl (.cons rfl (.nil)) (cloneSp_ca spots _ O _ (hs.mono (fun q hq => by repeat (first | exact hq | apply List.mem_append_right | apply List.mem_cons_of_mem))) (by omega))) ?_
      rintro zv _ ⟨Bz, hoz, rfl⟩
      obtain ⟨pz2, cz2, rfl, hqz⟩ := id (hoz.rd (fun _ => rfl) (by decide))
      refine ⟨(SubP.of (by repeat (first | exact List.Sublist.refl _ | exact List.nil_sublist _ | exact List.sublist_append_right _ _ | apply List.Sublist.cons_cons | apply List.Sublist.cons | refine List.Sublist.trans ?_ (List.sublist_append_right _ _)))), ?_⟩
      refine dg_two rfl rfl ?_ ?_
      · skip
        refine dg_g rfl rfl (.inl rfl) rfl rfl (by exact ev_call0 rfl (.cons rfl (.nil)) (cloneE_ca es _ O _ (he.mono (fun q hq => by repeat (first | exact hq | apply List.mem_append_right | apply List.mem_cons_of_mem))) (by omega))) ?_
        rintro yv _ ⟨By, hoy, rfl⟩
        obtain ⟨py2, cy2, rfl, hqy⟩ := id (hoy.rd (fun _ => rfl) (by decide))
        refine dg_w rfl rfl (.inl rfl) rfl rfl (by exact qw_build (.cons rfl (.cons rfl (.nil))) rfl (.cons rfl (by first | exact CellsOf.agg | exact CellsOf.one rfl) (by repeat (first | exact SetSeg.done | apply SetSeg.take | apply SetSeg.skip)) (by rfl) (by rfl) (.cons rfl (by first | exact CellsOf.agg | exact CellsOf.one rfl) (by repeat (first | exact SetSeg.done | apply SetSeg.take | apply SetSeg.skip)) (by rfl) (by rfl) (.nil)))) ?_
        refine dg_e rfl rfl (.inl rfl) rfl rfl (by exact ev_alloc (by first | exact CellsOf.agg | exact CellsOf.one rfl)) ?_
        rintro _ _ ⟨b5, rfl, rfl⟩
        refine ⟨(SubP.of (by repeat (first | exact List.Sublist.refl _ | exact List.nil_sublist _ | exact List.sublist_append_right _ _ | apply List.Sublist.cons_cons | apply List.Sublist.cons | refine List.Sublist.trans ?_ (List.sublist_append_right _ _)))), ?_⟩
        refine dg_g0 rfl rfl (.inl rfl) rfl (by exact ev_store rfl rfl (by first | exact CellsOf.agg | exact CellsOf.one rfl) (by repeat (first | exact List.Mem.head _ | apply List.Mem.tail | apply List.mem_append_right | assumption)) (by repeat (first | exact SetSeg.done | apply SetSeg.take | apply SetSeg.skip)) rfl rfl (by repeat (first | exact Upd.here | apply Upd.there | apply Upd.app)) (by first | exact Or.inl ⟨inferInstance, rfl⟩ | exact Or.inr inferInstance)) ?_
        rintro _ _ ⟨rfl, rfl⟩
        refine dg_nil ?_
        first
          | exact qg_cut_sp _ _ ⟨_, _, _, Bz, By, hoz, hoy, rfl, rfl⟩ (by repeat (first | exact Sub.nil | refine Sub.cons rfl ?_ | refine Sub.cons (congrArg (fun z => some (Value.int IntKind.i64 z)) (by omega)) ?_)) (cat_sub (ls' := [[_], By, Bz, [_]]) (ls := [[_], By, Bz, [_], [_]]) (by repeat (first | exact SubM.nil | refine SubM.cons (by repeat (first | exact Ins.here | apply Ins.there)) ?_)))
          | exact qg_cut_sp _ _ ⟨_, _, _, Bz, By, hoz, hoy, rfl, rfl⟩ (by repeat (first | exact Sub.nil | refine Sub.cons rfl ?_ | refine Sub.cons (congrArg (fun z => some (Value.int IntKind.i64 z)) (by omega)) ?_)) (cat_sub (ls' := [[_], By, Bz, [_]]) (ls := [By, [_], Bz, [_], [_]]) (by repeat (first | exact SubM.nil | refine SubM.cons (by repeat (first | exact Ins.here | apply Ins.there)) ?_)))
          | exact qg_cut_sp _ _ ⟨_, _, _, Bz, By, hoz, hoy, rfl, rfl⟩ (by repeat (first | exact Sub.nil | refine Sub.cons rfl ?_ | refine Sub.cons (congrArg (fun z => some (Value.int IntKind.i64 z)) (by omega)) ?_)) (cat_sub (ls' := [[_], By, Bz, [_]]) (ls := [By, Bz, [_], [_], [_]]) (by repeat (first | exact SubM.nil | refine SubM.cons (by repeat (first | exact Ins.here | apply Ins.there)) ?_)))
      · skip
        refine dg_e rfl rfl (.inl rfl) rfl rfl (by exact ev_alloc (by first | exact CellsOf.agg | exact CellsOf.one rfl)) ?_
        rintro _ _ ⟨b5, rfl, rfl⟩
        refine ⟨(SubP.of (by repeat (first | exact List.Sublist.refl _ | exact List.nil_sublist _ | exact List.sublist_append_right _ _ | apply List.Sublist.cons_cons | apply List.Sublist.cons | refine List.Sublist.trans ?_ (List.sublist_append_right _ _)))), ?_⟩
        refine dg_g rfl rfl (.inl rfl) rfl rfl (by exact ev_call0 rfl (.cons rfl (.nil)) (cloneE_ca es _ O _ (he.mono (fun q hq => by repeat (first | exact hq | apply List.mem_append_right | apply List.mem_cons_of_mem))) (by omega))) ?_
        rintro yv _ ⟨By, hoy, rfl⟩
        obtain ⟨py2, cy2, rfl, hqy⟩ := id (hoy.rd (fun _ => rfl) (by decide))
        refine dg_w rfl rfl (.inl rfl) rfl rfl (by exact qw_build (.cons rfl (.cons rfl (.nil))) rfl (.cons rfl (by first | exact CellsOf.agg | exact CellsOf.one rfl) (by repeat (first | exact SetSeg.done | apply SetSeg.take | apply SetSeg.skip)) (by rfl) (by rfl) (.cons rfl (by first | exact CellsOf.agg | exact CellsOf.one rfl) (by repeat (first | exact SetSeg.done | apply SetSeg.take | apply SetSeg.skip)) (by rfl) (by rfl) (.nil)))) ?_
        refine dg_g0 rfl rfl (.inl rfl) rfl (by exact ev_store rfl rfl (by first | exact CellsOf.agg | exact CellsOf.one rfl) (by repeat (first | exact List.Mem.head _ | apply List.Mem.tail | apply List.mem_append_right | assumption)) (by repeat (first | exact SetSeg.done | apply SetSeg.take | apply SetSeg.skip)) rfl rfl (by repeat (first | exact Upd.here | apply Upd.there | apply Upd.app)) (by first | exact Or.inl ⟨inferInstance, rfl⟩ | exact Or.inr inferInstance)) ?_
        rintro _ _ ⟨rfl, rfl⟩
        refine dg_nil ?_
        first
          | exact qg_cut_sp _ _ ⟨_, _, _, Bz, By, hoz, hoy, rfl, rfl⟩ (by repeat (first | exact Sub.nil | refine Sub.cons rfl ?_ | refine Sub.cons (congrArg (fun z => some (Value.int IntKind.i64 z)) (by omega)) ?_)) (cat_sub (ls' := [[_], By, Bz, [_]]) (ls := [[_], By, Bz, [_], [_]]) (by repeat (first | exact SubM.nil | refine SubM.cons (by repeat (first | exact Ins.here | apply Ins.there)) ?_)))
          | exact qg_cut_sp _ _ ⟨_, _, _, Bz, By, hoz, hoy, rfl, rfl⟩ (by repeat (first | exact Sub.nil | refine Sub.cons rfl ?_ | refine Sub.cons (congrArg (fun z => some (Value.int IntKind.i64 z)) (by omega)) ?_)) (cat_sub (ls' := [[_], By, Bz, [_]]) (ls := [By, [_], Bz, [_], [_]]) (by repeat (first | exact SubM.nil | refine SubM.cons (by repeat (first | exact Ins.here | apply Ins.there)) ?_)))
          | exact qg_cut_sp _ _ ⟨_, _, _, Bz, By, hoz, hoy, rfl, rfl⟩ (by repeat (first | exact Sub.nil | refine Sub.cons rfl ?_ | refine Sub.cons (congrArg (fun z => some (Value.int IntKind.i64 z)) (by omega)) ?_)) (cat_sub (ls' := [[_], By, Bz, [_]]) (ls := [By, Bz, [_], [_], [_]]) (by repeat (first | exact SubM.nil | refine SubM.cons (by repeat (first | exact Ins.here | apply Ins.there)) ?_)))
    · skip
      refine dg_e rfl rfl (.inl rfl) rfl rfl (by exact ev_alloc (by first | exact CellsOf.agg | exact CellsOf.one rfl)) ?_
      rintro _ _ ⟨b5, rfl, rfl⟩
      refine ⟨(SubP.of (by repeat (first | exact List.Sublist.refl _ | exact List.nil_sublist _ | exact List.sublist_append_right _ _ | apply List.Sublist.cons_cons | apply List.Sublist.cons | refine List.Sublist.trans ?_ (List.sublist_append_right _ _)))), ?_⟩
      refine dg_e rfl rfl (.inl rfl) rfl rfl (by exact ev_call0 rfl (.cons rfl (.nil)) (cloneSp_ca spots _ O _ (hs.mono (fun q hq => by repeat (first | exact hq | apply List.mem_append_right | apply List.mem_cons_of_mem))) (by omega))) ?_
      rintro zv _ ⟨Bz, hoz, rfl⟩
      obtain ⟨pz2, cz2, rfl, hqz⟩ := id (hoz.rd (fun _ => rfl) (by decide))
      refine ⟨(SubP.of (by repeat (first | exact List.Sublist.refl _ | exact List.nil_sublist _ | exact List.sublist_append_right _ _ | apply List.Sublist.cons_cons | apply List.Sublist.cons | refine List.Sublist.trans ?_ (List.sublist_append_right _ _)))), ?_⟩
      refine dg_g rfl rfl (.inl rfl) rfl rfl (by exact ev_call0 rfl (.cons rfl (.nil)) (cloneE_ca es _ O _ (he.mono (fun q hq => by repeat (first | exact hq | apply List.mem_append_right | apply List.mem_cons_of_mem))) (by omega))) ?_
      rintro yv _ ⟨By, hoy, rfl⟩
      obtain ⟨py2, cy2, rfl, hqy⟩ := id (hoy.rd (fun _ => rfl) (by decide))
      refine dg_w rfl rfl (.inl rfl) rfl rfl (by exact qw_build (.cons rfl (.cons rfl (.nil))) rfl (.cons rfl (by first | exact CellsOf.agg | exact CellsOf.one rfl) (by repeat (first | exact SetSeg.done | apply SetSeg.take | apply SetSeg.skip)) (by rfl) (by rfl) (.cons rfl (by first | exact CellsOf.agg | exact CellsOf.one rfl) (by repeat (first | exact SetSeg.done | apply SetSeg.take | apply SetSeg.skip)) (by rfl) (by rfl) (.nil)))) ?_
      refine dg_g0 rfl rfl (.inl rfl) rfl (by exact ev_store rfl rfl (by first | exact CellsOf.agg | exact CellsOf.one rfl) (by repeat (first | exact List.Mem.head _ | apply List.Mem.tail | apply List.mem_append_right | assumption)) (by repeat (first | exact SetSeg.done | apply SetSeg.take | apply SetSeg.skip)) rfl rfl (by repeat (first | exact Upd.here | apply Upd.there | apply Upd.app)) (by first | exact Or.inl ⟨inferInstance, rfl⟩ | exact Or.inr inferInstance)) ?_
      rintro _ _ ⟨rfl, rfl⟩
      refine dg_nil ?_
      first
        | exact qg_cut_sp _ _ ⟨_, _, _, Bz, By, hoz, hoy, rfl, rfl⟩ (by repeat (first | exact Sub.nil | refine Sub.cons rfl ?_ | refine Sub.cons (congrArg (fun z => some (Value.int IntKind.i64 z)) (by omega)) ?_)) (cat_sub (ls' := [[_], By, Bz, [_]]) (ls := [[_], By, Bz, [_], [_]]) (by repeat (first | exact SubM.nil | refine SubM.cons (by repeat (first | exact Ins.here | apply Ins.there)) ?_)))
        | exact qg_cut_sp _ _ ⟨_, _, _, Bz, By, hoz, hoy, rfl, rfl⟩ (by repeat (first | exact Sub.nil | refine Sub.cons rfl ?_ | refine Sub.cons (congrArg (fun z => some (Value.int IntKind.i64 z)) (by omega)) ?_)) (cat_sub (ls' := [[_], By, Bz, [_]]) (ls := [By, [_], Bz, [_], [_]]) (by repeat (first | exact SubM.nil | refine SubM.cons (by repeat (first | exact Ins.here | apply Ins.there)) ?_)))
        | exact qg_cut_sp _ _ ⟨_, _, _, Bz, By, hoz, hoy, rfl, rfl⟩ (by repeat (first | exact Sub.nil | refine Sub.cons rfl ?_ | refine Sub.cons (congrArg (fun z => some (Value.int IntKind.i64 z)) (by omega)) ?_)) (cat_sub (ls' := [[_], By, Bz, [_]]) (ls := [By, Bz, [_], [_], [_]]) (by repeat (first | exact SubM.nil | refine SubM.cons (by repeat (first | exact Ins.here | apply Ins.there)) ?_)))
  · rintro _ _ ⟨b5, zv, yv, Bz, By, hoz, hoy, rfl, rfl⟩
    obtain ⟨pz2, cz2, rfl, hqz⟩ := id (hoz.rd (fun _ => rfl) (by decide))
    obtain ⟨py2, cy2, rfl, hqy⟩ := id (hoy.rd (fun _ => rfl) (by decide))
    refine cg_seq ?_
    refine cg_seq ?_
    refine cg_region ?_
    refine rg_q (.inl rfl) rfl rfl (by exact QW.qr (qw_fieldAddr rfl)) ?_
    refine rg_q (.inl rfl) rfl rfl (by exact qr_load1 rfl (by repeat (first | exact List.Mem.head _ | apply List.Mem.tail | apply List.mem_append_right | assumption)) rfl) ?_
    refine rg_q (.inl rfl) rfl rfl (by exact QW.qr (qw_len_slice (t := 30) (.cons rfl (.nil)) rfl)) ?_
    refine rg_q (.inl rfl) rfl rfl (by exact QW.qr (qw_move rfl)) ?_
    refine rg_nil ?_
    refine qg_then ?_
    refine cg_block ?_
    refine cg_loop (fun E' L' m => ∃ (k : Nat) (yv : Value) (By : List Blk), k ≤ es.length ∧ OwnL 53 encE 8 yv (withoutK es u k) By ∧ E' = [(1, I u), (4, .pointer (some ⟨b4, 0, none⟩)), (5, .pointer (some ⟨b5, 0, none⟩)), (16, .int .i64 es.length), (17, .int .i64 k)] ∧
      L' = cat [[(b5, .cells [Value.slice pz2 spots.length cz2, yv].toArray 32 (0, 0))], By, Bz, [(b4, .cells [Value.slice none 0 0, Value.slice none 0 0].toArray 32 (0, 0))]] L ∧ m = es.length - k)
      _ _ _ ⟨0, _, By, by omega, hoy, rfl, rfl, rfl⟩ (by repeat (first | exact Sub.nil | refine Sub.cons rfl ?_ | refine Sub.cons (congrArg (fun z => some (Value.int IntKind.i64 z)) (by omega)) ?_)) (List.Perm.refl _) ?_
    clear hqy hoy
    rintro _ _ _ ⟨k, yv, By, hk, hoy, rfl, rfl, rfl⟩
    obtain ⟨py, cy, rfl, hqy⟩ := id (hoy.rd (fun _ => rfl) (by decide))
    refine cg_seq ?_
    refine cg_region ?_
    refine rg_split (.inl rfl) rfl rfl (by exact qc_lss rfl rfl) ?_ ?_
    · intro hlt
      have hklt : k < es.length := by omega
      have hkl : k < (withoutK es u k).length := by rw [withoutK_len]; exact hklt
      obtain ⟨bY, cY, rest, h1, rfl, hlY, hcY⟩ := hoy.view (fun _ => rfl) (by decide) (by omega)
      cases h1
      have hfe := (seg_pre (cs := (withoutK es u k).flatMap encE) (rest := rest)).elem (enc := encE) (k := 8) (fun _ => rfl) hkl
      rw [withoutK_get hklt hkl] at hfe
      refine rg_nil ?_
      refine qg_then ?_
      refine cg_seq ?_
      refine cg_true rfl ?_
      refine cg_skip ?_
      refine qg_then ?_
      refine cg_seq ?_
      refine cg_block ?_
      refine cg_seq ?_
      refine cg_region ?_
      refine rg_q (.inl rfl) rfl rfl (by exact QW.qr (qw_move rfl)) ?_
      refine rg_q (.inl rfl) rfl rfl (by exact QW.qr (qw_assign rfl)) ?_
      refine rg_nil ?_
      refine qg_then ?_
      refine cg_seq ?_
      refine cg_region ?_
      refine rg_q (.inl rfl) rfl rfl (by exact QW.qr (qw_fieldAddr rfl)) ?_
      refine rg_q (.inl rfl) rfl rfl (by exact qr_load1 rfl (by repeat (first | exact List.Mem.head _ | apply List.Mem.tail | apply List.mem_append_right | assumption)) rfl) ?_
      refine rg_q (.inl rfl) rfl rfl (by exact QW.qr (qw_move rfl)) ?_
      refine rg_q (.inl rfl) rfl rfl (by exact QW.qr (qw_indexAddr rfl rfl (by omega) (by rw [withoutK_len]; omega))) ?_
      refine rg_q (.inl rfl) rfl rfl (by exact qr_loadS rfl (mem_cat (s := [(bY, _)]) (by repeat (first | exact List.Mem.head _ | apply List.Mem.tail)) (List.Mem.head _)) hfe rfl) ?_
      refine rg_q (.inl rfl) rfl rfl (by exact QW.qr (qw_move rfl)) ?_
      refine rg_e (.inl rfl) rfl rfl (by exact ev_call0 rfl (.cons rfl (.cons rfl (.nil))) (side_ca es[k] u O _)) ?_
      rintro _ _ ⟨rfl, rfl⟩
      refine rg_split (.inl rfl) rfl rfl (by exact qc_geq rfl rfl) ?_ ?_
      · intro hs0
        have hst := setSeg_flat (enc := encE) (k := 8) (vs := [U 0, U 0]) (o := 2) (y := cutE u es[k]) (fun _ => rfl) rest (withoutK es u k) k hkl (by rw [withoutK_get hklt hkl, cutE, if_pos hs0]; exact (by repeat (first | exact SetSeg.done | apply SetSeg.take | apply SetSeg.skip)))
        rw [← withoutK_succ hklt, show k * 8 + 2 = 0 + (k : Int).toNat * 8 + 2 from by omega] at hst
        have hoY := OwnL.of (e := 53) (k := 8) (b := bY) (cap := cy) (enc := encE) (xs := withoutK es u (k + 1)) (rest := rest) (fun _ => rfl) (by rw [← hlY, List.length_append, List.length_append, flat_length (enc := encE) (k := 8) (fun _ => rfl), flat_length (enc := encE) (k := 8) (fun _ => rfl), withoutK_len, withoutK_len]) (by rw [withoutK_len] at *; exact hcY)
        rw [withoutK_len] at hoY hoy ⊢
        refine rg_nil ?_
        refine qg_then ?_
        refine cg_true rfl ?_
        refine cg_region ?_
        refine rg_q (.inl rfl) rfl rfl (by exact QW.qr (qw_fieldAddr rfl)) ?_
        refine rg_q (.inl rfl) rfl rfl (by exact qr_load1 rfl (by repeat (first | exact List.Mem.head _ | apply List.Mem.tail | apply List.mem_append_right | assumption)) rfl) ?_
        refine rg_q (.inl rfl) rfl rfl (by exact QW.qr (qw_move rfl)) ?_
        refine rg_q (.inl rfl) rfl rfl (by exact QW.qr (qw_build_arr (.nil) (.nil))) ?_
        refine rg_q (.inl rfl) rfl rfl (by exact QW.qr (qw_indexAddr rfl rfl (by omega) (by omega))) ?_
        refine rg_q (.inl rfl) rfl rfl (by exact QW.qr (qw_fieldAddr rfl)) ?_
        refine rg_e0 (.inl rfl) rfl (by exact ev_store rfl rfl (by first | exact CellsOf.agg | exact CellsOf.one rfl) (mem_cat (s := [(bY, _)]) (by repeat (first | exact List.Mem.head _ | apply List.Mem.tail)) (List.Mem.head _)) hst rfl rfl (by repeat (first | exact Upd.here | apply Upd.there | apply Upd.app)) (by first | exact Or.inl ⟨inferInstance, rfl⟩ | exact Or.inr inferInstance)) ?_
        rintro _ _ ⟨rfl, rfl⟩
        refine rg_nil ?_
        refine qg_block ?_
        refine qg_then ?_
        refine cg_region ?_
        refine rg_q (.inl rfl) rfl rfl (by exact QW.qr (qw_add_in rfl rfl (by unfold inK; omega))) ?_
        refine rg_q (.inl rfl) rfl rfl (by exact QW.qr (qw_move rfl)) ?_
        refine rg_nil ?_
        first
          | exact qg_round_sp _ _ _ ⟨k + 1, _, [(bY, _)], by omega, hoY, rfl, rfl, rfl⟩ (by repeat (first | exact Sub.nil | refine Sub.cons rfl ?_ | refine Sub.cons (congrArg (fun z => some (Value.int IntKind.i64 z)) (by omega)) ?_)) (cat_sub (ls' := [[(b5, _)], [(bY, _)], Bz, [(b4, _)]]) (ls := [[(b5, _)], [(bY, _)], Bz, [(b4, _)]]) (by repeat (first | exact SubM.nil | refine SubM.cons (by repeat (first | exact Ins.here | apply Ins.there)) ?_))) (by omega)
          | exact qg_round_sp _ _ _ ⟨k + 1, _, [(bY, _)], by omega, by rw [withoutK_succ hklt, cutE, if_neg hs0, ← withoutK_get (u := u) hklt hkl, List.set_getElem_self]; exact hoy, rfl, rfl, rfl⟩ (by repeat (first | exact Sub.nil | refine Sub.cons rfl ?_ | refine Sub.cons (congrArg (fun z => some (Value.int IntKind.i64 z)) (by omega)) ?_)) (cat_sub (ls' := [[(b5, _)], [(bY, _)], Bz, [(b4, _)]]) (ls := [[(b5, _)], [(bY, _)], Bz, [(b4, _)]]) (by repeat (first | exact SubM.nil | refine SubM.cons (by repeat (first | exact Ins.here | apply Ins.there)) ?_))) (by omega)
      · intro hs0
        refine rg_nil ?_
        refine qg_then ?_
        refine cg_false rfl ?_
        refine cg_skip ?_
        refine qg_block ?_
        refine qg_then ?_
        refine cg_region ?_
        refine rg_q (.inl rfl) rfl rfl (by exact QW.qr (qw_add_in rfl rfl (by unfold inK; omega))) ?_
        refine rg_q (.inl rfl) rfl rfl (by exact QW.qr (qw_move rfl)) ?_
        refine rg_nil ?_
        first
          | exact qg_round_sp _ _ _ ⟨k + 1, _, [(bY, _)], by omega, hoY, rfl, rfl, rfl⟩ (by repeat (first | exact Sub.nil | refine Sub.cons rfl ?_ | refine Sub.cons (congrArg (fun z => some (Value.int IntKind.i64 z)) (by omega)) ?_)) (cat_sub (ls' := [[(b5, _)], [(bY, _)], Bz, [(b4, _)]]) (ls := [[(b5, _)], [(bY, _)], Bz, [(b4, _)]]) (by repeat (first | exact SubM.nil | refine SubM.cons (by repeat (first | exact Ins.here | apply Ins.there)) ?_))) (by omega)
          | exact qg_round_sp _ _ _ ⟨k + 1, _, [(bY, _)], by omega, by rw [withoutK_succ hklt, cutE, if_neg hs0, ← withoutK_get (u := u) hklt hkl, List.set_getElem_self]; exact hoy, rfl, rfl, rfl⟩ (by repeat (first | exact Sub.nil | refine Sub.cons rfl ?_ | refine Sub.cons (congrArg (fun z => some (Value.int IntKind.i64 z)) (by omega)) ?_)) (cat_sub (ls' := [[(b5, _)], [(bY, _)], Bz, [(b4, _)]]) (ls := [[(b5, _)], [(bY, _)], Bz, [(b4, _)]]) (by repeat (first | exact SubM.nil | refine SubM.cons (by repeat (first | exact Ins.here | apply Ins.there)) ?_))) (by omega)
    · intro hlt
      obtain rfl : k = es.length := by omega
      rw [withoutK_all] at hoy ⊢
      refine rg_nil ?_
      refine qg_then ?_
      refine cg_seq ?_
      refine cg_false rfl ?_
      refine cg_exit ?_
      refine qg_then_exit ?_
      refine qg_then_exit ?_
      refine qg_block_here ?_
      refine qg_then ?_
      refine cg_seq ?_
      refine cg_region ?_
      refine rg_q (.inl rfl) rfl rfl (by exact qr_loadN rfl (by repeat (first | exact List.Mem.head _ | apply List.Mem.tail | apply List.mem_append_right | assumption)) (by repeat (first | exact SegL.done | apply SegL.take | apply SegL.skip))) ?_
      refine rg_e0 (.inl rfl) rfl (by exact ev_store rfl rfl (by first | exact CellsOf.agg | exact CellsOf.one rfl) (by repeat (first | exact List.Mem.head _ | apply List.Mem.tail | apply List.mem_append_right | assumption)) (by repeat (first | exact SetSeg.done | apply SetSeg.take | apply SetSeg.skip)) rfl rfl (by repeat (first | exact Upd.here | apply Upd.there | apply Upd.app)) (by first | exact Or.inl ⟨inferInstance, rfl⟩ | exact Or.inr inferInstance)) ?_
      rintro _ _ ⟨rfl, rfl⟩
      refine rg_nil ?_
      refine qg_then ?_
      refine cg_ret ?_
      exact qg_end_sp (.inl rfl) _ (.cons (resCellN rfl (by repeat (first | exact List.Mem.head _ | apply List.Mem.tail | apply List.mem_append_right | assumption)) (by repeat (first | exact SegL.done | apply SegL.take | apply SegL.skip))) (.nil)) _ (cat_sub (ls' := [By, Bz]) (ls := [[(b5, _)], By, Bz, [(b4, _)]]) (by repeat (first | exact SubM.nil | refine SubM.cons (by repeat (first | exact Ins.here | apply Ins.there)) ?_))) ⟨_, _, _, By ++ Bz, rfl, by rw [List.append_assoc]; rfl, (hoz.rd (fun _ => rfl) (by decide)).mono (fun q hq => List.mem_append_right _ hq), (hoy.rd (fun _ => rfl) (by decide)).mono (fun q hq => List.mem_append_left _ hq)⟩

end Go.Proofs.Ytjimpciiaceleaa