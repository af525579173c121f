/-
  THE WALKS of the laws' To and Light: the web as the code's; is it light. Conditions: sizes.
-/
import Derived.Test.YtjimpciiaceleaaA13
import Derived.Test.YtjimpciiaceleaaFwL
namespace Go.Proofs.Ytjimpciiaceleaa
open Fw
set_option linter.unusedVariables false
set_option maxRecDepth 100000

def encSp (p : Int × Int) : List Value := [I p.1, I p.2]
theorem encSp_one : ∀ (x : Int × Int), ∀ v ∈ encSp x, v.oneCell' = true := by
  intro x v hv
  simp only [encSp, List.mem_cons, List.not_mem_nil, or_false] at hv
  rcases hv with rfl | rfl <;> rfl

theorem spotTo_ca (x y : Int) (O : Out) (L : List Blk) :
    CA Try.prog 19 [.agg #[I x, I y]] O L fun v L' => v = .agg #[I x, I y] ∧ L' = L := by
  refine ca_enter Try.func19 rfl rfl ?_
  rw [Try.ntmps19]
  simp only [envOf]
  refine cg_seq ?_
  refine cg_region ?_
  refine rg_e (.inl rfl) rfl rfl (by exact ev_box rfl (by first | exact CellsOf.agg | exact CellsOf.one rfl)) ?_
  rintro _ _ ⟨b1, rfl, rfl⟩
  refine rg_e (.inl rfl) rfl rfl (by exact ev_alloc (by first | exact CellsOf.agg | exact CellsOf.one rfl)) ?_
  rintro _ _ ⟨b2, rfl, rfl⟩
  refine rg_nil ?_
  refine qg_then ?_
  refine cg_seq ?_
  refine cg_region ?_
  refine rg_q (.inl rfl) rfl rfl (by exact QW.qr (qw_fieldAddr rfl)) ?_
  refine rg_q (.inl rfl) rfl rfl (by exact qr_load1 rfl (by repeat (first | exact List.Mem.head _ | apply List.Mem.tail | apply List.mem_append_right | assumption)) rfl) ?_
  refine rg_q (.inl rfl) rfl rfl (by exact QW.qr (qw_fieldAddr rfl)) ?_
  refine rg_q (.inl rfl) rfl rfl (by exact qr_load1 rfl (by repeat (first | exact List.Mem.head _ | apply List.Mem.tail | apply List.mem_append_right | assumption)) rfl) ?_
  refine rg_q (.inl rfl) rfl rfl (by exact QW.qr (qw_build (.cons rfl (.cons rfl (.nil))) rfl (.cons rfl (by first | exact CellsOf.agg | exact CellsOf.one rfl) (by repeat (first | exact SetSeg.done | apply SetSeg.take | apply SetSeg.skip)) (by rfl) (by rfl) (.cons rfl (by first | exact CellsOf.agg | exact CellsOf.one rfl) (by repeat (first | exact SetSeg.done | apply SetSeg.take | apply SetSeg.skip)) (by rfl) (by rfl) (.nil))))) ?_
  refine rg_e0 (.inl rfl) rfl (by exact ev_store rfl rfl (by first | exact CellsOf.agg | exact CellsOf.one rfl) (by repeat (first | exact List.Mem.head _ | apply List.Mem.tail | apply List.mem_append_right | assumption)) (by repeat (first | exact SetSeg.done | apply SetSeg.take | apply SetSeg.skip)) rfl rfl (by repeat (first | exact Upd.here | apply Upd.there | apply Upd.app)) (by first | exact Or.inl ⟨inferInstance, rfl⟩ | exact Or.inr inferInstance)) ?_
  rintro _ _ ⟨rfl, rfl⟩
  refine rg_nil ?_
  refine qg_then ?_
  refine cg_ret ?_
  exact qg_end (.inl rfl) _ (.cons (resCellN rfl (by repeat (first | exact List.Mem.head _ | apply List.Mem.tail | apply List.mem_append_right | assumption)) (by repeat (first | exact SegL.done | apply SegL.take | apply SegL.skip))) (.nil)) _ (List.Sublist.cons _ (List.Sublist.cons _ (List.Sublist.refl _))) ⟨rfl, rfl⟩

theorem light_ca (p q : Option Addr) (n m c d : Nat) (O : Out) (L : List Blk) (hn : n < 9223372036854775808) (hm : m < 9223372036854775808) :
    CA Try.prog 5 [.agg #[.slice p n c, .slice q m d]] O L fun v L' => v = .bool (decide (n ≤ 20 ∧ m ≤ 30)) ∧ L' = L := by
  refine ca_enter Try.func5 rfl rfl ?_
  rw [Try.ntmps5]
  simp only [envOf]
  refine cg_seq ?_
  refine cg_region ?_
  refine rg_e (.inl rfl) rfl rfl (by exact ev_box rfl (by first | exact CellsOf.agg | exact CellsOf.one rfl)) ?_
  rintro _ _ ⟨b1, rfl, rfl⟩
  refine rg_q (.inl rfl) rfl rfl (by exact QW.qr (qw_assign rfl)) ?_
  refine rg_nil ?_
  refine qg_then ?_
  refine cg_seq ?_
  refine cg_region ?_
  refine rg_q (.inl rfl) rfl rfl (by exact QW.qr (qw_fieldAddr rfl)) ?_
  refine rg_q (.inl rfl) rfl rfl (by exact qr_load1 rfl (by repeat (first | exact List.Mem.head _ | apply List.Mem.tail | apply List.mem_append_right | assumption)) rfl) ?_
  refine rg_q (.inl rfl) rfl rfl (by exact QW.qr (qw_len_slice (t := 22) (.cons rfl (.nil)) rfl)) ?_
  refine rg_split (.inl rfl) rfl rfl (by exact qc_leq rfl rfl) ?_ ?_
  · intro h1
    refine rg_q (.inl rfl) rfl rfl (by exact QW.qr (qw_move rfl)) ?_
    refine rg_q (.inr (guard_mk rfl rfl rfl rfl)) rfl rfl (by exact QW.qr (qw_fieldAddr rfl)) ?_
    refine rg_q (.inr (guard_mk rfl rfl rfl rfl)) rfl rfl (by exact qr_load1 rfl (by repeat (first | exact List.Mem.head _ | apply List.Mem.tail | apply List.mem_append_right | assumption)) rfl) ?_
    refine rg_q (.inr (guard_mk rfl rfl rfl rfl)) rfl rfl (by exact QW.qr (qw_len_slice (t := 23) (.cons rfl (.nil)) rfl)) ?_
    refine rg_split (.inr (guard_mk rfl rfl rfl rfl)) rfl rfl (by exact qc_leq rfl rfl) ?_ ?_
    · intro h2
      have hfin : decide (n ≤ 20 ∧ m ≤ 30) = true := decide_eq_true (by omega)
      refine rg_q (.inl rfl) rfl rfl (by exact QW.qr (qw_pick_t rfl rfl)) ?_
      refine rg_q (.inl rfl) rfl rfl (by exact QW.qr (qw_assign rfl)) ?_
      refine rg_nil ?_
      refine qg_then ?_
      refine cg_ret ?_
      exact qg_end (.inl rfl) _ (.cons (.tmp rfl) (.nil)) L (by repeat (first | exact List.Sublist.refl _ | exact List.nil_sublist _ | exact List.sublist_append_right _ _ | apply List.Sublist.cons_cons | apply List.Sublist.cons)) ⟨by rw [hfin]; rfl, rfl⟩
    · intro h2
      have hfin : decide (n ≤ 20 ∧ m ≤ 30) = false := decide_eq_false (by omega)
      refine rg_q (.inl rfl) rfl rfl (by exact QW.qr (qw_pick_t rfl rfl)) ?_
      refine rg_q (.inl rfl) rfl rfl (by exact QW.qr (qw_assign rfl)) ?_
      refine rg_nil ?_
      refine qg_then ?_
      refine cg_ret ?_
      exact qg_end (.inl rfl) _ (.cons (.tmp rfl) (.nil)) L (by repeat (first | exact List.Sublist.refl _ | exact List.nil_sublist _ | exact List.sublist_append_right _ _ | apply List.Sublist.cons_cons | apply List.Sublist.cons)) ⟨by rw [hfin]; rfl, rfl⟩
  · intro h1
    have hfin : decide (n ≤ 20 ∧ m ≤ 30) = false := decide_eq_false (by omega)
    refine rg_q (.inl rfl) rfl rfl (by exact QW.qr (qw_move rfl)) ?_
    refine rg_s (guard_mk rfl rfl rfl rfl) rfl rfl ?_
    refine rg_s (guard_mk rfl rfl rfl rfl) rfl rfl ?_
    refine rg_s (guard_mk rfl rfl rfl rfl) rfl rfl ?_
    refine rg_s (guard_mk rfl rfl rfl rfl) rfl rfl ?_
    refine rg_q (.inl rfl) rfl rfl (by exact QW.qr (qw_pick_f rfl rfl)) ?_
    refine rg_q (.inl rfl) rfl rfl (by exact QW.qr (qw_assign rfl)) ?_
    refine rg_nil ?_
    refine qg_then ?_
    refine cg_ret ?_
    exact qg_end (.inl rfl) _ (.cons (.tmp rfl) (.nil)) L (by repeat (first | exact List.Sublist.refl _ | exact List.nil_sublist _ | exact List.sublist_append_right _ _ | apply List.Sublist.cons_cons | apply List.Sublist.cons)) ⟨by rw [hfin]; rfl, rfl⟩

theorem webTo_ca (spots : List (Int × Int)) (es : List Edge) (sv ev : Value) (O : Out) (L : List Blk) (hs : RdW L encSp sv spots) (he : RdW L encE ev es) (hn : spots.length ≤ 1000) (hes : es.length ≤ 1000) :
    CA Try.prog 7 [.agg #[sv, ev]] O L fun v L' => ∃ p c ev' B, v = .agg #[.slice p spots.length c, ev'] ∧ L' = B ++ L ∧ RdL B encSp 2 (.slice p spots.length c) spots ∧ RdL B encE 8 ev' es := by
  obtain ⟨pz, cz, rfl, hRz⟩ := id hs
  obtain ⟨pe, ce, rfl, hRe⟩ := id he
  refine ca_enter Try.func7 rfl rfl ?_
  rw [Try.ntmps7]
  simp only [envOf]
  refine cg_seq ?_
  refine cg_region ?_
  refine rg_e (.inl rfl) rfl rfl (by exact ev_box rfl (by first | exact CellsOf.agg | exact CellsOf.one rfl)) ?_
  rintro _ _ ⟨b1, rfl, rfl⟩
  refine rg_e (.inl rfl) rfl rfl (by exact ev_alloc (by first | exact CellsOf.agg | exact CellsOf.one rfl)) ?_
  rintro _ _ ⟨b2, rfl, rfl⟩
  refine rg_nil ?_
  refine qg_then ?_
  refine cg_seq ?_
  refine cg_region ?_
  refine rg_e (.inl rfl) rfl rfl (by exact ev_alloc (by first | exact CellsOf.agg | exact CellsOf.one rfl)) ?_
  rintro _ _ ⟨b3, rfl, rfl⟩
  refine rg_nil ?_
  refine qg_then ?_
  refine cg_seq ?_
  refine cg_seq ?_
  refine cg_region ?_
  refine rg_q (.inl rfl) rfl rfl (by exact QW.qr (qw_fieldAddr rfl)) ?_
  refine rg_q (.inl rfl) rfl rfl (by exact qr_load1 rfl (by repeat (first | exact List.Mem.head _ | apply List.Mem.tail | apply List.mem_append_right | assumption)) rfl) ?_
  refine rg_q (.inl rfl) rfl rfl (by exact QW.qr (qw_len_slice (t := 22) (.cons rfl (.nil)) rfl)) ?_
  refine rg_q (.inl rfl) rfl rfl (by exact QW.qr (qw_move rfl)) ?_
  refine rg_nil ?_
  refine qg_then ?_
  refine cg_block ?_
  refine cg_loop (fun E' L' m => ∃ (k : Nat) (zv : Value) (Bz : List Blk), k ≤ spots.length ∧ OwnL 74 encSp 2 zv (spots.take k) Bz ∧
    E' = [(1, .pointer (some ⟨b1, 0, none⟩)), (2, .pointer (some ⟨b2, 0, none⟩)), (3, .pointer (some ⟨b3, 0, none⟩)), (9, .slice pz spots.length cz), (10, .int .i64 spots.length), (11, .int .i64 k)] ∧
    L' = (b3, .cells [zv, Value.slice none 0 0].toArray 32 (0, 0)) :: cat [Bz] ((b2, .cells [Value.slice none 0 0, Value.slice none 0 0].toArray 32 (0, 0)) :: (b1, .cells [Value.slice pz spots.length cz, Value.slice pe es.length ce].toArray 25 (0, 0)) :: L) ∧ m = spots.length - k)
    _ _ _ ⟨0, _, [], by omega, OwnL.nil, rfl, rfl, rfl⟩ (by repeat (first | exact Sub.nil | refine Sub.cons rfl ?_ | refine Sub.cons (congrArg (fun z => some (Value.int IntKind.i64 z)) (by omega)) ?_)) (List.Perm.refl _) ?_
  rintro _ _ _ ⟨k, zv, Bz, hk, hown, rfl, rfl, rfl⟩
  obtain ⟨pv, cv, rfl, hlv, hcv, hsv, hRv⟩ := id (hown.rd (fun _ => rfl) (by decide))
  refine cg_seq ?_
  refine cg_region ?_
  refine rg_split (.inl rfl) rfl rfl (by exact qc_lss rfl rfl) ?_ ?_
  · intro hlt
    have hklt : k < spots.length := by omega
    obtain ⟨b0, o0, A0, t0, fz0, rfl, hm0, hseg⟩ := hRz (by omega)
    have hfe := hseg.elem (enc := encSp) (k := 2) (fun _ => rfl) hklt
    obtain ⟨x, hx⟩ : ∃ x, spots[k] = x := ⟨_, rfl⟩
    rw [hx] at hfe
    obtain ⟨x1, x2⟩ := x
    refine rg_nil ?_
    refine qg_then ?_
    refine cg_seq ?_
    refine cg_true rfl ?_
    refine cg_skip ?_
    refine qg_then ?_
    refine cg_seq ?_
    refine cg_block ?_
    refine cg_seq ?_
    refine cg_region ?_
    refine rg_q (.inl rfl) rfl rfl (by exact QW.qr (qw_indexAddr rfl rfl (by omega) (by omega))) ?_
    refine rg_q (.inl rfl) rfl rfl (by exact qr_loadS (vs := [I x1, I x2]) rfl (List.mem_cons_of_mem _ (mem_catF (List.mem_cons_of_mem _ (List.mem_cons_of_mem _ hm0)))) hfe rfl) ?_
    refine rg_e (.inl rfl) rfl rfl (by exact ev_alloc (by first | exact CellsOf.agg | exact CellsOf.one rfl)) ?_
    rintro _ _ ⟨b5, rfl, rfl⟩
    refine rg_e0 (.inl rfl) rfl (by exact ev_store rfl rfl (by first | exact CellsOf.agg | exact CellsOf.one rfl) (by repeat (first | exact List.Mem.head _ | apply List.Mem.tail | apply List.mem_append_right | assumption)) (by repeat (first | exact SetSeg.done | apply SetSeg.take | apply SetSeg.skip)) rfl rfl (by repeat (first | exact Upd.here | apply Upd.there | apply Upd.app)) (by first | exact Or.inl ⟨inferInstance, rfl⟩ | exact Or.inr inferInstance)) ?_
    rintro _ _ ⟨rfl, rfl⟩
    refine rg_nil ?_
    refine qg_then ?_
    refine cg_draw follows (.op 0 false (.op 1 false (.op 2 false (.op 3 true (.op 4 true (.op 5 false (.op 6 false (.op 7 false .done)))))))) _ (by kernel_rfl) (SubP.of (List.Sublist.refl _)) ?_
    refine dg_w rfl rfl (.inl rfl) rfl rfl (by exact qw_fieldAddr rfl) ?_
    refine dg_r rfl rfl rfl (.inl rfl) rfl rfl (by exact qr_load1 rfl (by repeat (first | exact List.Mem.head _ | apply List.Mem.tail | apply List.mem_append_right | assumption)) rfl) ?_
    refine dg_r rfl rfl rfl (.inl rfl) rfl rfl (by exact qr_loadN rfl (by repeat (first | exact List.Mem.head _ | apply List.Mem.tail | apply List.mem_append_right | assumption)) (by repeat (first | exact SegL.done | apply SegL.take | apply SegL.skip))) ?_
    refine dg_e rfl rfl (.inl rfl) rfl rfl (by exact ev_call0 rfl (.cons rfl (.nil)) (spotTo_ca x1 x2 O _)) ?_
    rintro _ _ ⟨rfl, rfl⟩
    refine ⟨(SubP.of (List.Sublist.refl _)), ?_⟩
    refine dg_e rfl rfl (.inl rfl) rfl rfl (by exact ev_buildSlice (.cons rfl (.nil)) rfl (by first | exact CellsOf.agg | exact CellsOf.one rfl) (by rfl) (.cons rfl (by first | exact CellsOf.agg | exact CellsOf.one rfl) (by repeat (first | exact SetSeg.done | apply SetSeg.take | apply SetSeg.skip)) (by rfl) (by rfl) (.nil))) ?_
    rintro _ _ ⟨b19, rfl, rfl⟩
    refine ⟨(SubP.of (by repeat (first | exact List.Sublist.refl _ | exact List.nil_sublist _ | exact List.sublist_append_right _ _ | apply List.Sublist.cons_cons | apply List.Sublist.cons))), ?_⟩
    refine dg_g rfl rfl (.inl rfl) rfl rfl (by exact ev_appendL (ys := [(x1, x2)]) (T := 29) (T2 := 29) (.cons rfl (.cons rfl .nil)) rfl rfl hown (R := cat [[(b19, _)], [(b5, _)], [(b3, _)], [(b2, _)], [(b1, _)]] L) (cat_perm (ls' := [Bz, [(b19, _)], [(b5, _)], [(b3, _)], [(b2, _)], [(b1, _)]]) (ls := [[(b19, _)], [(b5, _)], [(b3, _)], Bz, [(b2, _)], [(b1, _)]]) (by repeat (first | exact PermM.nil | refine PermM.cons (by repeat (first | exact Ins.here | apply Ins.there)) ?_))) (.row (List.Mem.head _) (SegL.seg (m := 2) (by repeat (first | exact SegL.done | apply SegL.take | apply SegL.skip))).1 rfl) (fun _ => rfl) encSp_one (by simp only [List.length_singleton, List.length_take]; omega) rfl rfl rfl rfl) ?_
    rintro zv' _ ⟨Bz', hown', rfl⟩
    obtain ⟨pv2, cv2, rfl, hq2⟩ := id (hown'.rd (fun _ => rfl) (by decide))
    refine dg_w rfl rfl (.inl rfl) rfl rfl (by exact qw_fieldAddr rfl) ?_
    refine dg_g0 rfl rfl (.inl rfl) rfl (by exact ev_store rfl rfl (by first | exact CellsOf.agg | exact CellsOf.one rfl) (by repeat (first | exact List.Mem.head _ | apply List.Mem.tail | apply List.mem_append_right | assumption)) (by repeat (first | exact SetSeg.done | apply SetSeg.take | apply SetSeg.skip)) rfl rfl (by repeat (first | exact Upd.here | apply Upd.there | apply Upd.app)) (by first | exact Or.inl ⟨inferInstance, rfl⟩ | exact Or.inr inferInstance)) ?_
    rintro _ _ ⟨rfl, rfl⟩
    refine dg_nil ?_
    refine qg_block ?_
    refine qg_then ?_
    refine cg_region ?_
    refine rg_q (.inl rfl) rfl rfl (by exact QW.qr (qw_add_in rfl rfl (by unfold inK; omega))) ?_
    refine rg_q (.inl rfl) rfl rfl (by exact QW.qr (qw_move rfl)) ?_
    refine rg_nil ?_
    exact qg_round_sp _ _ _ ⟨k + 1, _, Bz', by omega, by rw [List.take_succ_eq_append_getElem hklt, hx]; exact hown', rfl, rfl, rfl⟩ (by repeat (first | exact Sub.nil | refine Sub.cons rfl ?_ | refine Sub.cons (congrArg (fun z => some (Value.int IntKind.i64 z)) (by omega)) ?_)) (cat_sub (ls' := [[(b3, _)], Bz', [(b2, _)], [(b1, _)]]) (ls := [Bz', [(b19, _)], [(b5, _)], [(b3, _)], [(b2, _)], [(b1, _)]]) (by repeat (first | exact SubM.nil | refine SubM.cons (by repeat (first | exact Ins.here | apply Ins.there)) ?_))) (by omega)
  · intro hlt
    obtain rfl : k = spots.length := by omega
    rw [List.take_length] at hown
    clear hRv hsv hcv hlv
    refine rg_nil ?_
    refine qg_then ?_
    refine cg_seq ?_
    refine cg_false rfl ?_
    refine cg_exit ?_
    refine qg_then_exit ?_
    refine qg_then_exit ?_
    refine qg_block_here ?_
    refine qg_then ?_
    refine cg_seq ?_
    refine cg_seq ?_
    refine cg_region ?_
    refine rg_q (.inl rfl) rfl rfl (by exact QW.qr (qw_fieldAddr rfl)) ?_
    refine rg_q (.inl rfl) rfl rfl (by exact qr_load1 rfl (by repeat (first | exact List.Mem.head _ | apply List.Mem.tail | apply List.mem_append_right | assumption)) rfl) ?_
    refine rg_q (.inl rfl) rfl rfl (by exact QW.qr (qw_len_slice (t := 23) (.cons rfl (.nil)) rfl)) ?_
    refine rg_q (.inl rfl) rfl rfl (by exact QW.qr (qw_move rfl)) ?_
    refine rg_nil ?_
    refine qg_then ?_
    refine cg_block ?_
    refine cg_loop (fun E' L' m => ∃ (k : Nat) (yv : Value) (By : List Blk), k ≤ es.length ∧ OwnL 53 encE 8 yv (es.take k) By ∧
      E' = [(1, .pointer (some ⟨b1, 0, none⟩)), (2, .pointer (some ⟨b2, 0, none⟩)), (3, .pointer (some ⟨b3, 0, none⟩)), (24, .slice pe es.length ce), (25, .int .i64 es.length), (26, .int .i64 k)] ∧
      L' = (b3, .cells [Value.slice pv (spots.take spots.length).length cv, yv].toArray 32 (0, 0)) :: cat [By, Bz] ((b2, .cells [Value.slice none 0 0, Value.slice none 0 0].toArray 32 (0, 0)) :: (b1, .cells [Value.slice pz spots.length cz, Value.slice pe es.length ce].toArray 25 (0, 0)) :: L) ∧ m = es.length - k)
      _ _ _ ⟨0, _, [], by omega, OwnL.nil, rfl, rfl, rfl⟩ (by repeat (first | exact Sub.nil | refine Sub.cons rfl ?_ | refine Sub.cons (congrArg (fun z => some (Value.int IntKind.i64 z)) (by omega)) ?_)) (List.Perm.refl _) ?_
    rintro _ _ _ ⟨k, yv, By, hk, howe, rfl, rfl, rfl⟩
    obtain ⟨py, cy, rfl, hly, hcy, hsy, hRy⟩ := id (howe.rd (fun _ => rfl) (by decide))
    refine cg_seq ?_
    refine cg_region ?_
    refine rg_split (.inl rfl) rfl rfl (by exact qc_lss rfl rfl) ?_ ?_
    · intro hlt
      have hklt : k < es.length := by omega
      obtain ⟨b0, o0, A0, t0, fz0, rfl, hm0, hseg⟩ := hRe (by omega)
      have hfe := hseg.elem (enc := encE) (k := 8) (fun _ => rfl) hklt
      obtain ⟨x, hx⟩ : ∃ x, es[k] = x := ⟨_, rfl⟩
      rw [hx] at hfe
      refine rg_nil ?_
      refine qg_then ?_
      refine cg_seq ?_
      refine cg_true rfl ?_
      refine cg_skip ?_
      refine qg_then ?_
      refine cg_seq ?_
      refine cg_block ?_
      refine cg_seq ?_
      unfold encE
      refine cg_region ?_
      refine rg_q (.inl rfl) rfl rfl (by exact QW.qr (qw_indexAddr rfl rfl (by omega) (by omega))) ?_
      refine rg_q (.inl rfl) rfl rfl (by exact qr_loadS (vs := encE x) rfl (List.mem_cons_of_mem _ (mem_catF (List.mem_cons_of_mem _ (List.mem_cons_of_mem _ hm0)))) hfe rfl) ?_
      refine rg_e (.inl rfl) rfl rfl (by exact ev_alloc (by first | exact CellsOf.agg | exact CellsOf.one rfl)) ?_
      rintro _ _ ⟨b7, rfl, rfl⟩
      refine rg_e0 (.inl rfl) rfl (by exact ev_store rfl rfl (by first | exact CellsOf.agg | exact CellsOf.one rfl) (by repeat (first | exact List.Mem.head _ | apply List.Mem.tail | apply List.mem_append_right | assumption)) (by repeat (first | exact SetSeg.done | apply SetSeg.take | apply SetSeg.skip)) rfl rfl (by repeat (first | exact Upd.here | apply Upd.there | apply Upd.app)) (by first | exact Or.inl ⟨inferInstance, rfl⟩ | exact Or.inr inferInstance)) ?_
      rintro _ _ ⟨rfl, rfl⟩
      refine rg_nil ?_
      refine qg_then ?_
      refine cg_region ?_
      refine rg_q (.inl rfl) rfl rfl (by exact QW.qr (qw_fieldAddr rfl)) ?_
      refine rg_q (.inl rfl) rfl rfl (by exact qr_load1 rfl (by repeat (first | exact List.Mem.head _ | apply List.Mem.tail | apply List.mem_append_right | assumption)) rfl) ?_
      refine rg_q (.inl rfl) rfl rfl (by exact QW.qr (qw_fieldAddr rfl)) ?_
      refine rg_q (.inl rfl) rfl rfl (by exact qr_loadN rfl (by repeat (first | exact List.Mem.head _ | apply List.Mem.tail | apply List.mem_append_right | assumption)) (by repeat (first | exact SegL.done | apply SegL.take | apply SegL.skip))) ?_
      refine rg_q (.inl rfl) rfl rfl (by exact QW.qr (qw_fieldAddr rfl)) ?_
      refine rg_q (.inl rfl) rfl rfl (by exact qr_loadN rfl (by repeat (first | exact List.Mem.head _ | apply List.Mem.tail | apply List.mem_append_right | assumption)) (by repeat (first | exact SegL.done | apply SegL.take | apply SegL.skip))) ?_
      refine rg_q (.inl rfl) rfl rfl (by exact QW.qr (qw_fieldAddr rfl)) ?_
      refine rg_q (.inl rfl) rfl rfl (by exact QW.qr (qw_indexAddr_arr rfl rfl (by omega) (by omega))) ?_
      refine rg_q (.inl rfl) rfl rfl (by exact QW.qr (qw_fieldAddr rfl)) ?_
      refine rg_q (.inl rfl) rfl rfl (by exact qr_load1 rfl (by repeat (first | exact List.Mem.head _ | apply List.Mem.tail | apply List.mem_append_right | assumption)) rfl) ?_
      refine rg_q (.inl rfl) rfl rfl (by exact QW.qr (qw_fieldAddr rfl)) ?_
      refine rg_q (.inl rfl) rfl rfl (by exact QW.qr (qw_indexAddr_arr rfl rfl (by omega) (by omega))) ?_
      refine rg_q (.inl rfl) rfl rfl (by exact QW.qr (qw_fieldAddr rfl)) ?_
      refine rg_q (.inl rfl) rfl rfl (by exact qr_load1 rfl (by repeat (first | exact List.Mem.head _ | apply List.Mem.tail | apply List.mem_append_right | assumption)) rfl) ?_
      refine rg_q (.inl rfl) rfl rfl (by exact QW.qr (qw_build (.cons rfl (.cons rfl (.nil))) rfl (.cons rfl (by first | exact CellsOf.agg | exact CellsOf.one rfl) (by repeat (first | exact SetSeg.done | apply SetSeg.take | apply SetSeg.skip)) (by rfl) (by rfl) (.cons rfl (by first | exact CellsOf.agg | exact CellsOf.one rfl) (by repeat (first | exact SetSeg.done | apply SetSeg.take | apply SetSeg.skip)) (by rfl) (by rfl) (.nil))))) ?_
      refine rg_q (.inl rfl) rfl rfl (by exact QW.qr (qw_fieldAddr rfl)) ?_
      refine rg_q (.inl rfl) rfl rfl (by exact QW.qr (qw_indexAddr_arr rfl rfl (by omega) (by omega))) ?_
      refine rg_q (.inl rfl) rfl rfl (by exact QW.qr (qw_fieldAddr rfl)) ?_
      refine rg_q (.inl rfl) rfl rfl (by exact qr_load1 rfl (by repeat (first | exact List.Mem.head _ | apply List.Mem.tail | apply List.mem_append_right | assumption)) rfl) ?_
      refine rg_q (.inl rfl) rfl rfl (by exact QW.qr (qw_fieldAddr rfl)) ?_
      refine rg_q (.inl rfl) rfl rfl (by exact QW.qr (qw_indexAddr_arr rfl rfl (by omega) (by omega))) ?_
      refine rg_q (.inl rfl) rfl rfl (by exact QW.qr (qw_fieldAddr rfl)) ?_
      refine rg_q (.inl rfl) rfl rfl (by exact qr_load1 rfl (by repeat (first | exact List.Mem.head _ | apply List.Mem.tail | apply List.mem_append_right | assumption)) rfl) ?_
      refine rg_q (.inl rfl) rfl rfl (by exact QW.qr (qw_build (.cons rfl (.cons rfl (.nil))) rfl (.cons rfl (by first | exact CellsOf.agg | exact CellsOf.one rfl) (by repeat (first | exact SetSeg.done | apply SetSeg.take | apply SetSeg.skip)) (by rfl) (by rfl) (.cons rfl (by first | exact CellsOf.agg | exact CellsOf.one rfl) (by repeat (first | exact SetSeg.done | apply SetSeg.take | apply SetSeg.skip)) (by rfl) (by rfl) (.nil))))) ?_
      refine rg_q (.inl rfl) rfl rfl (by exact QW.qr (qw_build_arr (.cons rfl (.cons rfl (.nil))) (.cons rfl (by first | exact CellsOf.agg | exact CellsOf.one rfl) (by repeat (first | exact SetSeg.done | apply SetSeg.take | apply SetSeg.skip)) (by rfl) (by rfl) (.cons rfl (by first | exact CellsOf.agg | exact CellsOf.one rfl) (by repeat (first | exact SetSeg.done | apply SetSeg.take | apply SetSeg.skip)) (by rfl) (by rfl) (.nil))))) ?_
      refine rg_q (.inl rfl) rfl rfl (by exact QW.qr (qw_build (.cons rfl (.cons rfl (.cons rfl (.nil)))) rfl (.cons rfl (by first | exact CellsOf.agg | exact CellsOf.one rfl) (by repeat (first | exact SetSeg.done | apply SetSeg.take | apply SetSeg.skip)) (by rfl) (by rfl) (.cons rfl (by first | exact CellsOf.agg | exact CellsOf.one rfl) (by repeat (first | exact SetSeg.done | apply SetSeg.take | apply SetSeg.skip)) (by rfl) (by rfl) (.cons rfl (by first | exact CellsOf.agg | exact CellsOf.one rfl) (by repeat (first | exact SetSeg.done | apply SetSeg.take | apply SetSeg.skip)) (by rfl) (by rfl) (.nil)))))) ?_
      refine rg_e (.inl rfl) rfl rfl (by exact ev_buildSlice (.cons rfl (.nil)) rfl (by first | exact CellsOf.agg | exact CellsOf.one rfl) (by rfl) (.cons rfl (by first | exact CellsOf.agg | exact CellsOf.one rfl) (by repeat (first | exact SetSeg.done | apply SetSeg.take | apply SetSeg.skip)) (by rfl) (by rfl) (.nil))) ?_
      rintro _ _ ⟨b56, rfl, rfl⟩
      refine rg_e (.inl rfl) rfl rfl (by exact ev_appendL (ys := [x]) (T := 30) (T2 := 30) (.cons rfl (.cons rfl .nil)) rfl rfl howe (R := cat [[(b56, _)], [(b7, _)], [(b3, _)], Bz, [(b2, _)], [(b1, _)]] L) (cat_perm (ls' := [By, [(b56, _)], [(b7, _)], [(b3, _)], Bz, [(b2, _)], [(b1, _)]]) (ls := [[(b56, _)], [(b7, _)], [(b3, _)], By, Bz, [(b2, _)], [(b1, _)]]) (by repeat (first | exact PermM.nil | refine PermM.cons (by repeat (first | exact Ins.here | apply Ins.there)) ?_))) (.row (List.Mem.head _) (SegL.seg (m := 8) (by repeat (first | exact SegL.done | apply SegL.take | apply SegL.skip))).1 rfl) (fun _ => rfl) encE_one (by simp only [List.length_singleton, List.length_take]; omega) rfl rfl rfl rfl) ?_
      rintro yv' _ ⟨By', howe', rfl⟩
      obtain ⟨py2, cy2, rfl, hq2⟩ := id (howe'.rd (fun _ => rfl) (by decide))
      refine rg_q (.inl rfl) rfl rfl (by exact QW.qr (qw_fieldAddr rfl)) ?_
      refine rg_e0 (.inl rfl) rfl (by exact ev_store rfl rfl (by first | exact CellsOf.agg | exact CellsOf.one rfl) (by repeat (first | exact List.Mem.head _ | apply List.Mem.tail | apply List.mem_append_right | assumption)) (by repeat (first | exact SetSeg.done | apply SetSeg.take | apply SetSeg.skip)) rfl rfl (by repeat (first | exact Upd.here | apply Upd.there | apply Upd.app)) (by first | exact Or.inl ⟨inferInstance, rfl⟩ | exact Or.inr inferInstance)) ?_
      rintro _ _ ⟨rfl, rfl⟩
      refine rg_nil ?_
      refine qg_block ?_
      refine qg_then ?_
      refine cg_region ?_
      refine rg_q (.inl rfl) rfl rfl (by exact QW.qr (qw_add_in rfl rfl (by unfold inK; omega))) ?_
      refine rg_q (.inl rfl) rfl rfl (by exact QW.qr (qw_move rfl)) ?_
      refine rg_nil ?_
      exact qg_round_sp _ _ _ ⟨k + 1, _, By', by omega, by rw [List.take_succ_eq_append_getElem hklt, hx]; exact howe', rfl, rfl, rfl⟩ (by repeat (first | exact Sub.nil | refine Sub.cons rfl ?_ | refine Sub.cons (congrArg (fun z => some (Value.int IntKind.i64 z)) (by omega)) ?_)) (cat_sub (ls' := [[(b3, _)], By', Bz, [(b2, _)], [(b1, _)]]) (ls := [By', [(b56, _)], [(b7, _)], [(b3, _)], Bz, [(b2, _)], [(b1, _)]]) (by repeat (first | exact SubM.nil | refine SubM.cons (by repeat (first | exact Ins.here | apply Ins.there)) ?_))) (by omega)
    · intro hlt
      obtain rfl : k = es.length := by omega
      rw [List.take_length] at howe
      refine rg_nil ?_
      refine qg_then ?_
      refine cg_seq ?_
      refine cg_false rfl ?_
      refine cg_exit ?_
      refine qg_then_exit ?_
      refine qg_then_exit ?_
      refine qg_block_here ?_
      refine qg_then ?_
      refine cg_seq ?_
      simp only [List.take_length]
      refine cg_region ?_
      refine rg_q (.inl rfl) rfl rfl (by exact qr_loadN rfl (by repeat (first | exact List.Mem.head _ | apply List.Mem.tail | apply List.mem_append_right | assumption)) (by repeat (first | exact SegL.done | apply SegL.take | apply SegL.skip))) ?_
      refine rg_e0 (.inl rfl) rfl (by exact ev_store rfl rfl (by first | exact CellsOf.agg | exact CellsOf.one rfl) (by repeat (first | exact List.Mem.head _ | apply List.Mem.tail | apply List.mem_append_right | assumption)) (by repeat (first | exact SetSeg.done | apply SetSeg.take | apply SetSeg.skip)) rfl rfl (by repeat (first | exact Upd.here | apply Upd.there | apply Upd.app)) (by first | exact Or.inl ⟨inferInstance, rfl⟩ | exact Or.inr inferInstance)) ?_
      rintro _ _ ⟨rfl, rfl⟩
      refine rg_nil ?_
      refine qg_then ?_
      refine cg_ret ?_
      exact qg_end_sp (.inl rfl) _ (.cons (resCellN rfl (by repeat (first | exact List.Mem.head _ | apply List.Mem.tail | apply List.mem_append_right | assumption)) (by repeat (first | exact SegL.done | apply SegL.take | apply SegL.skip))) (.nil)) _ (cat_sub (ls' := [By, Bz]) (ls := [[(b3, _)], By, Bz, [(b2, _)], [(b1, _)]]) (by repeat (first | exact SubM.nil | refine SubM.cons (by repeat (first | exact Ins.here | apply Ins.there)) ?_))) ⟨_, _, _, By ++ Bz, rfl, by rw [List.append_assoc]; rfl, (hown.rd (fun _ => rfl) (by decide)).mono (fun q hq => List.mem_append_right _ hq), (howe.rd (fun _ => rfl) (by decide)).mono (fun q hq => List.mem_append_left _ hq)⟩

end Go.Proofs.Ytjimpciiaceleaa