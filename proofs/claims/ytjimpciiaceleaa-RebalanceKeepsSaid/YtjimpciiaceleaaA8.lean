/-
  THE WALK of path.fill. Conditions: sizes; the way is one over channels that are there.
-/
import Derived.Test.YtjimpciiaceleaaA7
namespace Go.Proofs.Ytjimpciiaceleaa
open Fw
set_option linter.unusedVariables false
set_option maxRecDepth 100000

theorem zip_get {nodes edges : List Int} {k : Nat} (h1 : k < edges.length) (h2 : edges.length ≤ nodes.length) : ∃ h : k < (nodes.zip edges).length, (nodes.zip edges)[k] = (nodes[k], edges[k]) :=
  ⟨by rw [List.length_zip]; omega, by simp⟩
theorem side_parts {es : List Edge} {h : Int × Int} (hh : hopOk es h) :
    (encE (edgeAt es h.2))[0 + (2 : Nat) + (sideOf (edgeAt es h.2) h.1).toNat * 1]? = some (U (canOf es h)) ∧ Seg (encE (edgeAt es h.2)).toArray (0 + (4 : Nat) + (sideOf (edgeAt es h.2) h.1).toNat * 2) (encFee (feeOf es h)) ∧
    (encE (edgeAt es h.2))[0 + (0 : Nat) + (sideOf (edgeAt es h.2) h.1).toNat * 1]? = some (I (endAt (edgeAt es h.2) (sideOf (edgeAt es h.2) h.1).toNat)) ∧ 0 ≤ sideOf (edgeAt es h.2) h.1 ∧ sideOf (edgeAt es h.2) h.1 < 2 := by
  obtain ⟨_, _, h3⟩ := hh
  unfold canOf feeOf
  generalize edgeAt es h.2 = e at *
  rcases h3 with h3 | h3 <;> rw [h3]
  · exact ⟨rfl, (SegL.seg (l := encE e) (o := 4) (m := 2) (by repeat (first | exact SegL.done | apply SegL.take | apply SegL.skip))).1, rfl, by decide, by decide⟩
  · exact ⟨rfl, (SegL.seg (l := encE e) (o := 6) (m := 2) (by repeat (first | exact SegL.done | apply SegL.take | apply SegL.skip))).1, rfl, by decide, by decide⟩
theorem edgeAt_eq {es : List Edge} {x : Int} (h : x.toNat < es.length) : es[x.toNat] = edgeAt es x := by
  unfold edgeAt; rw [List.getElem?_eq_getElem h]; rfl
def nilRoute : Value := .agg #[.slice none 0 0, .slice none 0 0, .slice none 0 0]

theorem fill_ca (es : List Edge) (nodes edges : List Int) (a : Int) (sv ev nv xv : Value) (hsv : sv.oneCell' = true) (ha : isU64 a) (hg : ∀ e ∈ es, goodEdge e) (O : Out) (L : List Blk)
    (he : RdL L encE 8 ev es) (hnv : RdL L encI 1 nv nodes) (hxv : RdL L encI 1 xv edges) (hes : es.length ≤ 1000) (hlen : edges.length ≤ nodes.length) (hnl : nodes.length ≤ 900) (hok : ∀ h ∈ nodes.zip edges, hopOk es h) :
    CA Try.prog 22 [.agg #[sv, ev], nv, xv, U a] O L fun v L' => (fillF es nodes edges a = none ∧ v = .tuple #[nilRoute, .bool false] ∧ L' = L) ∨
      ∃ am, fillF es nodes edges a = some am ∧ ∃ n e c B, v = .tuple #[.agg #[n, e, c], .bool true] ∧ L' = B ++ L ∧ RdL B encI 1 n nodes ∧ RdL B encI 1 e edges ∧ RdL B encU 1 c am := by
  obtain ⟨pe, cape, rfl, hl2, hcap2, hsp2, hR2⟩ := id he
  obtain ⟨pn, capn, rfl, hln, hcapn, hspn, hRn⟩ := id hnv
  obtain ⟨px, capx, rfl, hlx, hcapx, hspx, hRx⟩ := id hxv
  refine ca_enter Try.func22 rfl rfl ?_
  rw [Try.ntmps22]
  simp only [envOf]
  refine cg_seq ?_
  refine cg_region ?_
  refine rg_e (.inl rfl) rfl rfl (by exact ev_box rfl (by first | exact CellsOf.agg | exact CellsOf.one rfl)) ?_
  rintro _ _ ⟨b4, rfl, rfl⟩
  refine rg_e (.inl rfl) rfl rfl (by exact ev_alloc (by first | exact CellsOf.agg | exact CellsOf.one rfl)) ?_
  rintro _ _ ⟨b8, rfl, rfl⟩
  refine rg_q (.inl rfl) rfl rfl (by exact QW.qr (qw_assign rfl)) ?_
  refine rg_nil ?_
  refine qg_then ?_
  refine cg_seq ?_
  refine cg_region ?_
  refine rg_q (.inl rfl) rfl rfl (by exact QW.qr (qw_assign rfl)) ?_
  refine rg_nil ?_
  refine qg_then ?_
  refine cg_seq ?_
  refine cg_seq ?_
  refine cg_region ?_
  refine rg_q (.inl rfl) rfl rfl (by exact QW.qr (qw_move rfl)) ?_
  refine rg_q (.inl rfl) rfl rfl (by exact QW.qr (qw_len_slice (t := 38) (.cons rfl (.nil)) rfl)) ?_
  refine rg_q (.inl rfl) rfl rfl (by exact QW.qr (qw_move rfl)) ?_
  refine rg_nil ?_
  refine qg_then ?_
  refine cg_block ?_
  refine cg_loop (fun E' L' m => ∃ (k : Nat) (ov : Value) (B : List Blk), k ≤ edges.length ∧ OwnL 50 encFee 2 ov (((nodes.zip edges).take k).tail.map (feeOf es)) B ∧ E' = [(1, .slice pn nodes.length capn), (2, .slice px edges.length capx), (3, U a), (4, .pointer (some ⟨b4, 0, none⟩)), (8, .pointer (some ⟨b8, 0, none⟩)), (10, ov), (19, .slice px edges.length capx), (20, .int .i64 edges.length), (21, .int .i64 k)] ∧
    L' = B ++ (b8, .cells [Value.slice none 0 0, Value.slice none 0 0, Value.slice none 0 0].toArray 41 (0, 0)) :: (b4, .cells [sv, Value.slice pe es.length cape].toArray 32 (0, 0)) :: L ∧ m = edges.length - k) _ _ _ ⟨0, _, [], by omega, OwnL.nil, rfl, rfl, rfl⟩ (by repeat (first | exact Sub.nil | refine Sub.cons rfl ?_ | refine Sub.cons (congrArg (fun z => some (Value.int IntKind.i64 z)) (by omega)) ?_)) (List.Perm.refl _) ?_
  rintro _ _ _ ⟨k, ov, B, hk, hown, rfl, rfl, rfl⟩
  refine cg_seq ?_
  refine cg_region ?_
  refine rg_split (.inl rfl) rfl rfl (by exact qc_lss rfl rfl) ?_ ?_
  · intro hlt
    have hklt : k < edges.length := by omega
    obtain ⟨hzl, hzk⟩ := zip_get hklt hlen
    have hop := hok _ (List.getElem_mem hzl)
    rw [hzk] at hop
    obtain ⟨hx0, hx1, hsd⟩ := id hop
    obtain ⟨b0, o0, A0, t0, fz0, rfl, hm0, hseg⟩ := hR2 (by omega)
    obtain ⟨bx, ox, Ax, tx, fzx, rfl, hmx, hsegx⟩ := hRx (by omega)
    obtain ⟨bn, on, An, tn, fzn, rfl, hmn, hsegn⟩ := hRn (by omega)
    have hfe := hseg.elem (enc := encE) (k := 8) (fun _ => rfl) hx1
    rw [edgeAt_eq hx1] at hfe
    have hgx : Ax[ox + (k : Int).toNat * 1]? = some (I edges[k]) := by
      have := (hsegx.elem (enc := encI) (k := 1) (fun _ => rfl) hklt).get (i := 0) (v := I edges[k]) rfl
      simpa using this
    have hgn : An[on + (k : Int).toNat * 1]? = some (I nodes[k]) := by
      have := (hsegn.elem (enc := encI) (k := 1) (fun _ => rfl) (i := k) (by omega)).get (i := 0) (v := I nodes[k]) rfl
      simpa using this
    obtain ⟨hcan, hfee, hend, hs0, hs1⟩ := side_parts hop
    have htl : (((nodes.zip edges).take k).tail.map (feeOf es)).length ≤ 1000 := by
      rw [List.length_map, List.length_tail, List.length_take, List.length_zip]; omega
    refine rg_nil ?_
    refine qg_then ?_
    refine cg_seq ?_
    refine cg_true rfl ?_
    refine cg_skip ?_
    refine qg_then ?_
    refine cg_seq ?_
    refine cg_block ?_
    refine cg_seq ?_
    refine cg_region ?_
    refine rg_q (.inl rfl) rfl rfl (by exact QW.qr (qw_move rfl)) ?_
    refine rg_q (.inl rfl) rfl rfl (by exact QW.qr (qw_indexAddr rfl rfl (by omega) (by omega))) ?_
    refine rg_q (.inl rfl) rfl rfl (by exact qr_load1' rfl (List.mem_append_right _ (List.mem_cons_of_mem _ (List.mem_cons_of_mem _ hmx))) hgx) ?_
    refine rg_q (.inl rfl) rfl rfl (by exact QW.qr (qw_assign rfl)) ?_
    refine rg_q (.inl rfl) rfl rfl (by exact QW.qr (qw_assign rfl)) ?_
    refine rg_nil ?_
    refine qg_then ?_
    refine cg_seq ?_
    refine cg_region ?_
    refine rg_q (.inl rfl) rfl rfl (by exact QW.qr (qw_fieldAddr rfl)) ?_
    refine rg_q (.inl rfl) rfl rfl (by exact qr_load1 rfl (by repeat (first | exact List.Mem.head _ | apply List.Mem.tail | apply List.mem_append_right | assumption)) rfl) ?_
    refine rg_q (.inl rfl) rfl rfl (by exact QW.qr (qw_move rfl)) ?_
    refine rg_q (.inl rfl) rfl rfl (by exact QW.qr (qw_indexAddr rfl rfl (by exact hx0) (by show edges[k] < _; omega))) ?_
    refine rg_q (.inl rfl) rfl rfl (by exact qr_loadS rfl (List.mem_append_right _ (List.mem_cons_of_mem _ (List.mem_cons_of_mem _ hm0))) hfe rfl) ?_
    refine rg_e (.inl rfl) rfl rfl (by exact ev_alloc (by first | exact CellsOf.agg | exact CellsOf.one rfl)) ?_
    rintro _ _ ⟨b13, rfl, rfl⟩
    refine rg_e0 (.inl rfl) rfl (by exact ev_store rfl rfl (by first | exact CellsOf.agg | exact CellsOf.one rfl) (by repeat (first | exact List.Mem.head _ | apply List.Mem.tail | apply List.mem_append_right | assumption)) (by repeat (first | exact SetSeg.done | apply SetSeg.take | apply SetSeg.skip)) rfl rfl (by repeat (first | exact Upd.here | apply Upd.there | apply Upd.app)) (by first | exact Or.inl ⟨inferInstance, rfl⟩ | exact Or.inr inferInstance)) ?_
    rintro _ _ ⟨rfl, rfl⟩
    refine rg_nil ?_
    refine qg_then ?_
    refine cg_seq ?_
    refine cg_region ?_
    refine rg_q (.inl rfl) rfl rfl (by exact QW.qr (qw_move rfl)) ?_
    refine rg_split (.inl rfl) rfl rfl (by exact qc_gtr rfl rfl) ?_ ?_
    · intro hk0
      replace hk0 : 0 < k := by omega
      refine rg_nil ?_
      refine qg_then ?_
      refine cg_true rfl ?_
      refine cg_draw follows (.op 0 false (.op 1 false (.op 2 false (.op 3 false (.op 4 false (.op 5 false (.op 7 false (.op 6 false (.op 8 false (.op 9 false (.op 10 false (.op 11 false (.op 12 false .done))))))))))))) _ (by kernel_rfl) (SubP.of (List.Sublist.cons_cons _ (List.sublist_append_right _ _))) ?_
      refine dg_w rfl rfl (.inl rfl) rfl rfl (by exact qw_move rfl) ?_
      refine dg_r rfl rfl rfl (.inl rfl) rfl rfl (by exact qr_loadN rfl (by repeat (first | exact List.Mem.head _ | apply List.Mem.tail | apply List.mem_append_right | assumption)) (by repeat (first | exact SegL.done | apply SegL.take | apply SegL.skip))) ?_
      refine dg_w rfl rfl (.inl rfl) rfl rfl (by exact qw_move rfl) ?_
      refine dg_w rfl rfl (.inl rfl) rfl rfl (by exact qw_move rfl) ?_
      refine dg_w rfl rfl (.inl rfl) rfl rfl (by exact qw_indexAddr rfl rfl (by omega) (by omega)) ?_
      refine dg_r rfl rfl rfl (.inl rfl) rfl rfl (by exact qr_load1' rfl (List.mem_cons_of_mem _ (List.mem_cons_of_mem _ (List.mem_cons_of_mem _ hmn))) hgn) ?_
      refine dg_w rfl rfl (.inl rfl) rfl rfl (by exact qw_fieldAddr rfl) ?_
      refine dg_e rfl rfl (.inl rfl) rfl rfl (by exact ev_call0 rfl (.cons rfl (.cons rfl (.nil))) (side_ca (edgeAt es edges[k]) nodes[k] O _)) ?_
      rintro _ _ ⟨rfl, rfl⟩
      refine ⟨(SubP.of (List.Sublist.cons_cons _ (List.sublist_append_right _ _))), ?_⟩
      refine dg_w rfl rfl (.inl rfl) rfl rfl (by exact qw_indexAddr_arr rfl rfl (by exact hs0) (by exact hs1)) ?_
      refine dg_r rfl rfl rfl (.inl rfl) rfl rfl (by exact qr_loadS (vs := encFee (feeOf es (nodes[k], edges[k]))) rfl (List.Mem.head _) hfee rfl) ?_
      refine dg_g rfl rfl (.inl rfl) rfl rfl (by exact ev_buildSlice (.cons rfl (.nil)) rfl (by first | exact CellsOf.agg | exact CellsOf.one rfl) (by rfl) (.cons rfl (by first | exact CellsOf.agg | exact CellsOf.one rfl) (by repeat (first | exact SetSeg.done | apply SetSeg.take | apply SetSeg.skip)) (by rfl) (by rfl) (.nil))) ?_
      rintro _ _ ⟨b43, rfl, rfl⟩
      refine dg_g rfl rfl (.inl rfl) rfl rfl (by exact ev_appendL (ys := [feeOf es (nodes[k], edges[k])]) (T := 96) (T2 := 96) (.cons rfl (.cons rfl .nil)) rfl rfl hown (pull [_, _] B _) (.row (List.Mem.head _) (SegL.seg (m := 2) (vs := encFee (feeOf es (nodes[k], edges[k]))) (by repeat (first | exact SegL.done | apply SegL.take | apply SegL.skip))).1 rfl) (fun _ => rfl) encFee_one (by simp only [List.length_singleton]; omega) rfl rfl rfl rfl) ?_
      rintro ov' _ ⟨B', hown', rfl⟩
      refine dg_w rfl rfl (.inl rfl) rfl rfl (by exact qw_assign rfl) ?_
      refine dg_nil ?_
      refine qg_block ?_
      refine qg_then ?_
      refine cg_region ?_
      refine rg_q (.inl rfl) rfl rfl (by exact QW.qr (qw_add_in rfl rfl (by unfold inK; omega))) ?_
      refine rg_q (.inl rfl) rfl rfl (by exact QW.qr (qw_move rfl)) ?_
      refine rg_nil ?_
      first
        | exact qg_round_sub _ _ _ ⟨k + 1, _, B', by omega, by rw [tail_take _ k hzl, List.map_append, if_pos hk0, hzk]; exact hown', rfl, rfl, rfl⟩ (by repeat (first | exact Sub.nil | refine Sub.cons rfl ?_ | refine Sub.cons (congrArg (fun z => some (Value.int IntKind.i64 z)) (by omega)) ?_)) (List.Sublist.append_left (List.sublist_append_right [_, _] _) _) (by omega)
        | exact qg_round_sub _ _ _ ⟨k + 1, _, B, by omega, by rw [tail_take _ k hzl, if_neg hk0, List.append_nil]; exact hown, rfl, rfl, rfl⟩ (by repeat (first | exact Sub.nil | refine Sub.cons rfl ?_ | refine Sub.cons (congrArg (fun z => some (Value.int IntKind.i64 z)) (by omega)) ?_)) (List.sublist_cons_self _ _) (by omega)
    · intro hk0
      replace hk0 : ¬ 0 < k := by omega
      refine rg_nil ?_
      refine qg_then ?_
      refine cg_false rfl ?_
      refine cg_skip ?_
      refine qg_block ?_
      refine qg_then ?_
      refine cg_region ?_
      refine rg_q (.inl rfl) rfl rfl (by exact QW.qr (qw_add_in rfl rfl (by unfold inK; omega))) ?_
      refine rg_q (.inl rfl) rfl rfl (by exact QW.qr (qw_move rfl)) ?_
      refine rg_nil ?_
      first
        | exact qg_round_sub _ _ _ ⟨k + 1, _, B', by omega, by rw [tail_take _ k hzl, List.map_append, if_pos hk0, hzk]; exact hown', rfl, rfl, rfl⟩ (by repeat (first | exact Sub.nil | refine Sub.cons rfl ?_ | refine Sub.cons (congrArg (fun z => some (Value.int IntKind.i64 z)) (by omega)) ?_)) (List.Sublist.append_left (List.sublist_append_right [_, _] _) _) (by omega)
        | exact qg_round_sub _ _ _ ⟨k + 1, _, B, by omega, by rw [tail_take _ k hzl, if_neg hk0, List.append_nil]; exact hown, rfl, rfl, rfl⟩ (by repeat (first | exact Sub.nil | refine Sub.cons rfl ?_ | refine Sub.cons (congrArg (fun z => some (Value.int IntKind.i64 z)) (by omega)) ?_)) (List.sublist_cons_self _ _) (by omega)
  · intro hlt
    obtain rfl : k = edges.length := by omega
    refine rg_nil ?_
    refine qg_then ?_
    refine cg_seq ?_
    refine cg_false rfl ?_
    refine cg_exit ?_
    refine qg_then_exit ?_
    refine qg_then_exit ?_
    refine qg_block_here ?_
    refine qg_then ?_
    refine cg_seq ?_
    have hzt : ((nodes.zip edges).take edges.length).tail.map (feeOf es) = feesOf es nodes edges := by
      rw [List.take_of_length_le (by rw [List.length_zip]; omega)]; rfl
    rw [hzt] at hown
    have hrd := hown.rd (fun _ => rfl) (by decide)
    have hfl : (feesOf es nodes edges).length ≤ 1000 := by
      unfold feesOf; rw [List.length_map, List.length_tail, List.length_zip]; omega
    have hfg : ∀ f ∈ feesOf es nodes edges, goodFee f := by
      intro f hf
      unfold feesOf at hf
      obtain ⟨h, hh, rfl⟩ := List.mem_map.1 hf
      exact feeOf_good hg h (hok h (List.mem_of_mem_tail hh))
    refine cg_region ?_
    refine rg_q (.inl rfl) rfl rfl (by exact QW.qr (qw_move rfl)) ?_
    refine rg_q (.inl rfl) rfl rfl (by exact QW.qr (qw_move rfl)) ?_
    refine rg_e (.inl rfl) rfl rfl (by exact ev_call0 rfl (.cons rfl (.cons rfl (.nil))) (back_ca a (feesOf es nodes edges) _ ha hfg hfl O _ (hrd.mono (fun _ h => List.mem_append_left _ h)))) ?_
    rintro _ _ (⟨hb, rfl, rfl⟩ | ⟨hb, av, Ba, rfl, rfl, hav⟩)
    · skip
      have hfin : fillF es nodes edges a = none := by rw [fillF, if_neg hb]
      refine rg_q (.inl rfl) rfl rfl (by exact QW.qr (qw_move rfl)) ?_
      refine rg_q (.inl rfl) rfl rfl (by exact QW.qr (qw_extract rfl rfl)) ?_
      refine rg_q (.inl rfl) rfl rfl (by exact QW.qr (qw_extract rfl rfl)) ?_
      refine rg_q (.inl rfl) rfl rfl (by exact QW.qr (qw_assign rfl)) ?_
      refine rg_q (.inl rfl) rfl rfl (by exact QW.qr (qw_assign rfl)) ?_
      refine rg_nil ?_
      refine qg_then ?_
      refine cg_seq ?_
      refine cg_seq ?_
      refine cg_region ?_
      refine rg_q (.inl rfl) rfl rfl (by exact QW.qr (qw_move rfl)) ?_
      refine rg_q (.inl rfl) rfl rfl (by exact QW.qr (qw_neq_t rfl rfl hb)) ?_
      refine rg_nil ?_
      refine qg_then ?_
      refine cg_true rfl ?_
      refine cg_seq ?_
      refine cg_region ?_
      refine rg_q (.inl rfl) rfl rfl (by exact QW.qr (qw_build (.nil) rfl (.nil))) ?_
      refine rg_e0 (.inl rfl) rfl (by exact ev_store rfl rfl (by first | exact CellsOf.agg | exact CellsOf.one rfl) (by repeat (first | exact List.Mem.head _ | apply List.Mem.tail | apply List.mem_append_right | assumption)) (by repeat (first | exact SetSeg.done | apply SetSeg.take | apply SetSeg.skip)) rfl rfl (by repeat (first | exact Upd.here | apply Upd.there | apply Upd.app)) (by first | exact Or.inl ⟨inferInstance, rfl⟩ | exact Or.inr inferInstance)) ?_
      rintro _ _ ⟨rfl, rfl⟩
      refine rg_q (.inl rfl) rfl rfl (by exact QW.qr (qw_assign rfl)) ?_
      refine rg_nil ?_
      refine qg_then ?_
      refine cg_ret ?_
      refine qg_then_ret ?_
      exact qg_end (.inl rfl) _ (.cons (resCellN rfl (by repeat (first | exact List.Mem.head _ | apply List.Mem.tail | apply List.mem_append_right | assumption)) (by repeat (first | exact SegL.done | apply SegL.take | apply SegL.skip))) (.cons (.tmp rfl) (.nil))) L (List.Sublist.trans (List.Sublist.cons _ (List.Sublist.cons _ (List.Sublist.refl _))) (List.sublist_append_right _ _)) (Or.inl ⟨hfin, rfl, rfl⟩)
    · skip
      refine rg_q (.inl rfl) rfl rfl (by exact QW.qr (qw_move rfl)) ?_
      refine rg_q (.inl rfl) rfl rfl (by exact QW.qr (qw_extract rfl rfl)) ?_
      refine rg_q (.inl rfl) rfl rfl (by exact QW.qr (qw_extract rfl rfl)) ?_
      refine rg_q (.inl rfl) rfl rfl (by exact QW.qr (qw_assign rfl)) ?_
      refine rg_q (.inl rfl) rfl rfl (by exact QW.qr (qw_assign rfl)) ?_
      refine rg_nil ?_
      refine qg_then ?_
      refine cg_seq ?_
      refine cg_seq ?_
      refine cg_region ?_
      refine rg_q (.inl rfl) rfl rfl (by exact QW.qr (qw_move rfl)) ?_
      refine rg_q (.inl rfl) rfl rfl (by exact QW.qr (qw_neq_f rfl rfl (by simp))) ?_
      refine rg_nil ?_
      refine qg_then ?_
      refine cg_false rfl ?_
      refine cg_skip ?_
      refine qg_then ?_
      refine cg_seq ?_
      refine cg_seq ?_
      refine cg_region ?_
      refine rg_q (.inl rfl) rfl rfl (by exact QW.qr (qw_move rfl)) ?_
      refine rg_q (.inl rfl) rfl rfl (by exact QW.qr (qw_len_slice (t := 38) (.cons rfl (.nil)) rfl)) ?_
      refine rg_q (.inl rfl) rfl rfl (by exact QW.qr (qw_move rfl)) ?_
      refine rg_nil ?_
      refine qg_then ?_
      refine cg_block ?_
      obtain ⟨pa, capa, rfl, hla, hcapa, hspa, hRa⟩ := id hav
      have hbl := backF_length hb
      have hfl2 : (feesOf es nodes edges).length = (nodes.zip edges).length - 1 := by unfold feesOf; rw [List.length_map, List.length_tail]
      have hzlen : (nodes.zip edges).length = edges.length := by rw [List.length_zip]; omega
      refine cg_loop (fun E' L' m => ∃ k : Nat, k ≤ edges.length ∧ (∀ j, j < k → ∀ (h1 : j < (nodes.zip edges).length) (h2 : j < (backF a (feesOf es nodes edges)).1.length), (backF a (feesOf es nodes edges)).1[j] ≤ canOf es (nodes.zip edges)[j]) ∧
        E' = [(1, .slice pn nodes.length capn), (2, .slice px edges.length capx), (4, .pointer (some ⟨b4, 0, none⟩)), (8, .pointer (some ⟨b8, 0, none⟩)), (14, .slice pa (backF a (feesOf es nodes edges)).1.length capa), (55, .slice px edges.length capx), (56, .int .i64 edges.length), (57, .int .i64 k)] ∧
        L' = Ba ++ (B ++ (b8, .cells [Value.slice none 0 0, Value.slice none 0 0, Value.slice none 0 0].toArray 41 (0, 0)) :: (b4, .cells [sv, Value.slice pe es.length cape].toArray 32 (0, 0)) :: L) ∧ m = edges.length - k) _ _ _ ⟨0, by omega, fun j h => by omega, rfl, rfl, rfl⟩ (by repeat (first | exact Sub.nil | refine Sub.cons rfl ?_ | refine Sub.cons (congrArg (fun z => some (Value.int IntKind.i64 z)) (by omega)) ?_)) (List.Perm.refl _) ?_
      rintro _ _ _ ⟨k, hk, hall, rfl, rfl, rfl⟩
      refine cg_seq ?_
      refine cg_region ?_
      refine rg_split (.inl rfl) rfl rfl (by exact qc_lss rfl rfl) ?_ ?_
      · intro hlt
        have hklt : k < edges.length := by omega
        obtain ⟨hzl, hzk⟩ := zip_get hklt hlen
        have hop := hok _ (List.getElem_mem hzl)
        rw [hzk] at hop
        obtain ⟨hx0, hx1, hsd⟩ := id hop
        obtain ⟨b0, o0, A0, t0, fz0, rfl, hm0, hseg⟩ := hR2 (by omega)
        obtain ⟨bx, ox, Ax, tx, fzx, rfl, hmx, hsegx⟩ := hRx (by omega)
        obtain ⟨bn, on, An, tn, fzn, rfl, hmn, hsegn⟩ := hRn (by omega)
        obtain ⟨ba, oa, Aa, ta, fza, rfl, hma, hsega⟩ := hRa (by omega)
        have hal : k < (backF a (feesOf es nodes edges)).1.length := by omega
        have hfe := hseg.elem (enc := encE) (k := 8) (fun _ => rfl) hx1
        rw [edgeAt_eq hx1] at hfe
        have hgx : Ax[ox + (k : Int).toNat * 1]? = some (I edges[k]) := by
          have := (hsegx.elem (enc := encI) (k := 1) (fun _ => rfl) hklt).get (i := 0) (v := I edges[k]) rfl
          simpa using this
        have hgn : An[on + (k : Int).toNat * 1]? = some (I nodes[k]) := by
          have := (hsegn.elem (enc := encI) (k := 1) (fun _ => rfl) (i := k) (by omega)).get (i := 0) (v := I nodes[k]) rfl
          simpa using this
        have hga : Aa[oa + (k : Int).toNat * 1]? = some (U (backF a (feesOf es nodes edges)).1[k]) := by
          have := (hsega.elem (enc := encU) (k := 1) (fun _ => rfl) (i := k) hal).get (i := 0) (v := U (backF a (feesOf es nodes edges)).1[k]) rfl
          simpa using this
        obtain ⟨hcan, hfee, hend, hs0, hs1⟩ := side_parts hop
        have hmem : ∀ q, q ∈ L → q ∈ Ba ++ (B ++ (b8, Obj.cells [Value.slice none 0 0, Value.slice none 0 0, Value.slice none 0 0].toArray 41 (0, 0)) :: (b4, Obj.cells [sv, Value.slice (some ⟨b0, o0, none⟩) es.length cape].toArray 32 (0, 0)) :: L) := fun q hq => List.mem_append_right _ (List.mem_append_right _ (List.mem_cons_of_mem _ (List.mem_cons_of_mem _ hq)))
        refine rg_nil ?_
        refine qg_then ?_
        refine cg_seq ?_
        refine cg_true rfl ?_
        refine cg_skip ?_
        refine qg_then ?_
        refine cg_seq ?_
        refine cg_block ?_
        refine cg_seq ?_
        refine cg_region ?_
        refine rg_q (.inl rfl) rfl rfl (by exact QW.qr (qw_move rfl)) ?_
        refine rg_q (.inl rfl) rfl rfl (by exact QW.qr (qw_indexAddr rfl rfl (by omega) (by omega))) ?_
        refine rg_q (.inl rfl) rfl rfl (by exact qr_load1' rfl (hmem _ hmx) hgx) ?_
        refine rg_q (.inl rfl) rfl rfl (by exact QW.qr (qw_assign rfl)) ?_
        refine rg_q (.inl rfl) rfl rfl (by exact QW.qr (qw_assign rfl)) ?_
        refine rg_nil ?_
        refine qg_then ?_
        refine cg_seq ?_
        refine cg_region ?_
        refine rg_q (.inl rfl) rfl rfl (by exact QW.qr (qw_fieldAddr rfl)) ?_
        refine rg_q (.inl rfl) rfl rfl (by exact qr_load1 rfl (by repeat (first | exact List.Mem.head _ | apply List.Mem.tail | apply List.mem_append_right | assumption)) rfl) ?_
        refine rg_q (.inl rfl) rfl rfl (by exact QW.qr (qw_move rfl)) ?_
        refine rg_q (.inl rfl) rfl rfl (by exact QW.qr (qw_indexAddr rfl rfl (by exact hx0) (by show edges[k] < _; omega))) ?_
        refine rg_q (.inl rfl) rfl rfl (by exact qr_loadS rfl (hmem _ hm0) hfe rfl) ?_
        refine rg_e (.inl rfl) rfl rfl (by exact ev_alloc (by first | exact CellsOf.agg | exact CellsOf.one rfl)) ?_
        rintro _ _ ⟨b18, rfl, rfl⟩
        refine rg_e0 (.inl rfl) rfl (by exact ev_store rfl rfl (by first | exact CellsOf.agg | exact CellsOf.one rfl) (by repeat (first | exact List.Mem.head _ | apply List.Mem.tail | apply List.mem_append_right | assumption)) (by repeat (first | exact SetSeg.done | apply SetSeg.take | apply SetSeg.skip)) rfl rfl (by repeat (first | exact Upd.here | apply Upd.there | apply Upd.app)) (by first | exact Or.inl ⟨inferInstance, rfl⟩ | exact Or.inr inferInstance)) ?_
        rintro _ _ ⟨rfl, rfl⟩
        refine rg_nil ?_
        refine qg_then ?_
        refine cg_seq ?_
        refine cg_draw follows (.op 0 false (.op 1 false (.op 2 false (.op 3 false (.op 4 false (.op 6 false (.op 9 false (.op 10 false (.op 11 false (.op 12 false (.op 5 true (.op 7 false (.op 8 false (.op 13 false .done)))))))))))))) _ (by kernel_rfl) (SubP.of (List.Sublist.refl _)) ?_
        refine dg_r rfl rfl rfl (.inl rfl) rfl rfl (by exact qr_loadN rfl (by repeat (first | exact List.Mem.head _ | apply List.Mem.tail | apply List.mem_append_right | assumption)) (by repeat (first | exact SegL.done | apply SegL.take | apply SegL.skip))) ?_
        refine dg_w rfl rfl (.inl rfl) rfl rfl (by exact qw_move rfl) ?_
        refine dg_w rfl rfl (.inl rfl) rfl rfl (by exact qw_move rfl) ?_
        refine dg_w rfl rfl (.inl rfl) rfl rfl (by exact qw_indexAddr rfl rfl (by omega) (by omega)) ?_
        refine dg_r rfl rfl rfl (.inl rfl) rfl rfl (by exact qr_load1' rfl (List.mem_cons_of_mem _ (hmem _ hmn)) hgn) ?_
        refine dg_w rfl rfl (.inl rfl) rfl rfl (by exact qw_fieldAddr rfl) ?_
        refine dg_w rfl rfl (.inl rfl) rfl rfl (by exact qw_move rfl) ?_
        refine dg_w rfl rfl (.inl rfl) rfl rfl (by exact qw_move rfl) ?_
        refine dg_w rfl rfl (.inl rfl) rfl rfl (by exact qw_indexAddr rfl rfl (by omega) (by omega)) ?_
        refine dg_r rfl rfl rfl (.inl rfl) rfl rfl (by exact qr_load1' rfl (List.mem_cons_of_mem _ (List.mem_append_left _ hma)) hga) ?_
        refine dg_e rfl rfl (.inl rfl) rfl rfl (by exact ev_call0 rfl (.cons rfl (.cons rfl (.nil))) (side_ca (edgeAt es edges[k]) nodes[k] O _)) ?_
        rintro _ _ ⟨rfl, rfl⟩
        refine ⟨(SubP.of (by repeat (first | exact List.Sublist.refl _ | exact List.nil_sublist _ | exact List.sublist_append_right _ _ | apply List.Sublist.cons_cons | apply List.Sublist.cons))), ?_⟩
        refine dg_w rfl rfl (.inl rfl) rfl rfl (by exact qw_indexAddr_arr rfl rfl (by exact hs0) (by exact hs1)) ?_
        refine dg_r rfl rfl rfl (.inl rfl) rfl rfl (by exact qr_load1 rfl (List.Mem.head _) hcan) ?_
        refine dg_split rfl rfl (.inl rfl) rfl rfl (by exact qc_lss rfl rfl) ?_ ?_
        · intro hbad
          refine dg_nil ?_
          refine qg_then ?_
          refine cg_true rfl ?_
          refine cg_seq ?_
          refine cg_region ?_
          refine rg_q (.inl rfl) rfl rfl (by exact QW.qr (qw_build (.nil) rfl (.nil))) ?_
          refine rg_e0 (.inl rfl) rfl (by exact ev_store rfl rfl (by first | exact CellsOf.agg | exact CellsOf.one rfl) (by repeat (first | exact List.Mem.head _ | apply List.Mem.tail | apply List.mem_append_right | assumption)) (by repeat (first | exact SetSeg.done | apply SetSeg.take | apply SetSeg.skip)) rfl rfl (by repeat (first | exact Upd.here | apply Upd.there | apply Upd.app)) (by first | exact Or.inl ⟨inferInstance, rfl⟩ | exact Or.inr inferInstance)) ?_
          rintro _ _ ⟨rfl, rfl⟩
          refine rg_q (.inl rfl) rfl rfl (by exact QW.qr (qw_assign rfl)) ?_
          refine rg_nil ?_
          refine qg_then ?_
          refine cg_ret ?_
          refine qg_block_ret ?_
          refine qg_then_ret ?_
          refine qg_then_ret ?_
          refine qg_block_ret ?_
          refine qg_then_ret ?_
          have hfin : fillF es nodes edges a = none := by
            rw [fillF, if_pos hb, if_neg]
            intro h
            have hz2 : k < ((nodes.zip edges).zip (backF a (feesOf es nodes edges)).1).length := by rw [List.length_zip]; omega
            have := h _ (List.getElem_mem hz2)
            rw [List.getElem_zip, hzk] at this
            simp only at this
            omega
          exact qg_end (.inl rfl) _ (.cons (resCellN rfl (by repeat (first | exact List.Mem.head _ | apply List.Mem.tail | apply List.mem_append_right | assumption)) (by repeat (first | exact SegL.done | apply SegL.take | apply SegL.skip))) (.cons (.tmp rfl) (.nil))) L (List.Sublist.trans (List.Sublist.trans (List.Sublist.cons _ (List.Sublist.cons _ (List.Sublist.refl _))) (List.sublist_append_right _ _)) (List.Sublist.trans (List.sublist_append_right _ _) (List.Sublist.cons _ (List.Sublist.refl _)))) (Or.inl ⟨hfin, rfl, rfl⟩)
        · intro hbad
          refine dg_nil ?_
          refine qg_then ?_
          refine cg_false rfl ?_
          refine cg_skip ?_
          refine qg_block ?_
          refine qg_then ?_
          refine cg_region ?_
          refine rg_q (.inl rfl) rfl rfl (by exact QW.qr (qw_add_in rfl rfl (by unfold inK; omega))) ?_
          refine rg_q (.inl rfl) rfl rfl (by exact QW.qr (qw_move rfl)) ?_
          refine rg_nil ?_
          exact qg_round_sub _ _ _ ⟨k + 1, by omega, fun j h h1 h2 => by (rcases Nat.lt_succ_iff_lt_or_eq.1 h with h3 | h3; exact hall j h3 h1 h2; subst h3; rw [hzk]; omega), rfl, rfl, rfl⟩ (by repeat (first | exact Sub.nil | refine Sub.cons rfl ?_ | refine Sub.cons (congrArg (fun z => some (Value.int IntKind.i64 z)) (by omega)) ?_)) (List.sublist_cons_self _ _) (by omega)
      · intro hlt
        obtain rfl : k = edges.length := by omega
        refine rg_nil ?_
        refine qg_then ?_
        refine cg_seq ?_
        refine cg_false rfl ?_
        refine cg_exit ?_
        refine qg_then_exit ?_
        refine qg_then_exit ?_
        refine qg_block_here ?_
        refine qg_then ?_
        refine cg_seq ?_
        have hfin : fillF es nodes edges a = some (backF a (feesOf es nodes edges)).1 := by
          rw [fillF, if_pos hb, if_pos]
          intro p hp
          obtain ⟨i, hi, rfl⟩ := List.mem_iff_getElem.1 hp
          rw [List.length_zip] at hi
          rw [List.getElem_zip]
          exact hall i (by omega) (by omega) (by omega)
        refine cg_region ?_
        refine rg_q (.inl rfl) rfl rfl (by exact QW.qr (qw_move rfl)) ?_
        refine rg_e (.inl rfl) rfl rfl (by exact ev_call0 rfl (.cons rfl (.nil)) (cloneI_ca nodes _ O _ (hnv.mono (fun q hq => List.mem_append_right _ (List.mem_append_right _ (List.mem_cons_of_mem _ (List.mem_cons_of_mem _ hq))))) (by omega))) ?_
        rintro nv2 _ ⟨Bn, hown1, rfl⟩
        obtain ⟨pn2, cn2, rfl, hn2⟩ := id (hown1.rd (fun _ => rfl) (by decide))
        refine rg_q (.inl rfl) rfl rfl (by exact QW.qr (qw_move rfl)) ?_
        refine rg_e (.inl rfl) rfl rfl (by exact ev_call0 rfl (.cons rfl (.nil)) (cloneI_ca edges _ O _ (hxv.mono (fun q hq => List.mem_append_right _ (List.mem_append_right _ (List.mem_append_right _ (List.mem_cons_of_mem _ (List.mem_cons_of_mem _ hq)))))) (by omega))) ?_
        rintro xv2 _ ⟨Bx, hown2, rfl⟩
        obtain ⟨px2, cx2, rfl, hx2⟩ := id (hown2.rd (fun _ => rfl) (by decide))
        refine rg_q (.inl rfl) rfl rfl (by exact QW.qr (qw_move rfl)) ?_
        refine rg_q (.inl rfl) rfl rfl (by exact QW.qr (qw_build (.cons rfl (.cons rfl (.cons rfl (.nil)))) rfl (.cons rfl (by first | exact CellsOf.agg | exact CellsOf.one rfl) (by repeat (first | exact SetSeg.done | apply SetSeg.take | apply SetSeg.skip)) (by rfl) (by rfl) (.cons rfl (by first | exact CellsOf.agg | exact CellsOf.one rfl) (by repeat (first | exact SetSeg.done | apply SetSeg.take | apply SetSeg.skip)) (by rfl) (by rfl) (.cons rfl (by first | exact CellsOf.agg | exact CellsOf.one rfl) (by repeat (first | exact SetSeg.done | apply SetSeg.take | apply SetSeg.skip)) (by rfl) (by rfl) (.nil)))))) ?_
        refine rg_e0 (.inl rfl) rfl (by exact ev_store rfl rfl (by first | exact CellsOf.agg | exact CellsOf.one rfl) (by repeat (first | exact List.Mem.head _ | apply List.Mem.tail | apply List.mem_append_right | assumption)) (by repeat (first | exact SetSeg.done | apply SetSeg.take | apply SetSeg.skip)) rfl rfl (by repeat (first | exact Upd.here | apply Upd.there | apply Upd.app)) (by first | exact Or.inl ⟨inferInstance, rfl⟩ | exact Or.inr inferInstance)) ?_
        rintro _ _ ⟨rfl, rfl⟩
        refine rg_q (.inl rfl) rfl rfl (by exact QW.qr (qw_assign rfl)) ?_
        refine rg_nil ?_
        refine qg_then ?_
        refine cg_ret ?_
        have hR1 : ∀ q, q ∈ Ba ∨ q ∈ Bn ∨ q ∈ Bx → q ∈ Bx ++ (Bn ++ Ba) := fun q h => by
          simp only [List.mem_append]
          rcases h with h | h | h
          · exact .inr (.inr h)
          · exact .inr (.inl h)
          · exact .inl h
        refine qg_end (.inl rfl) _ (.cons (resCellN rfl (by repeat (first | exact List.Mem.head _ | apply List.Mem.tail | apply List.mem_append_right | assumption)) (by repeat (first | exact SegL.done | apply SegL.take | apply SegL.skip))) (.cons (.tmp rfl) (.nil))) ((Bx ++ (Bn ++ Ba)) ++ L) ?_ (Or.inr ⟨_, hfin, _, _, _, Bx ++ (Bn ++ Ba), rfl, rfl, (hown1.rd (fun _ => rfl) (by decide)).mono (fun q h => hR1 q (.inr (.inl h))), (hown2.rd (fun _ => rfl) (by decide)).mono (fun q h => hR1 q (.inr (.inr h))), hav.mono (fun q h => hR1 q (.inl h))⟩)
        rw [List.append_assoc, List.append_assoc]
        refine List.Sublist.append_left (List.Sublist.append_left (List.Sublist.append_left ?_ _) _) _
        exact List.Sublist.trans (List.Sublist.cons _ (List.Sublist.cons _ (List.Sublist.refl _))) (List.sublist_append_right _ _)

end Go.Proofs.Ytjimpciiaceleaa