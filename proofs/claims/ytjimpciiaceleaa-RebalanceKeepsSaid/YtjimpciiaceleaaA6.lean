/-
  THE WALKS of web.Steps, slices.Clone, path.right. Conditions: sizes.
-/
import Derived.Test.YtjimpciiaceleaaA5
namespace Go.Proofs.Ytjimpciiaceleaa
open Fw
set_option linter.unusedVariables false
set_option maxRecDepth 100000

theorem stepsFrom_take (x : Int) : ∀ (es : List Edge) (i k : Nat) (hk : k < es.length), stepsFrom x i (es.take (k + 1)) = stepsFrom x i (es.take k) ++ (match stepOf (i + k) es[k] x with
    | some s => [s]
    | none => [])
  | e :: es, i, 0, _ => by
    simp [stepsFrom]
    rfl
  | e :: es, i, k + 1, hk => by
    have := stepsFrom_take x es (i + 1) k (by simpa using hk)
    simp only [List.take_succ_cons, stepsFrom, this, List.append_assoc, List.getElem_cons_succ]
    rw [show i + 1 + k = i + (k + 1) from by omega]
theorem stepsFrom_len (x : Int) : ∀ (es : List Edge) (i : Nat), (stepsFrom x i es).length ≤ es.length
  | [], _ => by simp [stepsFrom]
  | e :: es, i => by
    have := stepsFrom_len x es (i + 1)
    simp only [stepsFrom, List.length_append, List.length_cons]
    cases stepOf i e x <;> simp <;> omega
theorem encS_one : ∀ (s : Step), ∀ v ∈ encS s, v.oneCell' = true := by
  intro s v hv
  simp only [encS, List.mem_cons, List.not_mem_nil, or_false] at hv
  rcases hv with rfl | rfl | rfl | rfl | rfl <;> rfl

theorem steps_ca (n : Nat) (es : List Edge) (x : Int) (p : Option Addr) (cap : Nat) (ev : Value) (O : Out) (L : List Blk) (he : RdL L encE 8 ev es) (hn : n < 1000000) (hes : es.length < 1000000) :
    CA Try.prog 36 [.agg #[.slice p n cap, ev], I x] O L fun v L' => ∃ B, L' = B ++ L ∧ RdL B encS 5 v (stepsF n es x) := by
  obtain ⟨p2, cap2, rfl, hl2, hcap2, hsp2, hR2⟩ := id he
  refine ca_enter Try.func36 rfl rfl ?_
  rw [Try.ntmps36]
  simp only [envOf]
  refine cg_seq ?_
  refine cg_region ?_
  refine rg_e (.inl rfl) rfl rfl (by exact ev_box rfl (by first | exact CellsOf.agg | exact CellsOf.one rfl)) ?_
  rintro _ _ ⟨b2, rfl, rfl⟩
  refine rg_q (.inl rfl) rfl rfl (by exact QW.qr (qw_assign rfl)) ?_
  refine rg_nil ?_
  refine qg_then ?_
  refine cg_seq ?_
  refine cg_seq ?_
  refine cg_region ?_
  refine rg_q (.inl rfl) rfl rfl (by exact qr_loadN rfl (by repeat (first | exact List.Mem.head _ | apply List.Mem.tail | apply List.mem_append_right | assumption)) (by repeat (first | exact SegL.done | apply SegL.take | apply SegL.skip))) ?_
  refine rg_e (.inl rfl) rfl rfl (by exact ev_call0 rfl (.cons rfl (.nil)) (check_ca n es p cap _ O _ (he.mono (by intro q hq; exact List.mem_cons_of_mem _ hq)) (by omega) (by omega))) ?_
  rintro _ _ ⟨rfl, rfl⟩
  refine rg_split (.inl rfl) rfl rfl (by exact qc_neq rfl rfl) ?_ ?_
  · intro hc
    have hfin : stepsF n es x = [] := by rw [stepsF, if_neg hc]
    refine rg_nil ?_
    refine qg_then ?_
    refine cg_true rfl ?_
    refine cg_seq ?_
    refine cg_region ?_
    refine rg_q (.inl rfl) rfl rfl (by exact QW.qr (qw_assign rfl)) ?_
    refine rg_nil ?_
    refine qg_then ?_
    refine cg_ret ?_
    refine qg_then_ret ?_
    exact qg_end (.inl rfl) _ (.cons (.tmp rfl) (.nil)) L (by repeat (first | exact List.Sublist.refl _ | exact List.nil_sublist _ | exact List.sublist_append_right _ _ | apply List.Sublist.cons_cons | apply List.Sublist.cons)) ⟨[], rfl, by rw [hfin]; exact OwnL.nil (e := 0) |>.rd (fun _ => rfl) (by decide)⟩
  · intro hc
    have hfin : stepsF n es x = stepsFrom x 0 es := by rw [stepsF, if_pos (Decidable.not_not.1 hc)]
    refine rg_nil ?_
    refine qg_then ?_
    refine cg_false rfl ?_
    refine cg_skip ?_
    refine qg_then ?_
    refine cg_seq ?_
    refine cg_region ?_
    refine rg_q (.inl rfl) rfl rfl (by exact QW.qr (qw_assign rfl)) ?_
    refine rg_nil ?_
    refine qg_then ?_
    refine cg_seq ?_
    refine cg_seq ?_
    refine cg_region ?_
    refine rg_q (.inl rfl) rfl rfl (by exact QW.qr (qw_fieldAddr rfl)) ?_
    refine rg_q (.inl rfl) rfl rfl (by exact qr_load1 rfl (by repeat (first | exact List.Mem.head _ | apply List.Mem.tail | apply List.mem_append_right | assumption)) rfl) ?_
    refine rg_q (.inl rfl) rfl rfl (by exact QW.qr (qw_len_slice (t := 30) (.cons rfl (.nil)) rfl)) ?_
    refine rg_q (.inl rfl) rfl rfl (by exact QW.qr (qw_move rfl)) ?_
    refine rg_nil ?_
    refine qg_then ?_
    refine cg_block ?_
    refine cg_loop (fun E' L' m => ∃ (k : Nat) (ov : Value) (B : List Blk), k ≤ es.length ∧ OwnL 103 encS 5 ov (stepsFrom x 0 (es.take k)) B ∧ E' = [(1, I x), (5, ov), (13, .slice p2 es.length cap2), (14, .int .i64 es.length), (15, .int .i64 k)] ∧ L' = B ++ (b2, .cells [Value.slice p n cap, Value.slice p2 es.length cap2].toArray 32 (0, 0)) :: L ∧ m = es.length - k) _ _ _ ⟨0, _, [], by omega, OwnL.nil, rfl, rfl, rfl⟩ (by repeat (first | exact Sub.nil | refine Sub.cons rfl ?_ | refine Sub.cons (congrArg (fun z => some (Value.int IntKind.i64 z)) (by omega)) ?_)) (List.Perm.refl _) ?_
    rintro _ _ _ ⟨k, ov, B, hk, hown, rfl, rfl, rfl⟩
    refine cg_seq ?_
    refine cg_region ?_
    refine rg_split (.inl rfl) rfl rfl (by exact qc_lss rfl rfl) ?_ ?_
    · intro hlt
      have hklt : k < es.length := by omega
      obtain ⟨b0, o0, A0, t0, fz0, rfl, hm0, hseg⟩ := hR2 (by omega)
      have hfe := hseg.elem (enc := encE) (k := 8) (fun _ => rfl) hklt
      have hown2 := stepsFrom_len x (es.take k) 0
      have htk : (es.take k).length ≤ k := by rw [List.length_take]; omega
      refine rg_nil ?_
      refine qg_then ?_
      refine cg_seq ?_
      refine cg_true rfl ?_
      refine cg_skip ?_
      refine qg_then ?_
      refine cg_seq ?_
      refine cg_block ?_
      refine cg_seq ?_
      refine cg_region ?_
      refine rg_q (.inl rfl) rfl rfl (by exact QW.qr (qw_move rfl)) ?_
      refine rg_q (.inl rfl) rfl rfl (by exact QW.qr (qw_indexAddr rfl rfl (by omega) (by omega))) ?_
      refine rg_q (.inl rfl) rfl rfl (by exact qr_loadS rfl (List.mem_append_right _ (List.mem_cons_of_mem _ hm0)) hfe rfl) ?_
      refine rg_e (.inl rfl) rfl rfl (by exact ev_alloc (by first | exact CellsOf.agg | exact CellsOf.one rfl)) ?_
      rintro _ _ ⟨b7, rfl, rfl⟩
      refine rg_q (.inl rfl) rfl rfl (by exact QW.qr (qw_assign rfl)) ?_
      refine rg_e0 (.inl rfl) rfl (by exact ev_store rfl rfl (by first | exact CellsOf.agg | exact CellsOf.one rfl) (by repeat (first | exact List.Mem.head _ | apply List.Mem.tail | apply List.mem_append_right | assumption)) (by repeat (first | exact SetSeg.done | apply SetSeg.take | apply SetSeg.skip)) rfl rfl (by repeat (first | exact Upd.here | apply Upd.there | apply Upd.app)) (by first | exact Or.inl ⟨inferInstance, rfl⟩ | exact Or.inr inferInstance)) ?_
      rintro _ _ ⟨rfl, rfl⟩
      refine rg_nil ?_
      refine qg_then ?_
      refine cg_seq ?_
      refine cg_region ?_
      refine rg_q (.inl rfl) rfl rfl (by exact qr_loadN rfl (by repeat (first | exact List.Mem.head _ | apply List.Mem.tail | apply List.mem_append_right | assumption)) (by repeat (first | exact SegL.done | apply SegL.take | apply SegL.skip))) ?_
      refine rg_q (.inl rfl) rfl rfl (by exact QW.qr (qw_move rfl)) ?_
      refine rg_e (.inl rfl) rfl rfl (by exact ev_call0 rfl (.cons rfl (.cons rfl (.nil))) (side_ca es[k] x O _)) ?_
      rintro _ _ ⟨rfl, rfl⟩
      refine rg_q (.inl rfl) rfl rfl (by exact QW.qr (qw_assign rfl)) ?_
      refine rg_nil ?_
      refine qg_then ?_
      refine cg_seq ?_
      refine cg_region ?_
      refine rg_q (.inl rfl) rfl rfl (by exact QW.qr (qw_move rfl)) ?_
      refine rg_split (.inl rfl) rfl rfl (by exact qc_geq rfl rfl) ?_ ?_
      · intro hs
        have hsv := sideOf_eq es[k] x
        have h01 : sideOf es[k] x = 0 ∨ sideOf es[k] x = 1 := by
          by_cases h0 : es[k].e0 = x
          · exact .inl (by rw [hsv, if_pos h0])
          · by_cases h1 : es[k].e1 = x
            · exact .inr (by rw [hsv, if_neg h0, if_pos h1])
            · rw [hsv, if_neg h0, if_neg h1] at hs; omega
        obtain ⟨s, hst, hs1, hs2, hs3, hs4⟩ : ∃ s : Step, (match stepOf k es[k] x with
            | some s => [s]
            | none => []) = [s] ∧ (encE es[k])[0 + (0 : Nat) + (1 - sideOf es[k] x).toNat * 1]? = some (I s.to) ∧ (encE es[k])[0 + (2 : Nat) + (sideOf es[k] x).toNat * 1]? = some (U s.can) ∧
            Seg (encE es[k]).toArray (0 + (4 : Nat) + (sideOf es[k] x).toNat * 2) [U s.fee.1, U s.fee.2] ∧ s.edge = k := by
          rcases h01 with h | h
          · refine ⟨⟨k, es[k].e1, es[k].c0, es[k].f0⟩, by simp [stepOf, h], by rw [h]; rfl, by rw [h]; rfl, ?_, rfl⟩
            rw [h]; exact (SegL.seg (l := encE es[k]) (o := 4) (m := 2) (by repeat (first | exact SegL.done | apply SegL.take | apply SegL.skip))).1
          · refine ⟨⟨k, es[k].e0, es[k].c1, es[k].f1⟩, by simp [stepOf, h], by rw [h]; rfl, by rw [h]; rfl, ?_, rfl⟩
            rw [h]; exact (SegL.seg (l := encE es[k]) (o := 6) (m := 2) (by repeat (first | exact SegL.done | apply SegL.take | apply SegL.skip))).1
        refine rg_nil ?_
        refine qg_then ?_
        refine cg_true rfl ?_
        refine cg_draw follows (.op 0 false (.op 1 false (.op 2 false (.op 3 false (.op 4 false (.op 5 false (.op 6 false (.op 7 false (.op 8 false (.op 9 false (.op 10 false (.op 11 false (.op 12 false (.op 13 false (.op 14 false (.op 15 false (.op 16 false (.op 17 false (.op 18 false .done))))))))))))))))))) _ (by kernel_rfl) (SubP.of (List.Sublist.cons_cons _ (List.sublist_append_right _ _))) ?_
        refine dg_w rfl rfl (.inl rfl) rfl rfl (by exact qw_move rfl) ?_
        refine dg_w rfl rfl (.inl rfl) rfl rfl (by exact qw_move rfl) ?_
        refine dg_w rfl rfl (.inl rfl) rfl rfl (by exact qw_move rfl) ?_
        refine dg_w rfl rfl (.inl rfl) rfl rfl (by exact qw_sub_in rfl rfl (by unfold inK; omega)) ?_
        refine dg_w rfl rfl (.inl rfl) rfl rfl (by exact qw_fieldAddr rfl) ?_
        refine dg_w rfl rfl (.inl rfl) rfl rfl (by exact qw_indexAddr_arr rfl rfl (by omega) (by omega)) ?_
        refine dg_r rfl rfl rfl (.inl rfl) rfl rfl (by exact qr_load1 rfl (List.Mem.head _) hs1) ?_
        refine dg_w rfl rfl (.inl rfl) rfl rfl (by exact qw_move rfl) ?_
        refine dg_w rfl rfl (.inl rfl) rfl rfl (by exact qw_fieldAddr rfl) ?_
        refine dg_w rfl rfl (.inl rfl) rfl rfl (by exact qw_indexAddr_arr rfl rfl (by omega) (by omega)) ?_
        refine dg_r rfl rfl rfl (.inl rfl) rfl rfl (by exact qr_load1 rfl (List.Mem.head _) hs2) ?_
        refine dg_w rfl rfl (.inl rfl) rfl rfl (by exact qw_move rfl) ?_
        refine dg_w rfl rfl (.inl rfl) rfl rfl (by exact qw_fieldAddr rfl) ?_
        refine dg_w rfl rfl (.inl rfl) rfl rfl (by exact qw_indexAddr_arr rfl rfl (by omega) (by omega)) ?_
        refine dg_r rfl rfl rfl (.inl rfl) rfl rfl (by exact qr_loadS (vs := [U s.fee.1, U s.fee.2]) rfl (List.Mem.head _) hs3 rfl) ?_
        refine dg_w rfl rfl (.inl rfl) rfl rfl (by exact qw_build (.cons rfl (.cons rfl (.cons rfl (.cons rfl (.nil))))) rfl (.cons rfl (by first | exact CellsOf.agg | exact CellsOf.one rfl) (by repeat (first | exact SetSeg.done | apply SetSeg.take | apply SetSeg.skip)) (by rfl) (by rfl) (.cons rfl (by first | exact CellsOf.agg | exact CellsOf.one rfl) (by repeat (first | exact SetSeg.done | apply SetSeg.take | apply SetSeg.skip)) (by rfl) (by rfl) (.cons rfl (by first | exact CellsOf.agg | exact CellsOf.one rfl) (by repeat (first | exact SetSeg.done | apply SetSeg.take | apply SetSeg.skip)) (by rfl) (by rfl) (.cons rfl (by first | exact CellsOf.agg | exact CellsOf.one rfl) (by repeat (first | exact SetSeg.done | apply SetSeg.take | apply SetSeg.skip)) (by rfl) (by rfl) (.nil)))))) ?_
        refine dg_g rfl rfl (.inl rfl) rfl rfl (by exact ev_buildSlice (.cons rfl (.nil)) rfl (by first | exact CellsOf.agg | exact CellsOf.one rfl) (by rfl) (.cons rfl (by first | exact CellsOf.agg | exact CellsOf.one rfl) (by repeat (first | exact SetSeg.done | apply SetSeg.take | apply SetSeg.skip)) (by rfl) (by rfl) (.nil))) ?_
        rintro _ _ ⟨b41, rfl, rfl⟩
        refine dg_g rfl rfl (.inl rfl) rfl rfl (by exact ev_appendL (ys := [s]) (T := 100) (T2 := 100) (.cons rfl (.cons rfl .nil)) rfl rfl hown (pull [_, _] B _) (.row (List.Mem.head _) (SegL.seg (m := 5) (vs := encS s) (by rw [show encS s = [I s.edge, I s.to, U s.can, U s.fee.1, U s.fee.2] from rfl, hs4]; exact (by repeat (first | exact SegL.done | apply SegL.take | apply SegL.skip)))).1 rfl) (fun _ => rfl) encS_one (by simp only [List.length_singleton]; omega) rfl rfl rfl rfl) ?_
        rintro ov' _ ⟨B', hown', rfl⟩
        refine dg_w rfl rfl (.inl rfl) rfl rfl (by exact qw_assign rfl) ?_
        refine dg_nil ?_
        refine qg_block ?_
        refine qg_then ?_
        refine cg_region ?_
        refine rg_q (.inl rfl) rfl rfl (by exact QW.qr (qw_add_in rfl rfl (by unfold inK; omega))) ?_
        refine rg_q (.inl rfl) rfl rfl (by exact QW.qr (qw_move rfl)) ?_
        refine rg_nil ?_
        first
          | exact qg_round_sub _ _ _ ⟨k + 1, _, B', by omega, by rw [stepsFrom_take x es 0 k hklt, Nat.zero_add, hst]; exact hown', rfl, rfl, rfl⟩ (by repeat (first | exact Sub.nil | refine Sub.cons rfl ?_ | refine Sub.cons (congrArg (fun z => some (Value.int IntKind.i64 z)) (by omega)) ?_)) (List.Sublist.append_left (List.sublist_append_right [_, _] _) _) (by omega)
          | exact qg_round_sub _ _ _ ⟨k + 1, _, B, by omega, by rw [stepsFrom_take x es 0 k hklt, Nat.zero_add, hst]; simpa using hown, rfl, rfl, rfl⟩ (by repeat (first | exact Sub.nil | refine Sub.cons rfl ?_ | refine Sub.cons (congrArg (fun z => some (Value.int IntKind.i64 z)) (by omega)) ?_)) (List.sublist_cons_self _ _) (by omega)
      · intro hs
        have hst : (match stepOf k es[k] x with
            | some s => [s]
            | none => []) = [] := by
          have : stepOf k es[k] x = none := by
            unfold stepOf
            rw [if_neg (by omega), if_neg (by omega)]
          rw [this]
        refine rg_nil ?_
        refine qg_then ?_
        refine cg_false rfl ?_
        refine cg_skip ?_
        refine qg_block ?_
        refine qg_then ?_
        refine cg_region ?_
        refine rg_q (.inl rfl) rfl rfl (by exact QW.qr (qw_add_in rfl rfl (by unfold inK; omega))) ?_
        refine rg_q (.inl rfl) rfl rfl (by exact QW.qr (qw_move rfl)) ?_
        refine rg_nil ?_
        first
          | exact qg_round_sub _ _ _ ⟨k + 1, _, B', by omega, by rw [stepsFrom_take x es 0 k hklt, Nat.zero_add, hst]; exact hown', rfl, rfl, rfl⟩ (by repeat (first | exact Sub.nil | refine Sub.cons rfl ?_ | refine Sub.cons (congrArg (fun z => some (Value.int IntKind.i64 z)) (by omega)) ?_)) (List.Sublist.append_left (List.sublist_append_right [_, _] _) _) (by omega)
          | exact qg_round_sub _ _ _ ⟨k + 1, _, B, by omega, by rw [stepsFrom_take x es 0 k hklt, Nat.zero_add, hst]; simpa using hown, rfl, rfl, rfl⟩ (by repeat (first | exact Sub.nil | refine Sub.cons rfl ?_ | refine Sub.cons (congrArg (fun z => some (Value.int IntKind.i64 z)) (by omega)) ?_)) (List.sublist_cons_self _ _) (by omega)
    · intro hlt
      obtain rfl : k = es.length := by omega
      rw [List.take_length] at hown
      refine rg_nil ?_
      refine qg_then ?_
      refine cg_seq ?_
      refine cg_false rfl ?_
      refine cg_exit ?_
      refine qg_then_exit ?_
      refine qg_then_exit ?_
      refine qg_block_here ?_
      refine qg_then ?_
      refine cg_seq ?_
      refine cg_region ?_
      refine rg_q (.inl rfl) rfl rfl (by exact QW.qr (qw_move rfl)) ?_
      refine rg_q (.inl rfl) rfl rfl (by exact QW.qr (qw_assign rfl)) ?_
      refine rg_nil ?_
      refine qg_then ?_
      refine cg_ret ?_
      exact qg_end (.inl rfl) _ (.cons (.tmp rfl) (.nil)) (B ++ L) (List.Sublist.append_left (List.sublist_cons_self _ _) _) ⟨B, rfl, by rw [hfin]; exact hown.rd (fun _ => rfl) (by decide)⟩

end Go.Proofs.Ytjimpciiaceleaa