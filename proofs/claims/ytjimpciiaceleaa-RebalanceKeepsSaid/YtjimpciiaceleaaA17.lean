/-
  THE WALK of the law PathSound: it answers true. Conditions: the web's numbers are of their kinds; sizes.
-/
import Derived.Test.YtjimpciiaceleaaA16
namespace Go.Proofs.Ytjimpciiaceleaa
open Fw
set_option linter.unusedVariables false
set_option maxRecDepth 100000
set_option maxHeartbeats 4000000

theorem edge_cells {es : List Edge} {x e y : Int} (hop : hopOk es (x, e)) (hend : endAt (edgeAt es e) (1 - (sideOf (edgeAt es e) x).toNat) = y) :
    (encE (edgeAt es e))[0 + (1 - sideOf (edgeAt es e) x).toNat * 1]? = some (I y) ∧ (encE (edgeAt es e))[2 + (sideOf (edgeAt es e) x).toNat * 1]? = some (U (canOf es (x, e))) := by
  obtain ⟨_, _, h3⟩ := hop
  unfold canOf
  simp only at h3 ⊢
  subst hend
  generalize edgeAt es e = ed at *
  rcases h3 with h3 | h3 <;> rw [h3] <;> exact ⟨rfl, rfl⟩
theorem firstOf_mem {am : List Int} (h : 0 < am.length) : firstOf am ∈ am := List.mem_of_getElem? (firstOf_get h)
theorem RouteOk.lastOf {es : List Edge} {f t a : Int} {r : RouteP} (h : RouteOk es f t a r) : lastOf r.amounts = a := by
  have h1 := lastOf_get (am := r.amounts) (by have := h.one; have := h.al; omega)
  rw [h.al, h.alast] at h1
  exact (Option.some.inj h1).symm

theorem sound_ca (spots : List (Int × Int)) (es : List Edge) (from_ to a : Int) (sv ev : Value) (O : Out) (L : List Blk) (hs : RdW L encSp sv spots) (he : RdW L encE ev es) (hg : ∀ e ∈ es, goodEdge e) (ha : isU64 a)
    (hn : spots.length < 9223372036854775808) (hes : es.length < 9223372036854775808) :
    CA Try.prog 3 [.agg #[sv, ev], I from_, I to, U a] O L fun v L' => v = .bool true ∧ L' = L := by
  obtain ⟨pz, cz, rfl, hRz⟩ := id hs
  obtain ⟨pe, ce, rfl, hRe⟩ := id he
  refine ca_enter Try.func3 rfl rfl ?_
  rw [Try.ntmps3]
  simp only [envOf]
  refine cg_seq ?_
  refine cg_region ?_
  refine rg_e (.inl rfl) rfl rfl (by exact ev_box rfl (by first | exact CellsOf.agg | exact CellsOf.one rfl)) ?_
  rintro _ _ ⟨b4, rfl, rfl⟩
  refine rg_q (.inl rfl) rfl rfl (by exact QW.qr (qw_assign rfl)) ?_
  refine rg_nil ?_
  refine qg_then ?_
  refine cg_seq ?_
  refine cg_seq ?_
  refine cg_region ?_
  refine rg_q (.inl rfl) rfl rfl (by exact qr_loadN rfl (by repeat (first | exact List.Mem.head _ | apply List.Mem.tail | apply List.mem_append_right | assumption)) (by repeat (first | exact SegL.done | apply SegL.take | apply SegL.skip))) ?_
  refine rg_e (.inl rfl) rfl rfl (by exact ev_call0 rfl (.cons rfl (.nil)) (light_ca _ _ _ _ _ _ O _ (by omega) (by omega))) ?_
  rintro _ _ ⟨rfl, rfl⟩
  generalize hli : decide (spots.length ≤ 20 ∧ es.length ≤ 30) = lv
  cases lv
  · skip
    refine rg_q (.inl rfl) rfl rfl (by exact QW.qr (qw_not rfl)) ?_
    refine rg_nil ?_
    refine qg_then ?_
    refine cg_true rfl ?_
    refine cg_seq ?_
    refine cg_region ?_
    refine rg_e (.inl rfl) rfl rfl (by exact ev_call0 rfl (.nil) (awake_ca O _)) ?_
    rintro _ _ ⟨rfl, rfl⟩
    refine rg_q (.inl rfl) rfl rfl (by exact QW.qr (qw_assign rfl)) ?_
    refine rg_nil ?_
    refine qg_then ?_
    refine cg_ret ?_
    refine qg_then_ret ?_
    exact qg_end_sp (.inl rfl) _ (.cons (.tmp rfl) (.nil)) L (cat_sub (ls' := []) (ls := [[(b4, _)]]) (by repeat (first | exact SubM.nil | refine SubM.cons (by repeat (first | exact Ins.here | apply Ins.there)) ?_))) ⟨rfl, rfl⟩
  · skip
    have hsz := of_decide_eq_true hli
    refine rg_q (.inl rfl) rfl rfl (by exact QW.qr (qw_not rfl)) ?_
    refine rg_nil ?_
    refine qg_then ?_
    refine cg_false rfl ?_
    refine cg_skip ?_
    refine qg_then ?_
    refine cg_seq ?_
    refine cg_region ?_
    refine rg_q (.inl rfl) rfl rfl (by exact qr_loadN rfl (by repeat (first | exact List.Mem.head _ | apply List.Mem.tail | apply List.mem_append_right | assumption)) (by repeat (first | exact SegL.done | apply SegL.take | apply SegL.skip))) ?_
    refine rg_e (.inl rfl) rfl rfl (by exact ev_call0 rfl (.cons rfl (.nil)) (webTo_ca spots es _ _ O _ (hs.mono (fun q hq => List.mem_cons_of_mem _ hq)) (he.mono (fun q hq => List.mem_cons_of_mem _ hq)) (by omega) (by omega))) ?_
    rintro _ _ ⟨p, c, ev', Bw, rfl, rfl, hsw, hew⟩
    obtain ⟨pE, cE, rfl, hlE, hcE, hsE, hRE⟩ := id hew
    refine rg_e (.inl rfl) rfl rfl (by exact ev_alloc (by first | exact CellsOf.agg | exact CellsOf.one rfl)) ?_
    rintro _ _ ⟨b9, rfl, rfl⟩
    refine rg_e0 (.inl rfl) rfl (by exact ev_store rfl rfl (by first | exact CellsOf.agg | exact CellsOf.one rfl) (by repeat (first | exact List.Mem.head _ | apply List.Mem.tail | apply List.mem_append_right | assumption)) (by repeat (first | exact SetSeg.done | apply SetSeg.take | apply SetSeg.skip)) rfl rfl (by repeat (first | exact Upd.here | apply Upd.there | apply Upd.app)) (by first | exact Or.inl ⟨inferInstance, rfl⟩ | exact Or.inr inferInstance)) ?_
    rintro _ _ ⟨rfl, rfl⟩
    refine rg_nil ?_
    refine qg_then ?_
    refine cg_seq ?_
    refine cg_region ?_
    refine rg_q (.inl rfl) rfl rfl (by exact qr_loadN rfl (by repeat (first | exact List.Mem.head _ | apply List.Mem.tail | apply List.mem_append_right | assumption)) (by repeat (first | exact SegL.done | apply SegL.take | apply SegL.skip))) ?_
    refine rg_q (.inl rfl) rfl rfl (by exact QW.qr (qw_move rfl)) ?_
    refine rg_q (.inl rfl) rfl rfl (by exact QW.qr (qw_move rfl)) ?_
    refine rg_q (.inl rfl) rfl rfl (by exact QW.qr (qw_move rfl)) ?_
    refine rg_e (.inl rfl) rfl rfl (by exact ev_call0 rfl (.cons rfl (.cons rfl (.cons rfl (.cons rfl (.nil))))) (all_ca spots.length es from_ to a p c _ O _ (hew.mono (fun q hq => List.mem_cons_of_mem _ (List.mem_append_left _ hq))) hg ha (by omega) (by omega))) ?_
    rintro _ _ ⟨ov, ts, B, rfl, rfl, hov, hrs⟩
    have hlen := allF_len spots.length es from_ to a
    have hall := allF_ok (n := spots.length) (from_ := from_) (to := to) hg ha
    have hbok := bestF_ok (n := spots.length) (es := es) (from_ := from_) (to := to) (a := a)
    have herr : (allF spots.length es from_ to a).2 ≠ 0 → (allF spots.length es from_ to a).1 = [] := by
      unfold allF
      split
      · exact fun _ => rfl
      · exact fun h => absurd rfl h
    have hbca := best_ca spots.length es from_ to a p c (.slice pE es.length cE)
    obtain ⟨res, hres⟩ : ∃ r, r = allF spots.length es from_ to a := ⟨_, rfl⟩
    obtain ⟨best, hbe⟩ : ∃ r, r = bestF spots.length es from_ to a := ⟨_, rfl⟩
    rw [← hres] at hrs hlen hall hbok herr hbca ⊢
    rw [← hbe] at hbok hbca
    obtain ⟨rs, er⟩ := res
    obtain ⟨best, fe⟩ := best
    obtain ⟨po, co, rfl, hlo, hco, hso, hRo⟩ := id hov
    have htl : ts.length = rs.length := hrs.1
    have hlen2 : rs.length ≤ 32 := hlen
    have hrsn : rs = [] ↔ ts.length = 0 := by rw [htl, List.length_eq_zero_iff]
    refine rg_q (.inl rfl) rfl rfl (by exact QW.qr (qw_move rfl)) ?_
    refine rg_q (.inl rfl) rfl rfl (by exact QW.qr (qw_extract rfl rfl)) ?_
    refine rg_q (.inl rfl) rfl rfl (by exact QW.qr (qw_extract rfl rfl)) ?_
    refine rg_q (.inl rfl) rfl rfl (by exact QW.qr (qw_assign rfl)) ?_
    refine rg_q (.inl rfl) rfl rfl (by exact QW.qr (qw_assign rfl)) ?_
    refine rg_nil ?_
    refine qg_then ?_
    refine cg_seq ?_
    refine cg_seq ?_
    refine cg_region ?_
    refine rg_q (.inl rfl) rfl rfl (by exact QW.qr (qw_move rfl)) ?_
    refine rg_split (.inl rfl) rfl rfl (by exact qc_neq rfl rfl) ?_ ?_
    · intro hc
      have hz : ts.length = 0 := hrsn.1 (herr hc)
      refine rg_nil ?_
      refine qg_then ?_
      refine cg_true rfl ?_
      refine cg_seq ?_
      refine cg_region ?_
      refine rg_e (.inl rfl) rfl rfl (by exact ev_call0 rfl (.nil) (awake_ca O _)) ?_
      rintro _ _ ⟨rfl, rfl⟩
      · skip
        refine rg_q (.inl rfl) rfl rfl (by exact QW.qr (qw_move rfl)) ?_
        refine rg_q (.inr (guard_mk rfl rfl rfl rfl)) rfl rfl (by exact QW.qr (qw_move rfl)) ?_
        refine rg_q (.inr (guard_mk rfl rfl rfl rfl)) rfl rfl (by exact QW.qr (qw_len_slice (t := 34) (.cons rfl (.nil)) rfl)) ?_
        refine rg_q (.inr (guard_mk rfl rfl rfl rfl)) rfl rfl (by exact QW.qr (qw_eql_t rfl rfl (by omega))) ?_
        refine rg_q (.inl rfl) rfl rfl (by exact QW.qr (qw_pick_t rfl rfl)) ?_
        refine rg_q (.inl rfl) rfl rfl (by exact QW.qr (qw_assign rfl)) ?_
        refine rg_nil ?_
        refine qg_then ?_
        refine cg_ret ?_
        refine qg_then_ret ?_
        exact qg_end_sp (.inl rfl) _ (.cons (.tmp rfl) (.nil)) L (cat_sub (ls' := []) (ls := [B, [(b9, _)], Bw, [(b4, _)]]) (by repeat (first | exact SubM.nil | refine SubM.cons (by repeat (first | exact Ins.here | apply Ins.there)) ?_))) ⟨rfl, rfl⟩
    · intro hc
      obtain rfl : er = 0 := Decidable.not_not.1 hc
      obtain ⟨hb1, hb2, hb3⟩ := hbok rfl
      have hb1 : fe = 0 ↔ rs ≠ [] := hb1
      have hb2 : rs ≠ [] → best ∈ rs := hb2
      have hb3 : ∀ r ∈ rs, firstOf best.amounts ≤ firstOf r.amounts := hb3
      have hall : ∀ r ∈ rs, RouteOk es from_ to a r := hall
      refine rg_nil ?_
      refine qg_then ?_
      refine cg_false rfl ?_
      refine cg_skip ?_
      refine qg_then ?_
      refine cg_seq ?_
      refine cg_region ?_
      refine rg_q (.inl rfl) rfl rfl (by exact qr_loadN rfl (by repeat (first | exact List.Mem.head _ | apply List.Mem.tail | apply List.mem_append_right | assumption)) (by repeat (first | exact SegL.done | apply SegL.take | apply SegL.skip))) ?_
      refine rg_q (.inl rfl) rfl rfl (by exact QW.qr (qw_move rfl)) ?_
      refine rg_q (.inl rfl) rfl rfl (by exact QW.qr (qw_move rfl)) ?_
      refine rg_q (.inl rfl) rfl rfl (by exact QW.qr (qw_move rfl)) ?_
      refine rg_e (.inl rfl) rfl rfl (by exact ev_call0 rfl (.cons rfl (.cons rfl (.cons rfl (.cons rfl (.nil))))) (hbca O _ (hew.mono (fun q hq => List.mem_append_right _ (List.mem_cons_of_mem _ (List.mem_append_left _ hq)))) hg ha (by omega) (by omega) (fun r hr => by have h := hall r hr; have := h.one; have := h.al; omega))) ?_
      rintro _ _ ⟨tb, Bb, rfl, rfl, htb⟩
      replace htb : RtAt Bb tb best := htb
      obtain ⟨u1, m1, d1, u2, m2, d2, u3, m3, d3⟩ := tb
      unfold encRV
      refine rg_q (.inl rfl) rfl rfl (by exact QW.qr (qw_move rfl)) ?_
      refine rg_q (.inl rfl) rfl rfl (by exact QW.qr (qw_extract rfl rfl)) ?_
      refine rg_q (.inl rfl) rfl rfl (by exact QW.qr (qw_extract rfl rfl)) ?_
      refine rg_e (.inl rfl) rfl rfl (by exact ev_alloc (by first | exact CellsOf.agg | exact CellsOf.one rfl)) ?_
      rintro _ _ ⟨b12, rfl, rfl⟩
      refine rg_e0 (.inl rfl) rfl (by exact ev_store rfl rfl (by first | exact CellsOf.agg | exact CellsOf.one rfl) (by repeat (first | exact List.Mem.head _ | apply List.Mem.tail | apply List.mem_append_right | assumption)) (by repeat (first | exact SetSeg.done | apply SetSeg.take | apply SetSeg.skip)) rfl rfl (by repeat (first | exact Upd.here | apply Upd.there | apply Upd.app)) (by first | exact Or.inl ⟨inferInstance, rfl⟩ | exact Or.inr inferInstance)) ?_
      rintro _ _ ⟨rfl, rfl⟩
      refine rg_q (.inl rfl) rfl rfl (by exact QW.qr (qw_assign rfl)) ?_
      refine rg_nil ?_
      refine qg_then ?_
      refine cg_seq ?_
      refine cg_cut (fun E' L' => E' = [(72, .bool false), (1, I from_), (2, I to), (3, U a), (9, .pointer (some ⟨b9, 0, none⟩)), (12, .pointer (some ⟨b12, 0, none⟩)), (10, .slice po ts.length co)] ∧ L' = cat [[(b12, Obj.cells [Value.slice u1 m1 d1, Value.slice u2 m2 d2, Value.slice u3 m3 d3].toArray 41 (0, 0))], Bb, B, [(b9, Obj.cells [Value.slice p spots.length c, Value.slice pE es.length cE].toArray 32 (0, 0))], Bw, [(b4, Obj.cells [Value.slice pz spots.length cz, Value.slice pe es.length ce].toArray 25 (0, 0))]] L) ?_ ?_
      · -- the first part
        have hm3 : m3 = best.amounts.length := by obtain ⟨_, _, e3, _⟩ := id htb.2.2; cases e3; rfl
        refine cg_region ?_
        refine rg_q (.inl rfl) rfl rfl (by exact QW.qr (qw_move rfl)) ?_
        refine rg_split (.inl rfl) rfl rfl (by exact qc_eql rfl rfl) ?_ ?_
        · intro hf
          have hpos : 0 < ts.length := by have h1 := hb1.1 hf; have h2 := mt hrsn.2 h1; omega
          have hbl : 0 < m3 := by
            rw [hm3]
            have h1 := hall best (hb2 (mt hrsn.1 (by omega)))
            have h2 := h1.one
            have h3 := h1.al
            omega
          refine rg_q (.inl rfl) rfl rfl (by exact QW.qr (qw_move rfl)) ?_
          refine rg_q (.inl rfl) rfl rfl (by exact QW.qr (qw_len_slice (t := 34) (.cons rfl (.nil)) rfl)) ?_
          refine rg_q (.inl rfl) rfl rfl (by exact QW.qr (qw_gtr_t rfl rfl (by omega))) ?_
          refine rg_q (.inl rfl) rfl rfl (by exact QW.qr (qw_neq_bool rfl rfl)) ?_
          refine rg_q (.inl rfl) rfl rfl (by exact QW.qr (qw_move rfl)) ?_
          refine rg_q (.inr (guard_mk rfl rfl rfl rfl)) rfl rfl (by exact QW.qr (qw_move rfl)) ?_
          refine rg_q (.inr (guard_mk rfl rfl rfl rfl)) rfl rfl (by exact QW.qr (qw_len_slice (t := 34) (.cons rfl (.nil)) rfl)) ?_
          refine rg_q (.inr (guard_mk rfl rfl rfl rfl)) rfl rfl (by exact QW.qr (qw_gtr_f rfl rfl (by omega))) ?_
          refine rg_q (.inl rfl) rfl rfl (by exact QW.qr (qw_pick_f rfl rfl)) ?_
          refine rg_q (.inl rfl) rfl rfl (by exact QW.qr (qw_move rfl)) ?_
          refine rg_q (.inr (guard_mk rfl rfl rfl rfl)) rfl rfl (by exact QW.qr (qw_move rfl)) ?_
          refine rg_q (.inr (guard_mk rfl rfl rfl rfl)) rfl rfl (by exact QW.qr (qw_len_slice (t := 34) (.cons rfl (.nil)) rfl)) ?_
          refine rg_q (.inr (guard_mk rfl rfl rfl rfl)) rfl rfl (by exact QW.qr (qw_gtr_t rfl rfl (by omega))) ?_
          refine rg_q (.inr (guard_mk rfl rfl rfl rfl)) rfl rfl (by exact QW.qr (qw_move rfl)) ?_
          refine rg_q (.inr (guard_mk rfl rfl rfl rfl)) rfl rfl (by exact QW.qr (qw_fieldAddr rfl)) ?_
          refine rg_q (.inr (guard_mk rfl rfl rfl rfl)) rfl rfl (by exact qr_load1 rfl (by repeat (first | exact List.Mem.head _ | apply List.Mem.tail | apply List.mem_append_right | assumption)) rfl) ?_
          refine rg_q (.inr (guard_mk rfl rfl rfl rfl)) rfl rfl (by exact QW.qr (qw_len_slice (t := 39) (.cons rfl (.nil)) rfl)) ?_
          refine rg_q (.inr (guard_mk rfl rfl rfl rfl)) rfl rfl (by exact QW.qr (qw_eql_f rfl rfl (by show ¬ ((m3 : Int) = 0); omega))) ?_
          refine rg_q (.inr (guard_mk rfl rfl rfl rfl)) rfl rfl (by exact QW.qr (qw_pick_t rfl rfl)) ?_
          refine rg_q (.inl rfl) rfl rfl (by exact QW.qr (qw_pick_f rfl rfl)) ?_
          refine rg_nil ?_
          exact qg_cut_sp _ _ ⟨rfl, rfl⟩ (by repeat (first | exact Sub.nil | refine Sub.cons rfl ?_ | refine Sub.cons (congrArg (fun z => some (Value.int IntKind.i64 z)) (by omega)) ?_)) (SubP.of (List.Sublist.refl _))
        · intro hf
          have hz : ts.length = 0 := by have h1 := mt hb1.2 hf; exact hrsn.1 (Decidable.not_not.1 h1)
          refine rg_q (.inl rfl) rfl rfl (by exact QW.qr (qw_move rfl)) ?_
          refine rg_q (.inl rfl) rfl rfl (by exact QW.qr (qw_len_slice (t := 34) (.cons rfl (.nil)) rfl)) ?_
          refine rg_q (.inl rfl) rfl rfl (by exact QW.qr (qw_gtr_f rfl rfl (by omega))) ?_
          refine rg_q (.inl rfl) rfl rfl (by exact QW.qr (qw_neq_bool rfl rfl)) ?_
          refine rg_q (.inl rfl) rfl rfl (by exact QW.qr (qw_move rfl)) ?_
          refine rg_q (.inr (guard_mk rfl rfl rfl rfl)) rfl rfl (by exact QW.qr (qw_move rfl)) ?_
          refine rg_q (.inr (guard_mk rfl rfl rfl rfl)) rfl rfl (by exact QW.qr (qw_len_slice (t := 34) (.cons rfl (.nil)) rfl)) ?_
          refine rg_q (.inr (guard_mk rfl rfl rfl rfl)) rfl rfl (by exact QW.qr (qw_gtr_f rfl rfl (by omega))) ?_
          refine rg_q (.inl rfl) rfl rfl (by exact QW.qr (qw_pick_f rfl rfl)) ?_
          refine rg_q (.inl rfl) rfl rfl (by exact QW.qr (qw_move rfl)) ?_
          refine rg_q (.inr (guard_mk rfl rfl rfl rfl)) rfl rfl (by exact QW.qr (qw_move rfl)) ?_
          refine rg_q (.inr (guard_mk rfl rfl rfl rfl)) rfl rfl (by exact QW.qr (qw_len_slice (t := 34) (.cons rfl (.nil)) rfl)) ?_
          refine rg_q (.inr (guard_mk rfl rfl rfl rfl)) rfl rfl (by exact QW.qr (qw_gtr_f rfl rfl (by omega))) ?_
          refine rg_q (.inr (guard_mk rfl rfl rfl rfl)) rfl rfl (by exact QW.qr (qw_move rfl)) ?_
          refine rg_s (guard_mk rfl rfl rfl rfl) rfl rfl ?_
          refine rg_s (guard_mk rfl rfl rfl rfl) rfl rfl ?_
          refine rg_s (guard_mk rfl rfl rfl rfl) rfl rfl ?_
          refine rg_s (guard_mk rfl rfl rfl rfl) rfl rfl ?_
          refine rg_q (.inr (guard_mk rfl rfl rfl rfl)) rfl rfl (by exact QW.qr (qw_pick_f rfl rfl)) ?_
          refine rg_q (.inl rfl) rfl rfl (by exact QW.qr (qw_pick_f rfl rfl)) ?_
          refine rg_nil ?_
          exact qg_cut_sp _ _ ⟨rfl, rfl⟩ (by repeat (first | exact Sub.nil | refine Sub.cons rfl ?_ | refine Sub.cons (congrArg (fun z => some (Value.int IntKind.i64 z)) (by omega)) ?_)) (SubP.of (List.Sublist.refl _))
      · rintro _ _ ⟨rfl, rfl⟩
        refine cg_false rfl ?_
        refine cg_skip ?_
        refine qg_then ?_
        refine cg_seq ?_
        refine cg_seq ?_
        refine cg_region ?_
        refine rg_q (.inl rfl) rfl rfl (by exact QW.qr (qw_move rfl)) ?_
        refine rg_q (.inl rfl) rfl rfl (by exact QW.qr (qw_len_slice (t := 34) (.cons rfl (.nil)) rfl)) ?_
        refine rg_q (.inl rfl) rfl rfl (by exact QW.qr (qw_move rfl)) ?_
        refine rg_nil ?_
        refine qg_then ?_
        refine cg_block ?_
        refine cg_loop (fun E' L' m => ∃ k : Nat, k ≤ ts.length ∧ E' = [(1, I from_), (2, I to), (3, U a), (9, .pointer (some ⟨b9, 0, none⟩)), (12, .pointer (some ⟨b12, 0, none⟩)), (73, .slice po ts.length co), (74, .int .i64 ts.length), (75, .int .i64 k)] ∧ L' = cat [[(b12, Obj.cells [Value.slice u1 m1 d1, Value.slice u2 m2 d2, Value.slice u3 m3 d3].toArray 41 (0, 0))], Bb, B, [(b9, Obj.cells [Value.slice p spots.length c, Value.slice pE es.length cE].toArray 32 (0, 0))], Bw, [(b4, Obj.cells [Value.slice pz spots.length cz, Value.slice pe es.length ce].toArray 25 (0, 0))]] L ∧ m = ts.length - k)
          _ _ _ ⟨0, by omega, rfl, rfl, rfl⟩ (by repeat (first | exact Sub.nil | refine Sub.cons rfl ?_ | refine Sub.cons (congrArg (fun z => some (Value.int IntKind.i64 z)) (by omega)) ?_)) (List.Perm.refl _) ?_
        rintro _ _ _ ⟨k, hk, rfl, rfl, rfl⟩
        refine cg_seq ?_
        refine cg_region ?_
        refine rg_split (.inl rfl) rfl rfl (by exact qc_lss rfl rfl) ?_ ?_
        · intro hlt
          have hklt : k < ts.length := by omega
          have hk2 : k < rs.length := by omega
          obtain ⟨bo, oo, Ao, yo, fzo, rfl, hmo, hsego⟩ := hRo (by omega)
          have hfe := hsego.elem (enc := encRV) (k := 3) (fun _ => rfl) hklt
          have hat := hrs.2 k hklt hk2
          have hrok := hall rs[k] (List.getElem_mem hk2)
          have hble := hb3 rs[k] (List.getElem_mem hk2)
          have hbrok := hall best (hb2 (mt hrsn.1 (by omega)))
          replace hat : RtAt B ts[k] rs[k] := hat
          generalize ts[k] = tv at hat hfe
          generalize rs[k] = r at hat hrok hble
          obtain ⟨q1, l1, c1, q2, l2, c2, q3, l3, c3⟩ := tv
          obtain ⟨ht1, ht2, ht3⟩ := id hat
          obtain ⟨_, _, e1, _, _, _, hR1⟩ := id ht1
          obtain ⟨_, _, e2, _, _, _, hR2⟩ := id ht2
          obtain ⟨_, _, e3, _, _, _, hR3⟩ := id ht3
          cases e1
          cases e2
          cases e3
          have hone := hrok.one
          have hfew := hrok.few
          have hnl := hrok.nl
          have hal := hrok.al
          obtain ⟨bN, oN, AN, yN, fN, rfl, hmN, hsN⟩ := hR1 (by omega)
          obtain ⟨bX, oX, AX, yX, fX, rfl, hmX, hsX⟩ := hR2 (by omega)
          obtain ⟨bA, oA, AA, yA, fA, rfl, hmA, hsA⟩ := hR3 (by omega)
          have hg0 : AN[oN + (0 : Int).toNat * 1]? = some (I from_) := seg_i hsN hrok.first (by simp)
          have hgn : AN[oN + (r.edges.length : Int).toNat * 1]? = some (I to) := seg_i hsN hrok.last (by omega)
          have hga : AA[oA + ((r.edges.length : Int) - 1).toNat * 1]? = some (U a) := seg_u hsA hrok.alast (by omega)
          have hgf : AA[oA + (0 : Int).toNat * 1]? = some (U (firstOf r.amounts)) := seg_u hsA (firstOf_get (by omega)) (by simp)
          obtain ⟨hB1, hB2, hB3⟩ := id htb
          obtain ⟨_, _, e4, _, _, _, hR4⟩ := id hB3
          cases e4
          have hbone := hbrok.one
          have hbal := hbrok.al
          obtain ⟨bB, oB, AB, yB, fB, rfl, hmB, hsB⟩ := hR4 (by omega)
          have hgb : AB[oB + (0 : Int).toNat * 1]? = some (U (firstOf best.amounts)) := seg_u hsB (firstOf_get (by omega)) (by simp)
          have hra := hrok.range _ (firstOf_mem (am := r.amounts) (by omega))
          have hfees : feesS r.amounts = IntKind.wrap .u64 (firstOf r.amounts - a) := by rw [feesS, if_neg (by omega), hrok.lastOf]
          refine rg_nil ?_
          refine qg_then ?_
          refine cg_seq ?_
          refine cg_true rfl ?_
          refine cg_skip ?_
          refine qg_then ?_
          refine cg_seq ?_
          refine cg_block ?_
          refine cg_seq ?_
          refine cg_region ?_
          refine rg_q (.inl rfl) rfl rfl (by exact QW.qr (qw_indexAddr rfl rfl (by omega) (by omega))) ?_
          refine rg_q (.inl rfl) rfl rfl (by exact qr_loadS (vs := [.slice (some ⟨bN, oN, none⟩) r.nodes.length c1, .slice (some ⟨bX, oX, none⟩) r.edges.length c2, .slice (some ⟨bA, oA, none⟩) r.amounts.length c3]) rfl (mem_cat (s := B) (by repeat (first | exact List.Mem.head _ | apply List.Mem.tail)) hmo) hfe rfl) ?_
          refine rg_e (.inl rfl) rfl rfl (by exact ev_alloc (by first | exact CellsOf.agg | exact CellsOf.one rfl)) ?_
          rintro _ _ ⟨b15, rfl, rfl⟩
          refine rg_e0 (.inl rfl) rfl (by exact ev_store rfl rfl (by first | exact CellsOf.agg | exact CellsOf.one rfl) (by repeat (first | exact List.Mem.head _ | apply List.Mem.tail | apply List.mem_append_right | assumption)) (by repeat (first | exact SetSeg.done | apply SetSeg.take | apply SetSeg.skip)) rfl rfl (by repeat (first | exact Upd.here | apply Upd.there | apply Upd.app)) (by first | exact Or.inl ⟨inferInstance, rfl⟩ | exact Or.inr inferInstance)) ?_
          rintro _ _ ⟨rfl, rfl⟩
          refine rg_nil ?_
          refine qg_then ?_
          refine cg_seq ?_
          refine cg_region ?_
          refine rg_q (.inl rfl) rfl rfl (by exact qr_loadN rfl (by repeat (first | exact List.Mem.head _ | apply List.Mem.tail | apply List.mem_append_right | assumption)) (by repeat (first | exact SegL.done | apply SegL.take | apply SegL.skip))) ?_
          refine rg_e (.inl rfl) rfl rfl (by exact ev_call0 rfl (.cons rfl (.nil)) (long_ca _ _ _ _ _ rfl rfl O _)) ?_
          rintro _ _ ⟨rfl, rfl⟩
          refine rg_q (.inl rfl) rfl rfl (by exact QW.qr (qw_assign rfl)) ?_
          refine rg_nil ?_
          refine qg_then ?_
          refine cg_seq ?_
          refine cg_seq ?_
          refine cg_draw follows (.op 0 false (.op 1 false (.op 2 false (.op 3 false (.op 4 false (.op 5 false (.op 6 false (.op 7 false (.op 8 false (.op 9 false (.op 10 false (.op 11 false (.op 12 false (.op 13 false (.op 14 false (.op 15 false (.op 16 false (.op 17 false (.op 18 false (.op 19 false (.op 20 false (.op 21 false (.op 22 false (.op 23 false (.op 24 false (.op 25 false (.op 26 false (.op 27 false (.op 28 false (.op 29 false (.op 30 false (.op 31 false (.op 32 false (.op 33 false (.op 34 false (.op 35 false (.op 36 false (.op 37 false (.op 38 false (.op 39 false (.op 40 false (.op 41 false (.op 42 false (.op 43 false (.op 44 false (.op 45 false (.op 46 false (.op 47 false (.op 48 false (.op 49 false (.op 50 false (.op 51 false (.op 52 false (.op 53 false (.op 54 false (.op 55 false (.op 56 false (.op 58 false (.op 59 false (.op 60 false (.op 61 false (.op 62 false (.op 63 false (.op 57 true (.op 64 false (.op 65 false (.op 66 false (.op 67 false (.op 68 false (.op 69 false (.op 70 false (.op 71 false (.op 72 false (.op 73 false (.op 74 false (.op 75 false (.op 76 false .done))))))))))))))))))))))))))))))))))))))))))))))))))))))))))))))))))))))))))))) _ (by kernel_rfl) (SubP.of (List.Sublist.refl _)) ?_
          refine dg_w rfl rfl (.inl rfl) rfl rfl (by exact qw_move rfl) ?_
          refine dg_w rfl rfl (.inl rfl) rfl rfl (by exact qw_lss_f rfl rfl (by omega)) ?_
          refine dg_w rfl rfl (.inl rfl) rfl rfl (by exact qw_move rfl) ?_
          refine dg_w rfl rfl (.inr (guard_mk rfl rfl rfl rfl)) rfl rfl (by exact qw_move rfl) ?_
          refine dg_w rfl rfl (.inr (guard_mk rfl rfl rfl rfl)) rfl rfl (by exact qw_gtr_f rfl rfl (by omega)) ?_
          refine dg_w rfl rfl (.inl rfl) rfl rfl (by exact qw_pick_f rfl rfl) ?_
          refine dg_w rfl rfl (.inl rfl) rfl rfl (by exact qw_move rfl) ?_
          refine dg_w rfl rfl (.inr (guard_mk rfl rfl rfl rfl)) rfl rfl (by exact qw_fieldAddr rfl) ?_
          refine dg_r rfl rfl rfl (.inr (guard_mk rfl rfl rfl rfl)) rfl rfl (by exact qr_load1 rfl (by repeat (first | exact List.Mem.head _ | apply List.Mem.tail | apply List.mem_append_right | assumption)) rfl) ?_
          refine dg_w rfl rfl (.inr (guard_mk rfl rfl rfl rfl)) rfl rfl (by exact qw_len_slice (t := 38) (.cons rfl (.nil)) rfl) ?_
          refine dg_w rfl rfl (.inr (guard_mk rfl rfl rfl rfl)) rfl rfl (by exact qw_move rfl) ?_
          refine dg_w rfl rfl (.inr (guard_mk rfl rfl rfl rfl)) rfl rfl (by exact qw_add_in rfl rfl (by unfold inK; omega)) ?_
          refine dg_w rfl rfl (.inr (guard_mk rfl rfl rfl rfl)) rfl rfl (by exact qw_neq_f rfl rfl (by omega)) ?_
          refine dg_w rfl rfl (.inl rfl) rfl rfl (by exact qw_pick_f rfl rfl) ?_
          refine dg_w rfl rfl (.inl rfl) rfl rfl (by exact qw_move rfl) ?_
          refine dg_w rfl rfl (.inr (guard_mk rfl rfl rfl rfl)) rfl rfl (by exact qw_fieldAddr rfl) ?_
          refine dg_r rfl rfl rfl (.inr (guard_mk rfl rfl rfl rfl)) rfl rfl (by exact qr_load1 rfl (by repeat (first | exact List.Mem.head _ | apply List.Mem.tail | apply List.mem_append_right | assumption)) rfl) ?_
          refine dg_w rfl rfl (.inr (guard_mk rfl rfl rfl rfl)) rfl rfl (by exact qw_len_slice (t := 38) (.cons rfl (.nil)) rfl) ?_
          refine dg_w rfl rfl (.inr (guard_mk rfl rfl rfl rfl)) rfl rfl (by exact qw_move rfl) ?_
          refine dg_w rfl rfl (.inr (guard_mk rfl rfl rfl rfl)) rfl rfl (by exact qw_neq_f rfl rfl (by omega)) ?_
          refine dg_w rfl rfl (.inl rfl) rfl rfl (by exact qw_pick_f rfl rfl) ?_
          refine dg_w rfl rfl (.inl rfl) rfl rfl (by exact qw_move rfl) ?_
          refine dg_w rfl rfl (.inr (guard_mk rfl rfl rfl rfl)) rfl rfl (by exact qw_fieldAddr rfl) ?_
          refine dg_r rfl rfl rfl (.inr (guard_mk rfl rfl rfl rfl)) rfl rfl (by exact qr_load1 rfl (by repeat (first | exact List.Mem.head _ | apply List.Mem.tail | apply List.mem_append_right | assumption)) rfl) ?_
          refine dg_w rfl rfl (.inr (guard_mk rfl rfl rfl rfl)) rfl rfl (by exact qw_len_slice (t := 39) (.cons rfl (.nil)) rfl) ?_
          refine dg_w rfl rfl (.inr (guard_mk rfl rfl rfl rfl)) rfl rfl (by exact qw_move rfl) ?_
          refine dg_w rfl rfl (.inr (guard_mk rfl rfl rfl rfl)) rfl rfl (by exact qw_neq_f rfl rfl (by omega)) ?_
          refine dg_w rfl rfl (.inl rfl) rfl rfl (by exact qw_pick_f rfl rfl) ?_
          refine dg_w rfl rfl (.inl rfl) rfl rfl (by exact qw_move rfl) ?_
          refine dg_w rfl rfl (.inr (guard_mk rfl rfl rfl rfl)) rfl rfl (by exact qw_fieldAddr rfl) ?_
          refine dg_r rfl rfl rfl (.inr (guard_mk rfl rfl rfl rfl)) rfl rfl (by exact qr_load1 rfl (by repeat (first | exact List.Mem.head _ | apply List.Mem.tail | apply List.mem_append_right | assumption)) rfl) ?_
          refine dg_w rfl rfl (.inr (guard_mk rfl rfl rfl rfl)) rfl rfl (by exact qw_indexAddr rfl rfl (by omega) (by omega)) ?_
          refine dg_r rfl rfl rfl (.inr (guard_mk rfl rfl rfl rfl)) rfl rfl (by exact qr_load1' rfl (List.mem_cons_of_mem _ (mem_cat (s := B) (by repeat (first | exact List.Mem.head _ | apply List.Mem.tail)) hmN)) hg0) ?_
          refine dg_w rfl rfl (.inr (guard_mk rfl rfl rfl rfl)) rfl rfl (by exact qw_move rfl) ?_
          refine dg_w rfl rfl (.inr (guard_mk rfl rfl rfl rfl)) rfl rfl (by exact qw_neq_f rfl rfl (fun h => h rfl)) ?_
          refine dg_w rfl rfl (.inl rfl) rfl rfl (by exact qw_pick_f rfl rfl) ?_
          refine dg_w rfl rfl (.inl rfl) rfl rfl (by exact qw_move rfl) ?_
          refine dg_w rfl rfl (.inr (guard_mk rfl rfl rfl rfl)) rfl rfl (by exact qw_fieldAddr rfl) ?_
          refine dg_r rfl rfl rfl (.inr (guard_mk rfl rfl rfl rfl)) rfl rfl (by exact qr_load1 rfl (by repeat (first | exact List.Mem.head _ | apply List.Mem.tail | apply List.mem_append_right | assumption)) rfl) ?_
          refine dg_w rfl rfl (.inr (guard_mk rfl rfl rfl rfl)) rfl rfl (by exact qw_move rfl) ?_
          refine dg_w rfl rfl (.inr (guard_mk rfl rfl rfl rfl)) rfl rfl (by exact qw_indexAddr rfl rfl (by omega) (by omega)) ?_
          refine dg_r rfl rfl rfl (.inr (guard_mk rfl rfl rfl rfl)) rfl rfl (by exact qr_load1' rfl (List.mem_cons_of_mem _ (mem_cat (s := B) (by repeat (first | exact List.Mem.head _ | apply List.Mem.tail)) hmN)) hgn) ?_
          refine dg_w rfl rfl (.inr (guard_mk rfl rfl rfl rfl)) rfl rfl (by exact qw_move rfl) ?_
          refine dg_w rfl rfl (.inr (guard_mk rfl rfl rfl rfl)) rfl rfl (by exact qw_neq_f rfl rfl (fun h => h rfl)) ?_
          refine dg_w rfl rfl (.inl rfl) rfl rfl (by exact qw_pick_f rfl rfl) ?_
          refine dg_w rfl rfl (.inl rfl) rfl rfl (by exact qw_move rfl) ?_
          refine dg_w rfl rfl (.inr (guard_mk rfl rfl rfl rfl)) rfl rfl (by exact qw_fieldAddr rfl) ?_
          refine dg_r rfl rfl rfl (.inr (guard_mk rfl rfl rfl rfl)) rfl rfl (by exact qr_load1 rfl (by repeat (first | exact List.Mem.head _ | apply List.Mem.tail | apply List.mem_append_right | assumption)) rfl) ?_
          refine dg_w rfl rfl (.inr (guard_mk rfl rfl rfl rfl)) rfl rfl (by exact qw_move rfl) ?_
          refine dg_w rfl rfl (.inr (guard_mk rfl rfl rfl rfl)) rfl rfl (by exact qw_sub_in rfl rfl (by unfold inK; omega)) ?_
          refine dg_w rfl rfl (.inr (guard_mk rfl rfl rfl rfl)) rfl rfl (by exact qw_indexAddr rfl rfl (by omega) (by omega)) ?_
          refine dg_r rfl rfl rfl (.inr (guard_mk rfl rfl rfl rfl)) rfl rfl (by exact qr_load1' rfl (List.mem_cons_of_mem _ (mem_cat (s := B) (by repeat (first | exact List.Mem.head _ | apply List.Mem.tail)) hmA)) hga) ?_
          refine dg_w rfl rfl (.inr (guard_mk rfl rfl rfl rfl)) rfl rfl (by exact qw_move rfl) ?_
          refine dg_w rfl rfl (.inr (guard_mk rfl rfl rfl rfl)) rfl rfl (by exact qw_neq_f rfl rfl (fun h => h rfl)) ?_
          refine dg_w rfl rfl (.inl rfl) rfl rfl (by exact qw_pick_f rfl rfl) ?_
          refine dg_w rfl rfl (.inl rfl) rfl rfl (by exact qw_move rfl) ?_
          refine dg_r rfl rfl rfl (.inr (guard_mk rfl rfl rfl rfl)) rfl rfl (by exact qr_loadN rfl (by repeat (first | exact List.Mem.head _ | apply List.Mem.tail | apply List.mem_append_right | assumption)) (by repeat (first | exact SegL.done | apply SegL.take | apply SegL.skip))) ?_
          refine dg_w rfl rfl (.inr (guard_mk rfl rfl rfl rfl)) rfl rfl (by exact qw_fieldAddr rfl) ?_
          refine dg_r rfl rfl rfl (.inr (guard_mk rfl rfl rfl rfl)) rfl rfl (by exact qr_load1 rfl (by repeat (first | exact List.Mem.head _ | apply List.Mem.tail | apply List.mem_append_right | assumption)) rfl) ?_
          refine dg_w rfl rfl (.inr (guard_mk rfl rfl rfl rfl)) rfl rfl (by exact qw_indexAddr rfl rfl (by omega) (by omega)) ?_
          refine dg_r rfl rfl rfl (.inr (guard_mk rfl rfl rfl rfl)) rfl rfl (by exact qr_load1' rfl (List.mem_cons_of_mem _ (mem_cat (s := B) (by repeat (first | exact List.Mem.head _ | apply List.Mem.tail)) hmA)) hgf) ?_
          refine dg_w rfl rfl (.inr (guard_mk rfl rfl rfl rfl)) rfl rfl (by exact qw_move rfl) ?_
          refine dg_w rfl rfl (.inr (guard_mk rfl rfl rfl rfl)) rfl rfl (by exact qw_sub rfl rfl) ?_
          refine dg_e rfl rfl (.inr (guard_mk rfl rfl rfl rfl)) rfl rfl (by exact ev_call0 rfl (.cons rfl (.nil)) (fees_ca r.amounts _ _ _ rfl rfl O _ (ht3.mono (fun q hq => List.mem_cons_of_mem _ (mem_cat (s := B) (by repeat (first | exact List.Mem.head _ | apply List.Mem.tail)) hq))) (by omega))) ?_
          rintro _ _ ⟨rfl, rfl⟩
          refine ⟨(SubP.of (List.Sublist.refl _)), ?_⟩
          refine dg_w rfl rfl (.inr (guard_mk rfl rfl rfl rfl)) rfl rfl (by exact qw_neq_f rfl rfl (fun h => h hfees)) ?_
          refine dg_w rfl rfl (.inl rfl) rfl rfl (by exact qw_pick_f rfl rfl) ?_
          refine dg_w rfl rfl (.inl rfl) rfl rfl (by exact qw_move rfl) ?_
          refine dg_w rfl rfl (.inr (guard_mk rfl rfl rfl rfl)) rfl rfl (by exact qw_fieldAddr rfl) ?_
          refine dg_r rfl rfl rfl (.inr (guard_mk rfl rfl rfl rfl)) rfl rfl (by exact qr_load1 rfl (by repeat (first | exact List.Mem.head _ | apply List.Mem.tail | apply List.mem_append_right | assumption)) rfl) ?_
          refine dg_w rfl rfl (.inr (guard_mk rfl rfl rfl rfl)) rfl rfl (by exact qw_indexAddr rfl rfl (by omega) (by omega)) ?_
          refine dg_r rfl rfl rfl (.inr (guard_mk rfl rfl rfl rfl)) rfl rfl (by exact qr_load1' rfl (List.mem_cons_of_mem _ (mem_cat (s := B) (by repeat (first | exact List.Mem.head _ | apply List.Mem.tail)) hmA)) hgf) ?_
          refine dg_w rfl rfl (.inr (guard_mk rfl rfl rfl rfl)) rfl rfl (by exact qw_fieldAddr rfl) ?_
          refine dg_r rfl rfl rfl (.inr (guard_mk rfl rfl rfl rfl)) rfl rfl (by exact qr_load1 rfl (by repeat (first | exact List.Mem.head _ | apply List.Mem.tail | apply List.mem_append_right | assumption)) rfl) ?_
          refine dg_w rfl rfl (.inr (guard_mk rfl rfl rfl rfl)) rfl rfl (by exact qw_indexAddr rfl rfl (by omega) (by omega)) ?_
          refine dg_r rfl rfl rfl (.inr (guard_mk rfl rfl rfl rfl)) rfl rfl (by exact qr_load1' rfl (List.mem_cons_of_mem _ (mem_cat (s := Bb) (by repeat (first | exact List.Mem.head _ | apply List.Mem.tail)) hmB)) hgb) ?_
          refine dg_w rfl rfl (.inr (guard_mk rfl rfl rfl rfl)) rfl rfl (by exact qw_lss_f rfl rfl (by omega)) ?_
          refine dg_w rfl rfl (.inl rfl) rfl rfl (by exact qw_pick_f rfl rfl) ?_
          refine dg_nil ?_
          refine qg_then ?_
          refine cg_false rfl ?_
          refine cg_skip ?_
          refine qg_then ?_
          refine cg_seq ?_
          refine cg_region ?_
          refine rg_e (.inl rfl) rfl rfl (by exact ev_makeMap0) ?_
          rintro _ _ ⟨b158, rfl, rfl⟩
          refine rg_q (.inl rfl) rfl rfl (by exact QW.qr (qw_assign rfl)) ?_
          refine rg_nil ?_
          refine qg_then ?_
          refine cg_seq ?_
          refine cg_region ?_
          refine rg_q (.inl rfl) rfl rfl (by exact QW.qr (qw_fieldAddr rfl)) ?_
          refine rg_q (.inl rfl) rfl rfl (by exact qr_load1 rfl (by repeat (first | exact List.Mem.head _ | apply List.Mem.tail | apply List.mem_append_right | assumption)) rfl) ?_
          refine rg_q (.inl rfl) rfl rfl (by exact QW.qr (qw_len_slice (t := 38) (.cons rfl (.nil)) rfl)) ?_
          refine rg_q (.inl rfl) rfl rfl (by exact QW.qr (qw_move rfl)) ?_
          refine rg_nil ?_
          refine qg_then ?_
          refine cg_block ?_
          refine cg_loop (fun E' L' m => ∃ (i : Nat) (ms : Array MapEntry) (mc : Nat) (f : Value → Option Value), i ≤ r.edges.length ∧ MapOk (.int .i64) ms f ∧ (∀ (j : Nat) (x : Int), i ≤ j → r.nodes[j]? = some x → f (I x) = none) ∧
            E' = [(15, .pointer (some ⟨b15, 0, none⟩)), (16, .int .i64 r.edges.length), (17, .map (some b158)), (160, .slice (some ⟨bN, oN, none⟩) r.nodes.length c1), (161, .int .i64 r.nodes.length), (162, .int .i64 i), (1, I from_), (2, I to), (3, U a), (9, .pointer (some ⟨b9, 0, none⟩)), (12, .pointer (some ⟨b12, 0, none⟩)), (73, .slice (some ⟨bo, oo, none⟩) ts.length co), (74, .int .i64 ts.length), (75, .int .i64 k)] ∧ L' = cat [[(b158, Obj.map ms mc)], [(b15, Obj.cells [Value.slice (some ⟨bN, oN, none⟩) r.nodes.length c1, Value.slice (some ⟨bX, oX, none⟩) r.edges.length c2, Value.slice (some ⟨bA, oA, none⟩) r.amounts.length c3].toArray 41 (0, 0))], [(b12, Obj.cells [Value.slice u1 m1 d1, Value.slice u2 m2 d2, Value.slice (some ⟨bB, oB, none⟩) best.amounts.length d3].toArray 41 (0, 0))], Bb, B, [(b9, Obj.cells [Value.slice p spots.length c, Value.slice pE es.length cE].toArray 32 (0, 0))], Bw, [(b4, Obj.cells [Value.slice pz spots.length cz, Value.slice pe es.length ce].toArray 25 (0, 0))]] L ∧ m = r.edges.length + 1 - i)
            _ _ _ ⟨0, #[], 0, _, by omega, MapOk.nil, fun _ _ _ _ => rfl, rfl, rfl, rfl⟩ (by repeat (first | exact Sub.nil | refine Sub.cons rfl ?_ | refine Sub.cons (congrArg (fun z => some (Value.int IntKind.i64 z)) (by omega)) ?_)) (List.Perm.refl _) ?_
          rintro _ _ _ ⟨i, ms, mc, f, hi, hmap, hfree, rfl, rfl, rfl⟩
          refine cg_seq ?_
          refine cg_region ?_
          refine rg_q (.inl rfl) rfl rfl (by exact QW.qr (qw_lss_t rfl rfl (by omega))) ?_
          refine rg_nil ?_
          refine qg_then ?_
          refine cg_seq ?_
          refine cg_true rfl ?_
          refine cg_skip ?_
          refine qg_then ?_
          refine cg_seq ?_
          refine cg_block ?_
          refine cg_seq ?_
          obtain ⟨x, hx⟩ : ∃ x, r.nodes[i]? = some x := ⟨_, List.getElem?_eq_getElem (by omega)⟩
          have hgx : AN[oN + (i : Int).toNat * 1]? = some (I x) := seg_i hsN hx (by simp)
          refine cg_region ?_
          refine rg_q (.inl rfl) rfl rfl (by exact QW.qr (qw_move rfl)) ?_
          refine rg_q (.inl rfl) rfl rfl (by exact QW.qr (qw_indexAddr rfl rfl (by omega) (by omega))) ?_
          refine rg_q (.inl rfl) rfl rfl (by exact qr_load1' rfl (mem_cat (s := B) (by repeat (first | exact List.Mem.head _ | apply List.Mem.tail)) hmN) hgx) ?_
          refine rg_q (.inl rfl) rfl rfl (by exact QW.qr (qw_assign rfl)) ?_
          refine rg_q (.inl rfl) rfl rfl (by exact QW.qr (qw_assign rfl)) ?_
          refine rg_nil ?_
          refine qg_then ?_
          refine cg_seq ?_
          refine cg_seq ?_
          refine cg_region ?_
          refine rg_q (.inl rfl) rfl rfl (by exact QW.qr (qw_move rfl)) ?_
          refine rg_q (.inl rfl) rfl rfl (by exact QW.qr (qw_move rfl)) ?_
          refine rg_q (.inl rfl) rfl rfl (by exact qr_lookup_no (d := .int .i64) rfl rfl (List.Mem.head _) rfl hmap (hfree i x (Nat.le_refl _) hx)) ?_
          refine rg_nil ?_
          refine qg_then ?_
          refine cg_false rfl ?_
          refine cg_skip ?_
          refine qg_then ?_
          refine cg_seq ?_
          refine cg_region ?_
          refine rg_q (.inl rfl) rfl rfl (by exact QW.qr (qw_move rfl)) ?_
          refine rg_q (.inl rfl) rfl rfl (by exact QW.qr (qw_move rfl)) ?_
          refine rg_e0 (.inl rfl) rfl (by exact ev_mapUpdate (d := .int .i64) (L' := fun ms mc => cat [[(b158, Obj.map ms mc)], [(b15, Obj.cells [Value.slice (some ⟨bN, oN, none⟩) r.nodes.length c1, Value.slice (some ⟨bX, oX, none⟩) r.edges.length c2, Value.slice (some ⟨bA, oA, none⟩) r.amounts.length c3].toArray 41 (0, 0))], [(b12, Obj.cells [Value.slice u1 m1 d1, Value.slice u2 m2 d2, Value.slice (some ⟨bB, oB, none⟩) best.amounts.length d3].toArray 41 (0, 0))], Bb, B, [(b9, Obj.cells [Value.slice p spots.length c, Value.slice pE es.length cE].toArray 32 (0, 0))], Bw, [(b4, Obj.cells [Value.slice pz spots.length cz, Value.slice pe es.length ce].toArray 25 (0, 0))]] L) rfl rfl rfl rfl hmap (fun _ _ => Upd.here)) ?_
          rintro _ _ ⟨rfl, ms2, mc2, rfl, hmap2⟩
          have hfree2 : ∀ (j : Nat) (y : Int), i + 1 ≤ j → r.nodes[j]? = some y → putF f (I x) (.bool true) (I y) = none := by
            intro j y hj hy
            rw [putF_ne _ _ ?_]
            · exact hfree j y (by omega) hy
            · intro he
              cases he
              obtain ⟨h1, h2⟩ := List.getElem?_eq_some_iff.1 hy
              obtain ⟨h3, h4⟩ := List.getElem?_eq_some_iff.1 hx
              have := (List.getElem_inj hrok.nd (h₀ := h1) (h₁ := h3)).1 (by rw [h2, h4])
              omega
          refine rg_nil ?_
          refine qg_then ?_
          refine cg_seq ?_
          refine cg_seq ?_
          refine cg_region ?_
          refine rg_q (.inl rfl) rfl rfl (by exact QW.qr (qw_move rfl)) ?_
          refine rg_q (.inl rfl) rfl rfl (by exact QW.qr (qw_move rfl)) ?_
          refine rg_split (.inl rfl) rfl rfl (by exact qc_eql rfl rfl) ?_ ?_
          · intro hlast
            refine rg_nil ?_
            refine qg_then ?_
            refine cg_true rfl ?_
            refine cg_exit ?_
            refine qg_then_exit ?_
            refine qg_block_on rfl ?_
            refine qg_then_exit ?_
            refine qg_then_exit ?_
            refine qg_block_here ?_
            refine qg_block ?_
            refine qg_then ?_
            refine cg_region ?_
            refine rg_q (.inl rfl) rfl rfl (by exact QW.qr (qw_add_in rfl rfl (by unfold inK; omega))) ?_
            refine rg_q (.inl rfl) rfl rfl (by exact QW.qr (qw_move rfl)) ?_
            refine rg_nil ?_
            exact qg_round_sp _ _ _ ⟨k + 1, by omega, rfl, rfl, rfl⟩ (by repeat (first | exact Sub.nil | refine Sub.cons rfl ?_ | refine Sub.cons (congrArg (fun z => some (Value.int IntKind.i64 z)) (by omega)) ?_)) (cat_sub (ls' := [[(b12, _)], Bb, B, [(b9, _)], Bw, [(b4, _)]]) (ls := [[(b158, _)], [(b15, _)], [(b12, _)], Bb, B, [(b9, _)], Bw, [(b4, _)]]) (by repeat (first | exact SubM.nil | refine SubM.cons (by repeat (first | exact Ins.here | apply Ins.there)) ?_))) (by omega)
          · intro hlast
            have hil : i < r.edges.length := by omega
            obtain ⟨e, hee⟩ : ∃ e, r.edges[i]? = some e := ⟨_, List.getElem?_eq_getElem hil⟩
            obtain ⟨y, hy⟩ : ∃ y, r.nodes[i + 1]? = some y := ⟨_, List.getElem?_eq_getElem (by omega)⟩
            obtain ⟨am, ham⟩ : ∃ am, r.amounts[i]? = some am := ⟨_, List.getElem?_eq_getElem (by omega)⟩
            obtain ⟨hop, hend, hcan⟩ := hrok.hops i x e y am hx hee hy ham
            obtain ⟨hop1, hop2, hop3⟩ := id hop
            replace hop1 : 0 ≤ e := hop1
            replace hop2 : e.toNat < es.length := hop2
            replace hop3 : sideOf (edgeAt es e) x = 0 ∨ sideOf (edgeAt es e) x = 1 := hop3
            obtain ⟨hec1, hec2⟩ := edge_cells hop hend
            obtain ⟨bE, oE, AE, yE, fE, rfl, hmE, hsEE⟩ := hRE (by omega)
            have hfE := hsEE.elem (enc := encE) (k := 8) (fun _ => rfl) hop2
            rw [edgeAt_eq hop2] at hfE
            have hge : AX[oX + (i : Int).toNat * 1]? = some (I e) := seg_i hsX hee (by simp)
            have hgy : AN[oN + ((i : Int) + 1).toNat * 1]? = some (I y) := seg_i hsN hy (by omega)
            have hgam : AA[oA + (i : Int).toNat * 1]? = some (U am) := seg_u hsA ham (by simp)
            have hgE : AE[oE + e.toNat * 8 + 0 + (1 - sideOf (edgeAt es e) x).toNat * 1]? = some (I y) := by rw [Nat.add_assoc (oE + e.toNat * 8)]; exact hfE.get hec1
            have hgC : AE[oE + e.toNat * 8 + 2 + (sideOf (edgeAt es e) x).toNat * 1]? = some (U (canOf es (x, e))) := by rw [Nat.add_assoc (oE + e.toNat * 8)]; exact hfE.get hec2
            refine rg_nil ?_
            refine qg_then ?_
            refine cg_false rfl ?_
            refine cg_skip ?_
            refine qg_then ?_
            refine cg_seq ?_
            refine cg_seq ?_
            refine cg_draw follows (.op 0 false (.op 1 false (.op 2 false (.op 3 false (.op 4 false (.op 5 false (.op 6 false (.op 7 false (.op 8 false (.op 9 false (.op 10 false (.op 11 false (.op 12 false (.op 13 false (.op 14 false (.op 15 false (.op 16 false .done))))))))))))))))) _ (by kernel_rfl) (SubP.of (List.Sublist.refl _)) ?_
            refine dg_w rfl rfl (.inl rfl) rfl rfl (by exact qw_fieldAddr rfl) ?_
            refine dg_r rfl rfl rfl (.inl rfl) rfl rfl (by exact qr_load1 rfl (by repeat (first | exact List.Mem.head _ | apply List.Mem.tail | apply List.mem_append_right | assumption)) rfl) ?_
            refine dg_w rfl rfl (.inl rfl) rfl rfl (by exact qw_move rfl) ?_
            refine dg_w rfl rfl (.inl rfl) rfl rfl (by exact qw_indexAddr rfl rfl (by omega) (by omega)) ?_
            refine dg_r rfl rfl rfl (.inl rfl) rfl rfl (by exact qr_load1' rfl (mem_cat (s := B) (by repeat (first | exact List.Mem.head _ | apply List.Mem.tail)) hmX) hge) ?_
            refine dg_w rfl rfl (.inl rfl) rfl rfl (by exact qw_lss_f rfl rfl (by omega)) ?_
            refine dg_w rfl rfl (.inl rfl) rfl rfl (by exact qw_move rfl) ?_
            refine dg_w rfl rfl (.inr (guard_mk rfl rfl rfl rfl)) rfl rfl (by exact qw_fieldAddr rfl) ?_
            refine dg_r rfl rfl rfl (.inr (guard_mk rfl rfl rfl rfl)) rfl rfl (by exact qr_load1 rfl (by repeat (first | exact List.Mem.head _ | apply List.Mem.tail | apply List.mem_append_right | assumption)) rfl) ?_
            refine dg_w rfl rfl (.inr (guard_mk rfl rfl rfl rfl)) rfl rfl (by exact qw_move rfl) ?_
            refine dg_w rfl rfl (.inr (guard_mk rfl rfl rfl rfl)) rfl rfl (by exact qw_indexAddr rfl rfl (by omega) (by omega)) ?_
            refine dg_r rfl rfl rfl (.inr (guard_mk rfl rfl rfl rfl)) rfl rfl (by exact qr_load1' rfl (mem_cat (s := B) (by repeat (first | exact List.Mem.head _ | apply List.Mem.tail)) hmX) hge) ?_
            refine dg_w rfl rfl (.inr (guard_mk rfl rfl rfl rfl)) rfl rfl (by exact qw_fieldAddr rfl) ?_
            refine dg_r rfl rfl rfl (.inr (guard_mk rfl rfl rfl rfl)) rfl rfl (by exact qr_load1 rfl (by repeat (first | exact List.Mem.head _ | apply List.Mem.tail | apply List.mem_append_right | assumption)) rfl) ?_
            refine dg_w rfl rfl (.inr (guard_mk rfl rfl rfl rfl)) rfl rfl (by exact qw_len_slice (t := 30) (.cons rfl (.nil)) rfl) ?_
            refine dg_w rfl rfl (.inr (guard_mk rfl rfl rfl rfl)) rfl rfl (by exact qw_geq_f rfl rfl (by omega)) ?_
            refine dg_w rfl rfl (.inl rfl) rfl rfl (by exact qw_pick_f rfl rfl) ?_
            refine dg_nil ?_
            refine qg_then ?_
            refine cg_false rfl ?_
            refine cg_skip ?_
            refine qg_then ?_
            refine cg_seq ?_
            refine cg_draw follows (.op 0 false (.op 1 false (.op 2 false (.op 3 false (.op 4 false (.op 5 false (.op 6 false (.op 7 false (.op 8 false (.op 9 false (.op 10 true (.op 11 false .done)))))))))))) _ (by kernel_rfl) (SubP.of (List.Sublist.refl _)) ?_
            refine dg_w rfl rfl (.inl rfl) rfl rfl (by exact qw_fieldAddr rfl) ?_
            refine dg_r rfl rfl rfl (.inl rfl) rfl rfl (by exact qr_load1 rfl (by repeat (first | exact List.Mem.head _ | apply List.Mem.tail | apply List.mem_append_right | assumption)) rfl) ?_
            refine dg_w rfl rfl (.inl rfl) rfl rfl (by exact qw_fieldAddr rfl) ?_
            refine dg_r rfl rfl rfl (.inl rfl) rfl rfl (by exact qr_load1 rfl (by repeat (first | exact List.Mem.head _ | apply List.Mem.tail | apply List.mem_append_right | assumption)) rfl) ?_
            refine dg_w rfl rfl (.inl rfl) rfl rfl (by exact qw_move rfl) ?_
            refine dg_w rfl rfl (.inl rfl) rfl rfl (by exact qw_indexAddr rfl rfl (by omega) (by omega)) ?_
            refine dg_r rfl rfl rfl (.inl rfl) rfl rfl (by exact qr_load1' rfl (mem_cat (s := B) (by repeat (first | exact List.Mem.head _ | apply List.Mem.tail)) hmX) hge) ?_
            refine dg_w rfl rfl (.inl rfl) rfl rfl (by exact qw_indexAddr rfl rfl (by exact hop1) (by show e < _; omega)) ?_
            refine dg_r rfl rfl rfl (.inl rfl) rfl rfl (by exact qr_loadS rfl (mem_cat (s := Bw) (by repeat (first | exact List.Mem.head _ | apply List.Mem.tail)) hmE) hfE rfl) ?_
            refine dg_w rfl rfl (.inl rfl) rfl rfl (by exact qw_move rfl) ?_
            refine dg_e rfl rfl (.inl rfl) rfl rfl (by exact ev_call0 rfl (.cons rfl (.cons rfl (.nil))) (side_ca (edgeAt es e) x O _)) ?_
            rintro _ _ ⟨rfl, rfl⟩
            refine ⟨(SubP.of (by repeat (first | exact List.Sublist.refl _ | exact List.nil_sublist _ | exact List.sublist_append_right _ _ | apply List.Sublist.cons_cons | apply List.Sublist.cons))), ?_⟩
            refine dg_w rfl rfl (.inl rfl) rfl rfl (by exact qw_assign rfl) ?_
            refine dg_nil ?_
            refine qg_then ?_
            refine cg_seq ?_
            refine cg_draw follows (.op 0 false (.op 1 false (.op 2 false (.op 3 false (.op 4 false (.op 5 false (.op 6 false (.op 7 false (.op 8 false (.op 9 false (.op 10 false (.op 11 false (.op 12 false (.op 13 false (.op 14 false (.op 15 false (.op 16 false (.op 17 false (.op 18 false (.op 19 false (.op 20 false (.op 21 false (.op 22 false (.op 23 false (.op 24 false (.op 25 false (.op 26 false (.op 27 false (.op 28 false (.op 29 false (.op 30 false (.op 31 false (.op 32 false (.op 33 false (.op 34 false (.op 35 false (.op 36 false (.op 37 false (.op 38 false (.op 39 false (.op 40 false (.op 41 false (.op 42 false (.op 43 false (.op 44 false (.op 45 false (.op 46 false (.op 47 false (.op 48 false (.op 49 false (.op 50 false (.op 51 false (.op 52 false (.op 53 false (.op 54 false (.op 55 false (.op 56 false (.op 57 false (.op 58 false (.op 59 false (.op 60 false (.op 61 false (.op 62 false (.op 63 false (.op 64 false (.op 65 false .done)))))))))))))))))))))))))))))))))))))))))))))))))))))))))))))))))) _ (by kernel_rfl) (SubP.of (List.Sublist.refl _)) ?_
            refine dg_w rfl rfl (.inl rfl) rfl rfl (by exact qw_move rfl) ?_
            refine dg_w rfl rfl (.inl rfl) rfl rfl (by exact qw_lss_f rfl rfl (by omega)) ?_
            refine dg_w rfl rfl (.inl rfl) rfl rfl (by exact qw_move rfl) ?_
            refine dg_w rfl rfl (.inr (guard_mk rfl rfl rfl rfl)) rfl rfl (by exact qw_move rfl) ?_
            refine dg_w rfl rfl (.inr (guard_mk rfl rfl rfl rfl)) rfl rfl (by exact qw_gtr_f rfl rfl (by omega)) ?_
            refine dg_w rfl rfl (.inl rfl) rfl rfl (by exact qw_pick_f rfl rfl) ?_
            refine dg_w rfl rfl (.inl rfl) rfl rfl (by exact qw_move rfl) ?_
            refine dg_w rfl rfl (.inr (guard_mk rfl rfl rfl rfl)) rfl rfl (by exact qw_fieldAddr rfl) ?_
            refine dg_r rfl rfl rfl (.inr (guard_mk rfl rfl rfl rfl)) rfl rfl (by exact qr_load1 rfl (by repeat (first | exact List.Mem.head _ | apply List.Mem.tail | apply List.mem_append_right | assumption)) rfl) ?_
            refine dg_w rfl rfl (.inr (guard_mk rfl rfl rfl rfl)) rfl rfl (by exact qw_fieldAddr rfl) ?_
            refine dg_r rfl rfl rfl (.inr (guard_mk rfl rfl rfl rfl)) rfl rfl (by exact qr_load1 rfl (by repeat (first | exact List.Mem.head _ | apply List.Mem.tail | apply List.mem_append_right | assumption)) rfl) ?_
            refine dg_w rfl rfl (.inr (guard_mk rfl rfl rfl rfl)) rfl rfl (by exact qw_move rfl) ?_
            refine dg_w rfl rfl (.inr (guard_mk rfl rfl rfl rfl)) rfl rfl (by exact qw_indexAddr rfl rfl (by omega) (by omega)) ?_
            refine dg_r rfl rfl rfl (.inr (guard_mk rfl rfl rfl rfl)) rfl rfl (by exact qr_load1' rfl (mem_cat (s := B) (by repeat (first | exact List.Mem.head _ | apply List.Mem.tail)) hmX) hge) ?_
            refine dg_w rfl rfl (.inr (guard_mk rfl rfl rfl rfl)) rfl rfl (by exact qw_move rfl) ?_
            refine dg_w rfl rfl (.inr (guard_mk rfl rfl rfl rfl)) rfl rfl (by exact qw_sub_in rfl rfl (by unfold inK; omega)) ?_
            refine dg_w rfl rfl (.inr (guard_mk rfl rfl rfl rfl)) rfl rfl (by exact qw_indexAddr rfl rfl (by exact hop1) (by show e < _; omega)) ?_
            refine dg_w rfl rfl (.inr (guard_mk rfl rfl rfl rfl)) rfl rfl (by exact qw_fieldAddr rfl) ?_
            refine dg_w rfl rfl (.inr (guard_mk rfl rfl rfl rfl)) rfl rfl (by exact qw_indexAddr_arr rfl rfl (by omega) (by omega)) ?_
            refine dg_r rfl rfl rfl (.inr (guard_mk rfl rfl rfl rfl)) rfl rfl (by exact qr_load1' rfl (mem_cat (s := Bw) (by repeat (first | exact List.Mem.head _ | apply List.Mem.tail)) hmE) hgE) ?_
            refine dg_w rfl rfl (.inr (guard_mk rfl rfl rfl rfl)) rfl rfl (by exact qw_fieldAddr rfl) ?_
            refine dg_r rfl rfl rfl (.inr (guard_mk rfl rfl rfl rfl)) rfl rfl (by exact qr_load1 rfl (by repeat (first | exact List.Mem.head _ | apply List.Mem.tail | apply List.mem_append_right | assumption)) rfl) ?_
            refine dg_w rfl rfl (.inr (guard_mk rfl rfl rfl rfl)) rfl rfl (by exact qw_move rfl) ?_
            refine dg_w rfl rfl (.inr (guard_mk rfl rfl rfl rfl)) rfl rfl (by exact qw_add_in rfl rfl (by unfold inK; omega)) ?_
            refine dg_w rfl rfl (.inr (guard_mk rfl rfl rfl rfl)) rfl rfl (by exact qw_indexAddr rfl rfl (by omega) (by omega)) ?_
            refine dg_r rfl rfl rfl (.inr (guard_mk rfl rfl rfl rfl)) rfl rfl (by exact qr_load1' rfl (mem_cat (s := B) (by repeat (first | exact List.Mem.head _ | apply List.Mem.tail)) hmN) hgy) ?_
            refine dg_w rfl rfl (.inr (guard_mk rfl rfl rfl rfl)) rfl rfl (by exact qw_neq_f rfl rfl (fun h => h rfl)) ?_
            refine dg_w rfl rfl (.inl rfl) rfl rfl (by exact qw_pick_f rfl rfl) ?_
            refine dg_w rfl rfl (.inl rfl) rfl rfl (by exact qw_move rfl) ?_
            refine dg_w rfl rfl (.inr (guard_mk rfl rfl rfl rfl)) rfl rfl (by exact qw_fieldAddr rfl) ?_
            refine dg_r rfl rfl rfl (.inr (guard_mk rfl rfl rfl rfl)) rfl rfl (by exact qr_load1 rfl (by repeat (first | exact List.Mem.head _ | apply List.Mem.tail | apply List.mem_append_right | assumption)) rfl) ?_
            refine dg_w rfl rfl (.inr (guard_mk rfl rfl rfl rfl)) rfl rfl (by exact qw_fieldAddr rfl) ?_
            refine dg_r rfl rfl rfl (.inr (guard_mk rfl rfl rfl rfl)) rfl rfl (by exact qr_load1 rfl (by repeat (first | exact List.Mem.head _ | apply List.Mem.tail | apply List.mem_append_right | assumption)) rfl) ?_
            refine dg_w rfl rfl (.inr (guard_mk rfl rfl rfl rfl)) rfl rfl (by exact qw_move rfl) ?_
            refine dg_w rfl rfl (.inr (guard_mk rfl rfl rfl rfl)) rfl rfl (by exact qw_indexAddr rfl rfl (by omega) (by omega)) ?_
            refine dg_r rfl rfl rfl (.inr (guard_mk rfl rfl rfl rfl)) rfl rfl (by exact qr_load1' rfl (mem_cat (s := B) (by repeat (first | exact List.Mem.head _ | apply List.Mem.tail)) hmX) hge) ?_
            refine dg_w rfl rfl (.inr (guard_mk rfl rfl rfl rfl)) rfl rfl (by exact qw_move rfl) ?_
            refine dg_w rfl rfl (.inr (guard_mk rfl rfl rfl rfl)) rfl rfl (by exact qw_indexAddr rfl rfl (by exact hop1) (by show e < _; omega)) ?_
            refine dg_w rfl rfl (.inr (guard_mk rfl rfl rfl rfl)) rfl rfl (by exact qw_fieldAddr rfl) ?_
            refine dg_w rfl rfl (.inr (guard_mk rfl rfl rfl rfl)) rfl rfl (by exact qw_indexAddr_arr rfl rfl (by omega) (by omega)) ?_
            refine dg_r rfl rfl rfl (.inr (guard_mk rfl rfl rfl rfl)) rfl rfl (by exact qr_load1' rfl (mem_cat (s := Bw) (by repeat (first | exact List.Mem.head _ | apply List.Mem.tail)) hmE) hgC) ?_
            refine dg_w rfl rfl (.inr (guard_mk rfl rfl rfl rfl)) rfl rfl (by exact qw_fieldAddr rfl) ?_
            refine dg_r rfl rfl rfl (.inr (guard_mk rfl rfl rfl rfl)) rfl rfl (by exact qr_load1 rfl (by repeat (first | exact List.Mem.head _ | apply List.Mem.tail | apply List.mem_append_right | assumption)) rfl) ?_
            refine dg_w rfl rfl (.inr (guard_mk rfl rfl rfl rfl)) rfl rfl (by exact qw_move rfl) ?_
            refine dg_w rfl rfl (.inr (guard_mk rfl rfl rfl rfl)) rfl rfl (by exact qw_indexAddr rfl rfl (by omega) (by omega)) ?_
            refine dg_r rfl rfl rfl (.inr (guard_mk rfl rfl rfl rfl)) rfl rfl (by exact qr_load1' rfl (mem_cat (s := B) (by repeat (first | exact List.Mem.head _ | apply List.Mem.tail)) hmA) hgam) ?_
            refine dg_w rfl rfl (.inr (guard_mk rfl rfl rfl rfl)) rfl rfl (by exact qw_lss_f rfl rfl (by omega)) ?_
            refine dg_w rfl rfl (.inl rfl) rfl rfl (by exact qw_pick_f rfl rfl) ?_
            refine dg_w rfl rfl (.inl rfl) rfl rfl (by exact qw_move rfl) ?_
            refine dg_w rfl rfl (.inr (guard_mk rfl rfl rfl rfl)) rfl rfl (by exact qw_move rfl) ?_
            refine dg_split rfl rfl (.inr (guard_mk rfl rfl rfl rfl)) rfl rfl (by exact qc_gtr rfl rfl) ?_ ?_
            · intro hi0
              obtain ⟨am0, ham0⟩ : ∃ am, r.amounts[i - 1]? = some am := ⟨_, List.getElem?_eq_getElem (by omega)⟩
              have hmono := hrok.mono (i - 1) am0 am ham0 (by rw [show i - 1 + 1 = i from by omega]; exact ham)
              have hgam0 : AA[oA + ((i : Int) - 1).toNat * 1]? = some (U am0) := seg_u hsA ham0 (by omega)
              refine dg_w rfl rfl (.inr (guard_mk rfl rfl rfl rfl)) rfl rfl (by exact qw_move rfl) ?_
              refine dg_w rfl rfl (.inr (guard_mk rfl rfl rfl rfl)) rfl rfl (by exact qw_fieldAddr rfl) ?_
              refine dg_r rfl rfl rfl (.inr (guard_mk rfl rfl rfl rfl)) rfl rfl (by exact qr_load1 rfl (by repeat (first | exact List.Mem.head _ | apply List.Mem.tail | apply List.mem_append_right | assumption)) rfl) ?_
              refine dg_w rfl rfl (.inr (guard_mk rfl rfl rfl rfl)) rfl rfl (by exact qw_move rfl) ?_
              refine dg_w rfl rfl (.inr (guard_mk rfl rfl rfl rfl)) rfl rfl (by exact qw_indexAddr rfl rfl (by omega) (by omega)) ?_
              refine dg_r rfl rfl rfl (.inr (guard_mk rfl rfl rfl rfl)) rfl rfl (by exact qr_load1' rfl (mem_cat (s := B) (by repeat (first | exact List.Mem.head _ | apply List.Mem.tail)) hmA) hgam) ?_
              refine dg_w rfl rfl (.inr (guard_mk rfl rfl rfl rfl)) rfl rfl (by exact qw_fieldAddr rfl) ?_
              refine dg_r rfl rfl rfl (.inr (guard_mk rfl rfl rfl rfl)) rfl rfl (by exact qr_load1 rfl (by repeat (first | exact List.Mem.head _ | apply List.Mem.tail | apply List.mem_append_right | assumption)) rfl) ?_
              refine dg_w rfl rfl (.inr (guard_mk rfl rfl rfl rfl)) rfl rfl (by exact qw_move rfl) ?_
              refine dg_w rfl rfl (.inr (guard_mk rfl rfl rfl rfl)) rfl rfl (by exact qw_sub_in rfl rfl (by unfold inK; omega)) ?_
              refine dg_w rfl rfl (.inr (guard_mk rfl rfl rfl rfl)) rfl rfl (by exact qw_indexAddr rfl rfl (by omega) (by omega)) ?_
              refine dg_r rfl rfl rfl (.inr (guard_mk rfl rfl rfl rfl)) rfl rfl (by exact qr_load1' rfl (mem_cat (s := B) (by repeat (first | exact List.Mem.head _ | apply List.Mem.tail)) hmA) hgam0) ?_
              refine dg_w rfl rfl (.inr (guard_mk rfl rfl rfl rfl)) rfl rfl (by exact qw_gtr_f rfl rfl (by omega)) ?_
              refine dg_w rfl rfl (.inr (guard_mk rfl rfl rfl rfl)) rfl rfl (by exact qw_pick_t rfl rfl) ?_
              refine dg_w rfl rfl (.inl rfl) rfl rfl (by exact qw_pick_f rfl rfl) ?_
              refine dg_nil ?_
              refine qg_then ?_
              refine cg_false rfl ?_
              refine cg_skip ?_
              refine qg_block ?_
              refine qg_then ?_
              refine cg_region ?_
              refine rg_q (.inl rfl) rfl rfl (by exact QW.qr (qw_add_in rfl rfl (by unfold inK; omega))) ?_
              refine rg_q (.inl rfl) rfl rfl (by exact QW.qr (qw_move rfl)) ?_
              refine rg_nil ?_
              exact qg_round_sp _ _ _ ⟨i + 1, ms2, mc2, _, by omega, hmap2, hfree2, rfl, rfl, rfl⟩ (by repeat (first | exact Sub.nil | refine Sub.cons rfl ?_ | refine Sub.cons (congrArg (fun z => some (Value.int IntKind.i64 z)) (by omega)) ?_)) (SubP.of (List.Sublist.refl _)) (by omega)
            · intro hi0
              refine dg_w rfl rfl (.inr (guard_mk rfl rfl rfl rfl)) rfl rfl (by exact qw_move rfl) ?_
              refine dg_s rfl rfl (guard_mk rfl rfl rfl rfl) rfl rfl ?_
              refine dg_s rfl rfl (guard_mk rfl rfl rfl rfl) rfl rfl ?_
              refine dg_s rfl rfl (guard_mk rfl rfl rfl rfl) rfl rfl ?_
              refine dg_s rfl rfl (guard_mk rfl rfl rfl rfl) rfl rfl ?_
              refine dg_s rfl rfl (guard_mk rfl rfl rfl rfl) rfl rfl ?_
              refine dg_s rfl rfl (guard_mk rfl rfl rfl rfl) rfl rfl ?_
              refine dg_s rfl rfl (guard_mk rfl rfl rfl rfl) rfl rfl ?_
              refine dg_s rfl rfl (guard_mk rfl rfl rfl rfl) rfl rfl ?_
              refine dg_s rfl rfl (guard_mk rfl rfl rfl rfl) rfl rfl ?_
              refine dg_s rfl rfl (guard_mk rfl rfl rfl rfl) rfl rfl ?_
              refine dg_s rfl rfl (guard_mk rfl rfl rfl rfl) rfl rfl ?_
              refine dg_s rfl rfl (guard_mk rfl rfl rfl rfl) rfl rfl ?_
              refine dg_w rfl rfl (.inr (guard_mk rfl rfl rfl rfl)) rfl rfl (by exact qw_pick_f rfl rfl) ?_
              refine dg_w rfl rfl (.inl rfl) rfl rfl (by exact qw_pick_f rfl rfl) ?_
              refine dg_nil ?_
              refine qg_then ?_
              refine cg_false rfl ?_
              refine cg_skip ?_
              refine qg_block ?_
              refine qg_then ?_
              refine cg_region ?_
              refine rg_q (.inl rfl) rfl rfl (by exact QW.qr (qw_add_in rfl rfl (by unfold inK; omega))) ?_
              refine rg_q (.inl rfl) rfl rfl (by exact QW.qr (qw_move rfl)) ?_
              refine rg_nil ?_
              exact qg_round_sp _ _ _ ⟨i + 1, ms2, mc2, _, by omega, hmap2, hfree2, rfl, rfl, rfl⟩ (by repeat (first | exact Sub.nil | refine Sub.cons rfl ?_ | refine Sub.cons (congrArg (fun z => some (Value.int IntKind.i64 z)) (by omega)) ?_)) (SubP.of (List.Sublist.refl _)) (by omega)
        · intro hlt
          refine rg_nil ?_
          refine qg_then ?_
          refine cg_seq ?_
          refine cg_false rfl ?_
          refine cg_exit ?_
          refine qg_then_exit ?_
          refine qg_then_exit ?_
          refine qg_block_here ?_
          refine qg_then ?_
          refine cg_seq ?_
          refine cg_region ?_
          refine rg_e (.inl rfl) rfl rfl (by exact ev_call0 rfl (.nil) (awake_ca O _)) ?_
          rintro _ _ ⟨rfl, rfl⟩
          refine rg_q (.inl rfl) rfl rfl (by exact QW.qr (qw_assign rfl)) ?_
          refine rg_nil ?_
          refine qg_then ?_
          refine cg_ret ?_
          exact qg_end_sp (.inl rfl) _ (.cons (.tmp rfl) (.nil)) L (cat_sub (ls' := []) (ls := [[(b12, _)], Bb, B, [(b9, _)], Bw, [(b4, _)]]) (by repeat (first | exact SubM.nil | refine SubM.cons (by repeat (first | exact Ins.here | apply Ins.there)) ?_))) ⟨rfl, rfl⟩

end Go.Proofs.Ytjimpciiaceleaa